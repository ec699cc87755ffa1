/- What is in any field, what a word is with other bits in it, and what makes it one more, is what the document says: for every word, shift and width. -/
import Derived.Test.YtjlpaefpilhngaaPDiffFieldsx1
import Derived.Test.YtjlpaefpilhngaaZBits
namespace Go.Proofs.Ytjlpaefpilhngaa.Pure
open Go.RowKit Go.Proofs.Ytjlpaefpilhngaa.PDiffFields Go.Proofs.YtjlpaefpilhngaaW.PrintWords Go.Proofs.YtjlpaefpilhngaaW.PrintLast Go.Proofs.Ytjlpaefpilhngaa.ZBits

theorem fields_awake : stilemanlaw02_awake.f = some true := by decide +kernel

theorem fields_field (s w : Int) : diff_field.f s w = some (decide (0 ≤ s ∧ s < 32 ∧ 1 ≤ w ∧ w ≤ 32 - s)) := by
  unfold diff_field.f
  by_cases h0 : s ≥ 0
  · rw [if_pos h0]
    by_cases h1 : s < 32
    · rw [if_pos h1]
      by_cases h2 : w ≥ 1
      · rw [if_pos h2]
        congr 1
        have : wrap64 (32 - s) = 32 - s := by unfold wrap64; omega
        rw [this]
        simp only [h1, ge_iff_le.1 h0, ge_iff_le.1 h2, true_and]
      · rw [if_neg h2]; congr 1; symm; simp; omega
    · rw [if_neg h1]; congr 1; symm; simp; omega
  · rw [if_neg h0]; congr 1; symm; simp; omega

theorem fields_is (s w : Int) : stilemanref02_Is.f s w = some (decide (0 ≤ s ∧ s < 32 ∧ 1 ≤ w ∧ w ≤ 32 - s)) := by
  unfold stilemanref02_Is.f
  by_cases h0 : s ≥ 0
  · rw [if_pos h0]
    by_cases h1 : s ≤ 31
    · rw [if_pos h1]
      by_cases h2 : w ≥ 1
      · rw [if_pos h2]
        by_cases h3 : w ≤ 32
        · rw [if_pos h3]
          congr 1
          have : wrap64 (s + w) = s + w := by unfold wrap64; omega
          rw [this]
          simp only [decide_eq_decide]
          omega
        · rw [if_neg h3]; congr 1; symm; simp; omega
      · rw [if_neg h2]; congr 1; symm; simp; omega
    · rw [if_neg h1]; congr 1; symm; simp; omega
  · rw [if_neg h0]; congr 1; symm; simp; omega

theorem fields_power_l (n : Nat) (hn : n ≤ 32) (d : Nat) : ∀ k i, i + d = n → d < k → stilemanref02_power.l0 k (n : Int) ((2 ^ i : Nat) : Int) (i : Int) = some ((2 ^ n : Nat) : Int) := by
  induction d with
  | zero =>
    intro k i hi hk
    obtain ⟨k, rfl⟩ : ∃ m, k = m + 1 := ⟨k - 1, by omega⟩
    obtain rfl : i = n := by omega
    simp only [stilemanref02_power.l0]
    rw [if_neg (by omega)]
  | succ d ih =>
    intro k i hi hk
    obtain ⟨k, rfl⟩ : ∃ m, k = m + 1 := ⟨k - 1, by omega⟩
    simp only [stilemanref02_power.l0]
    rw [if_pos (by omega)]
    have hp : (2 : Nat) ^ i ≤ 2 ^ 32 := two_pow_le (by omega)
    have e1 : wrap64 (((2 ^ i : Nat) : Int) * 2) = ((2 ^ (i + 1) : Nat) : Int) := by
      rw [Nat.pow_succ]
      unfold wrap64
      omega
    have e2 : wrap64 ((i : Int) + 1) = ((i + 1 : Nat) : Int) := by unfold wrap64; omega
    rw [e1, e2]
    exact ih k (i + 1) (by omega) (by omega)

theorem fields_power (n : Nat) (hn : n ≤ 32) : stilemanref02_power.f 40 (n : Int) = some ((2 ^ n : Nat) : Int) :=
  fields_power_l n hn n 40 0 (by omega) (by omega)

theorem tdiv_nat (a b : Nat) : Int.tdiv (a : Int) (b : Int) = ((a / b : Nat) : Int) := rfl
theorem tmod_nat (a b : Nat) : Int.tmod (a : Int) (b : Int) = ((a % b : Nat) : Int) := rfl
theorem wrap_small (a : Nat) (h : a < 9223372036854775808) : wrap64 (a : Int) = (a : Int) := by unfold wrap64; omega

theorem fields_get (v s w : Nat) (hv : v < 4294967296) (hs : s < 32) (hw1 : 1 ≤ w) (hw : w ≤ 32 - s) :
    diff_Get.f (v : Int) (s : Int) (w : Int) = some ((v / 2 ^ s % 2 ^ w : Nat) : Int) := by
  unfold diff_Get.f diff_mask.f
  rw [fields_field, decide_eq_true (by omega)]
  simp only [Option.bind_some, if_true]
  rw [if_pos (by omega), if_pos (by omega)]
  simp only [Option.bind_some]
  rw [if_pos (by omega), get_val v s w hv hs hw1 hw]

theorem fields_rget (v s w : Nat) (hv : v < 4294967296) (hs : s < 32) (hw1 : 1 ≤ w) (hw : w ≤ 32 - s) :
    stilemanref02_Get.f 40 (v : Int) (s : Int) (w : Int) = some ((v / 2 ^ s % 2 ^ w : Nat) : Int) := by
  unfold stilemanref02_Get.f
  rw [fields_is, decide_eq_true (by omega), fields_power s (by omega), fields_power w (by omega)]
  simp only [Option.bind_some, if_true]
  have hs0 := pow_pos s
  have hw0 := pow_pos w
  rw [if_neg (by omega), if_neg (by omega), wrap_small v (by omega), tdiv_nat]
  have h1 : v / 2 ^ s ≤ v := Nat.div_le_self _ _
  rw [wrap_small _ (by omega), tmod_nat]
  have h2 : v / 2 ^ s % 2 ^ w ≤ v / 2 ^ s := Nat.mod_le _ _
  congr 1
  omega

theorem put_bounds (v s w : Nat) (y : Nat) (hv : v < 4294967296) (hs : s < 32) (hw : w ≤ 32 - s) (hy : y < 2 ^ w) :
    v / 2 ^ s % 2 ^ w * 2 ^ s ≤ v ∧ v - v / 2 ^ s % 2 ^ w * 2 ^ s + y * 2 ^ s < 4294967296 := by
  have hs0 := pow_pos s
  have hw0 := pow_pos w
  generalize hD : 2 ^ s = D at *
  generalize hM : 2 ^ w = M at *
  have hDM : D * M * 2 ^ (32 - s - w) = 4294967296 := by
    rw [← hD, ← hM, ← Nat.pow_add, ← Nat.pow_add, show s + w + (32 - s - w) = 32 by omega]
  generalize 2 ^ (32 - s - w) = R at hDM
  have e1 := Nat.div_add_mod v D
  have e2 := Nat.div_add_mod (v / D) M
  generalize hq : v / D = q at *
  generalize hr : v % D = r at *
  generalize hm : q % M = m at *
  generalize hh : q / M = h at *
  have hrD : r < D := by rw [← hr]; exact Nat.mod_lt _ hs0
  have hmM : m < M := by rw [← hm]; exact Nat.mod_lt _ hw0
  have ev : v = D * (M * h) + D * m + r := by rw [← e1, ← e2, Nat.mul_add]
  have hhR : h < R := by
    rw [← hh]
    apply Nat.div_lt_of_lt_mul
    rw [← hq]
    apply Nat.div_lt_of_lt_mul
    rw [← Nat.mul_assoc, hDM]; exact hv
  have k1 : D * (M * h) + D * M ≤ 4294967296 := by
    rw [← hDM, Nat.mul_assoc, ← Nat.mul_add, ← Nat.mul_succ]
    exact Nat.mul_le_mul_left _ (Nat.mul_le_mul_left _ hhR)
  have k2 : D * y + D ≤ D * M := by rw [← Nat.mul_succ]; exact Nat.mul_le_mul_left _ hy
  rw [Nat.mul_comm m D, Nat.mul_comm y D]
  omega

theorem fields_put (v x s w : Nat) (hv : v < 4294967296) (hx : x < 4294967296) (hs : s < 32) (hw1 : 1 ≤ w) (hw : w ≤ 32 - s) :
    diff_Put.f (v : Int) (s : Int) (w : Int) (x : Int) = some ((v - v / 2 ^ s % 2 ^ w * 2 ^ s + x % 2 ^ w * 2 ^ s : Nat) : Int) := by
  unfold diff_Put.f diff_mask.f
  rw [fields_field, decide_eq_true (by omega)]
  simp only [Option.bind_some, if_true]
  rw [if_pos (by omega), if_pos (by omega)]
  simp only [Option.bind_some]
  rw [if_pos (by omega), put_val v x s w hv hx hs hw1 hw]
  have := put_bounds v s w (x % 2 ^ w) hv hs hw (Nat.mod_lt _ (pow_pos w))
  congr 1
  omega

theorem fields_rput (v x s w : Nat) (hv : v < 4294967296) (hx : x < 4294967296) (hs : s < 32) (hw1 : 1 ≤ w) (hw : w ≤ 32 - s) :
    stilemanref02_Put.f 40 (v : Int) (s : Int) (w : Int) (x : Int) = some ((v - v / 2 ^ s % 2 ^ w * 2 ^ s + x % 2 ^ w * 2 ^ s : Nat) : Int) := by
  unfold stilemanref02_Put.f
  rw [fields_is, decide_eq_true (by omega), fields_rget v s w hv hs hw1 hw, fields_power s (by omega), fields_power w (by omega)]
  simp only [Option.bind_some, if_true]
  have hw0 := pow_pos w
  have hb := put_bounds v s w (x % 2 ^ w) hv hs hw (Nat.mod_lt _ (pow_pos w))
  have hb0 := put_bounds v s w 0 hv hs hw (pow_pos w)
  rw [if_neg (by omega), wrap_small x (by omega), tmod_nat]
  have hm1 : v / 2 ^ s % 2 ^ w < 2 ^ w := Nat.mod_lt _ (pow_pos w)
  have hm2 : x % 2 ^ w < 2 ^ w := Nat.mod_lt _ (pow_pos w)
  have hw32 : (2 : Nat) ^ w ≤ 2 ^ 32 := two_pow_le (by omega)
  have hx1 : x % 2 ^ w * 2 ^ s < 4294967296 := by
    have := Nat.mul_lt_mul_of_pos_right hm2 (pow_pos s)
    have h2 : (2 : Nat) ^ w * 2 ^ s ≤ 2 ^ 32 := by rw [← Nat.pow_add]; exact two_pow_le (by omega)
    omega
  rw [wrap_small v (by omega), wrap_small (v / 2 ^ s % 2 ^ w) (by omega)]
  have e0 : wrap64 (((x % 2 ^ w : Nat) : Int) - ((v / 2 ^ s % 2 ^ w : Nat) : Int)) = ((x % 2 ^ w : Nat) : Int) - ((v / 2 ^ s % 2 ^ w : Nat) : Int) := by unfold wrap64; omega
  rw [e0, Int.sub_mul, ← Int.natCast_mul, ← Int.natCast_mul]
  congr 1
  unfold wrap64
  omega

theorem fields_not (v s w : Int) (x : Int) (h : ¬ (0 ≤ s ∧ s < 32 ∧ 1 ≤ w ∧ w ≤ 32 - s)) : stilemanlaw02_DiffFields.f 40 v s w x = some true := by
  unfold stilemanlaw02_DiffFields.f diff_Get.f stilemanref02_Get.f diff_Put.f stilemanref02_Put.f diff_Bump.f stilemanref02_Bump.f
  rw [fields_field, fields_is, decide_eq_false h, fields_awake]
  simp

theorem DiffFields : stilemanlaw02_DiffFields.Pure := by
  intro a0 a1 a2 a3 h0 h1 h2 h3
  simp only [Lit.wf, IntKind.min, IntKind.max, IntKind.signed, IntKind.bits] at h0 h1 h2 h3
  simp at h0 h1 h2 h3
  refine ⟨40, ?_⟩
  by_cases h : 0 ≤ a1 ∧ a1 < 32 ∧ 1 ≤ a2 ∧ a2 ≤ 32 - a1
  case neg => exact fields_not a0 a1 a2 a3 h
  obtain ⟨v, rfl⟩ := Int.eq_ofNat_of_zero_le h0.1
  obtain ⟨x, rfl⟩ := Int.eq_ofNat_of_zero_le h3.1
  obtain ⟨s, rfl⟩ := Int.eq_ofNat_of_zero_le h.1
  obtain ⟨w, rfl⟩ := Int.eq_ofNat_of_zero_le (show 0 ≤ a2 by omega)
  have hv : v < 4294967296 := by omega
  have hx : x < 4294967296 := by omega
  have hs : s < 32 := by omega
  have hw1 : 1 ≤ w := by omega
  have hw : w ≤ 32 - s := by omega
  have hw0 := pow_pos w
  have hw32 : (2 : Nat) ^ w ≤ 2 ^ 32 := two_pow_le (by omega)
  have hg : v / 2 ^ s % 2 ^ w < 2 ^ w := Nat.mod_lt _ (pow_pos w)
  have hb1 : diff_Bump.f (v : Int) (s : Int) (w : Int) = some ((((v - v / 2 ^ s % 2 ^ w * 2 ^ s + (v / 2 ^ s % 2 ^ w + 1) % 2 ^ w * 2 ^ s : Nat) : Int) - v) % 4294967296) := by
    unfold diff_Bump.f
    rw [fields_field, decide_eq_true (by omega), fields_get v s w hv hs hw1 hw]
    simp only [Option.bind_some, if_true]
    have e : (((v / 2 ^ s % 2 ^ w : Nat) : Int) + 1) % 4294967296 = (((v / 2 ^ s % 2 ^ w + 1) % 4294967296 : Nat) : Int) := by omega
    rw [e, fields_put v _ s w hv (Nat.mod_lt _ (by decide)) hs hw1 hw]
    simp only [Option.bind_some]
    rw [Nat.mod_mod_of_dvd _ (show (2 : Nat) ^ w ∣ 4294967296 from Nat.pow_dvd_pow 2 (show w ≤ 32 by omega))]
  have hb2 : stilemanref02_Bump.f 40 (v : Int) (s : Int) (w : Int) = some ((((v - v / 2 ^ s % 2 ^ w * 2 ^ s + (v / 2 ^ s % 2 ^ w + 1) % 2 ^ w * 2 ^ s : Nat) : Int) - v) % 4294967296) := by
    unfold stilemanref02_Bump.f
    rw [fields_is, decide_eq_true (by omega), fields_rget v s w hv hs hw1 hw, fields_power w (by omega)]
    simp only [Option.bind_some, if_true]
    rw [if_neg (by omega)]
    have e : wrap64 (wrap64 ((v / 2 ^ s % 2 ^ w : Nat) : Int) + 1) = ((v / 2 ^ s % 2 ^ w + 1 : Nat) : Int) := by unfold wrap64; omega
    have hm : (v / 2 ^ s % 2 ^ w + 1) % 2 ^ w < 2 ^ w := Nat.mod_lt _ hw0
    rw [e, tmod_nat]
    have e2 : (((v / 2 ^ s % 2 ^ w + 1) % 2 ^ w : Nat) : Int) % 4294967296 = (((v / 2 ^ s % 2 ^ w + 1) % 2 ^ w % 4294967296 : Nat) : Int) := by omega
    rw [e2, fields_rput v _ s w hv (Nat.mod_lt _ (by decide)) hs hw1 hw]
    simp only [Option.bind_some]
    rw [Nat.mod_mod_of_dvd _ (show (2 : Nat) ^ w ∣ 4294967296 from Nat.pow_dvd_pow 2 (show w ≤ 32 by omega)), Nat.mod_mod]
  unfold stilemanlaw02_DiffFields.f
  rw [fields_get v s w hv hs hw1 hw, fields_rget v s w hv hs hw1 hw, fields_put v x s w hv hx hs hw1 hw, fields_rput v x s w hv hx hs hw1 hw, hb1, hb2, fields_awake]
  simp

end Go.Proofs.Ytjlpaefpilhngaa.Pure
