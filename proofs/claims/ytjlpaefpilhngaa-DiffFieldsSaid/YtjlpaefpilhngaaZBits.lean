/- Fields of words: what masks, shifts and the bit operations come to, in whole numbers. No program is in sight. -/
import Derived.Test.YtjlpaefpilhngaaWMore
set_option linter.unusedVariables false
set_option linter.unusedSimpArgs false
namespace Go.Proofs.Ytjlpaefpilhngaa.ZBits
open Go.RowKit Go.Proofs.YtjlpaefpilhngaaW.PrintWords Go.Proofs.YtjlpaefpilhngaaW.PrintMore

theorem pow_pos (n : Nat) : 0 < 2 ^ n := Nat.pow_pos (by decide)

theorem two_pow_le {a b : Nat} (h : a ≤ b) : 2 ^ a ≤ 2 ^ b := Nat.pow_le_pow_right (by decide) h

theorem and_mask (v s w : Nat) : v &&& ((2 ^ w - 1) * 2 ^ s) = (v / 2 ^ s % 2 ^ w) * 2 ^ s := by
  rw [← Nat.shiftLeft_eq, ← Nat.shiftLeft_eq, ← Nat.shiftRight_eq_div_pow]
  apply Nat.eq_of_testBit_eq
  intro i
  simp only [Nat.testBit_and, Nat.testBit_shiftLeft, Nat.testBit_two_pow_sub_one, Nat.testBit_mod_two_pow, Nat.testBit_shiftRight]
  by_cases h : i ≥ s
  · have e : s + (i - s) = i := by omega
    simp only [h, decide_true, Bool.true_and, e]
    exact Bool.and_comm _ _
  · simp [h]

theorem ofInt_nat (k n : Nat) : BitVec.ofInt k (n : Int) = BitVec.ofNat k n := by simp

theorem bits_and (a b : Nat) (ha : a < 4294967296) (hb : b < 4294967296) : Go.bits .and .u32 (a : Int) (b : Int) = ((a &&& b : Nat) : Int) := by
  unfold Go.bits
  simp only [ofInt_nat, BitVec.toNat_and, BitVec.toNat_ofNat]
  rw [Nat.mod_eq_of_lt (by simpa [IntKind.bits] using ha), Nat.mod_eq_of_lt (by simpa [IntKind.bits] using hb)]
  rw [IntKind.wrap_u32]
  have : a &&& b ≤ a := Nat.and_le_left
  omega

theorem and_split (v m : BitVec 32) : v.toNat = (v &&& m).toNat + (v &&& ~~~m).toNat := by
  have hz : (v &&& m) &&& (v &&& ~~~m) = 0#32 := by ext i; simp only [BitVec.getElem_and, BitVec.getElem_or, BitVec.getElem_not, BitVec.getElem_zero]; cases v[i] <;> cases m[i] <;> rfl
  have hor : (v &&& m) ||| (v &&& ~~~m) = v := by ext i; simp only [BitVec.getElem_and, BitVec.getElem_or, BitVec.getElem_not, BitVec.getElem_zero]; cases v[i] <;> cases m[i] <;> rfl
  have := BitVec.add_eq_or_of_and_eq_zero _ _ hz
  rw [hor] at this
  have h2 := congrArg BitVec.toNat this
  rw [BitVec.toNat_add] at h2
  have h3 : (v &&& ~~~m).toNat ≤ (~~~m).toNat := by rw [BitVec.toNat_and]; exact Nat.and_le_right
  have h4 : (v &&& m).toNat ≤ m.toNat := by rw [BitVec.toNat_and]; exact Nat.and_le_right
  rw [BitVec.toNat_not] at h3
  have := m.isLt
  rw [Nat.mod_eq_of_lt (by omega)] at h2
  exact h2.symm

theorem put_split (v x m : BitVec 32) : ((v &&& ~~~m) ||| (x &&& m)).toNat = (v &&& ~~~m).toNat + (x &&& m).toNat := by
  have hz : (v &&& ~~~m) &&& (x &&& m) = 0#32 := by ext i; simp only [BitVec.getElem_and, BitVec.getElem_not, BitVec.getElem_zero]; cases v[i] <;> cases x[i] <;> cases m[i] <;> rfl
  have := BitVec.add_eq_or_of_and_eq_zero _ _ hz
  rw [← this, BitVec.toNat_add]
  have h3 : (v &&& ~~~m).toNat ≤ (~~~m).toNat := by rw [BitVec.toNat_and]; exact Nat.and_le_right
  have h4 : (x &&& m).toNat ≤ m.toNat := by rw [BitVec.toNat_and]; exact Nat.and_le_right
  rw [BitVec.toNat_not] at h3
  have := m.isLt
  rw [Nat.mod_eq_of_lt (by omega)]

theorem bits_or (a b : Nat) (ha : a < 4294967296) (hb : b < 4294967296) : Go.bits .or .u32 (a : Int) (b : Int) = ((BitVec.ofNat 32 a ||| BitVec.ofNat 32 b).toNat : Int) := by
  show (IntKind.u32.wrap ((BitVec.ofInt 32 (a : Int) ||| BitVec.ofInt 32 (b : Int)).toNat : Int)) = _
  rw [ofInt_nat, ofInt_nat, IntKind.wrap_u32]
  have := (BitVec.ofNat 32 a ||| BitVec.ofNat 32 b).isLt
  omega

theorem bits_andNot (a b : Nat) : Go.bits .andNot .u32 (a : Int) (b : Int) = ((BitVec.ofNat 32 a &&& ~~~ (BitVec.ofNat 32 b)).toNat : Int) := by
  show (IntKind.u32.wrap ((BitVec.ofInt 32 (a : Int) &&& ~~~ (BitVec.ofInt 32 (b : Int))).toNat : Int)) = _
  rw [ofInt_nat, ofInt_nat, IntKind.wrap_u32]
  have := (BitVec.ofNat 32 a &&& ~~~ (BitVec.ofNat 32 b)).isLt
  omega

theorem nat32 (a : Nat) (ha : a < 4294967296) : (BitVec.ofNat 32 a).toNat = a := by
  rw [BitVec.toNat_ofNat]; exact Nat.mod_eq_of_lt (by omega)

theorem bits_put (v x m : Nat) (hv : v < 4294967296) (hx : x < 4294967296) (hm : m < 4294967296) :
    Go.bits .or .u32 (Go.bits .andNot .u32 (v : Int) (m : Int)) (Go.bits .and .u32 (x : Int) (m : Int)) = (v : Int) - ((v &&& m : Nat) : Int) + ((x &&& m : Nat) : Int) := by
  rw [bits_and x m hx hm, bits_andNot]
  have e1 := and_split (BitVec.ofNat 32 v) (BitVec.ofNat 32 m)
  have e2 := put_split (BitVec.ofNat 32 v) (BitVec.ofNat 32 x) (BitVec.ofNat 32 m)
  have ex : (BitVec.ofNat 32 x &&& BitVec.ofNat 32 m).toNat = x &&& m := by rw [BitVec.toNat_and, nat32 x hx, nat32 m hm]
  have ev : (BitVec.ofNat 32 v &&& BitVec.ofNat 32 m).toNat = v &&& m := by rw [BitVec.toNat_and, nat32 v hv, nat32 m hm]
  have e5 : BitVec.ofNat 32 (x &&& m) = (BitVec.ofNat 32 x &&& BitVec.ofNat 32 m) := by
    apply BitVec.eq_of_toNat_eq
    rw [ex, nat32]
    have : x &&& m ≤ x := Nat.and_le_left
    omega
  have hl : x &&& m < 4294967296 := by
    have : x &&& m ≤ x := Nat.and_le_left
    omega
  generalize hA : (BitVec.ofNat 32 v &&& ~~~ (BitVec.ofNat 32 m)) = A at e1 e2 ⊢
  have hlt := A.isLt
  rw [bits_or _ _ (by omega) hl, e5, show BitVec.ofNat 32 A.toNat = A from by simp, e2, ex]
  rw [ev, nat32 v hv] at e1
  omega

/-- A mask, as the program makes it. -/
theorem mask_val (s w : Nat) (hs : s < 32) (hw1 : 1 ≤ w) (hw : w ≤ 32 - s) :
    (shl .u64 (IntKind.u64.wrap ((shl .u64 1 (w : Int)) - 1)) (s : Int)) % 4294967296 = (((2 ^ w - 1) * 2 ^ s : Nat) : Int) ∧ (2 ^ w - 1) * 2 ^ s < 4294967296 := by
  have h64 : ∀ n : Int, IntKind.u64.wrap n = n % 18446744073709551616 := fun n => by simp [IntKind.wrap, IntKind.bits, IntKind.signed]
  have hw32 : (2 : Nat) ^ w ≤ 2 ^ 32 := two_pow_le (by omega)
  have hs32 : (2 : Nat) ^ s ≤ 2 ^ 32 := two_pow_le (by omega)
  have hp : (2 : Nat) ^ w * 2 ^ s ≤ 2 ^ 32 := by rw [← Nat.pow_add]; exact two_pow_le (by omega)
  have hp0 := pow_pos w
  have hq0 := pow_pos s
  have hlt : (2 ^ w - 1) * 2 ^ s < 4294967296 := by
    have : (2 ^ w - 1) * 2 ^ s < 2 ^ w * 2 ^ s := Nat.mul_lt_mul_of_pos_right (by omega) hq0
    omega
  refine ⟨?_, hlt⟩
  unfold shl
  simp only [h64, IntKind.bits, Int.toNat_natCast]
  rw [Nat.min_eq_left (by omega), Nat.min_eq_left (by omega)]
  have e1 : ((1 : Int) * 2 ^ w % 18446744073709551616 - 1) % 18446744073709551616 = ((2 ^ w - 1 : Nat) : Int) := by
    have : ((2 : Int) ^ w) = ((2 ^ w : Nat) : Int) := (Int.natCast_pow 2 w).symm
    rw [this]
    omega
  rw [e1]
  have e2 : (((2 ^ w - 1 : Nat) : Int) * 2 ^ s) = (((2 ^ w - 1) * 2 ^ s : Nat) : Int) := by push_cast; rfl
  rw [e2]
  omega

theorem get_val (v s w : Nat) (hv : v < 4294967296) (hs : s < 32) (hw1 : 1 ≤ w) (hw : w ≤ 32 - s) :
    shr .u32 (Go.bits .and .u32 (v : Int) ((shl .u64 (IntKind.u64.wrap ((shl .u64 1 (w : Int)) - 1)) (s : Int)) % 4294967296)) (s : Int) = ((v / 2 ^ s % 2 ^ w : Nat) : Int) := by
  obtain ⟨hm, hlt⟩ := mask_val s w hs hw1 hw
  rw [hm, bits_and _ _ hv hlt, and_mask]
  unfold shr
  simp only [IntKind.bits, Int.toNat_natCast]
  rw [Nat.min_eq_left (by omega)]
  have : ((2 : Int) ^ s) = ((2 ^ s : Nat) : Int) := (Int.natCast_pow 2 s).symm
  rw [this, ← Int.natCast_ediv, Nat.mul_div_cancel _ (pow_pos s)]

theorem mod_mod_pow (x s w : Nat) (hs : s < 32) (hw : w ≤ 32 - s) : (x * 2 ^ s % 4294967296) / 2 ^ s % 2 ^ w = x % 2 ^ w := by
  have e : (4294967296 : Nat) = 2 ^ s * 2 ^ (32 - s) := by rw [← Nat.pow_add, show s + (32 - s) = 32 by omega]
  rw [e, Nat.mul_comm x, Nat.mul_mod_mul_left, Nat.mul_div_cancel_left _ (pow_pos s)]
  exact Nat.mod_mod_of_dvd _ (Nat.pow_dvd_pow 2 hw)

theorem put_val (v x s w : Nat) (hv : v < 4294967296) (hx : x < 4294967296) (hs : s < 32) (hw1 : 1 ≤ w) (hw : w ≤ 32 - s) :
    Go.bits .or .u32 (Go.bits .andNot .u32 (v : Int) ((shl .u64 (IntKind.u64.wrap ((shl .u64 1 (w : Int)) - 1)) (s : Int)) % 4294967296))
      (Go.bits .and .u32 (shl .u32 (x : Int) (s : Int)) ((shl .u64 (IntKind.u64.wrap ((shl .u64 1 (w : Int)) - 1)) (s : Int)) % 4294967296))
      = (v : Int) - ((v / 2 ^ s % 2 ^ w * 2 ^ s : Nat) : Int) + ((x % 2 ^ w * 2 ^ s : Nat) : Int) := by
  obtain ⟨hm, hlt⟩ := mask_val s w hs hw1 hw
  have hsh : shl .u32 (x : Int) (s : Int) = ((x * 2 ^ s % 4294967296 : Nat) : Int) := by
    unfold shl
    rw [IntKind.wrap_u32]
    simp only [IntKind.bits, Int.toNat_natCast]
    rw [Nat.min_eq_left (by omega)]
    simp
  rw [hm, hsh, bits_put _ _ _ hv (Nat.mod_lt _ (by decide)) hlt, and_mask, and_mask, mod_mod_pow x s w hs hw]

end Go.Proofs.Ytjlpaefpilhngaa.ZBits
