/- Words of 32 bits: what the bit operations come to, in whole numbers. No program is in sight. -/
import Derived.WalkKit
set_option linter.unusedVariables false
set_option linter.unusedSimpArgs false
namespace Go.Proofs.Ytlndihdlodempaa.Z
open Go.RowKit

theorem pow2_pos (n : Nat) : 0 < 2 ^ n := Nat.pow_pos (by decide)

theorem two_pow_le {a b : Nat} (h : a ≤ b) : 2 ^ a ≤ 2 ^ b := Nat.pow_le_pow_right (by decide) h

theorem and_mask (v s w : Nat) : v &&& ((2 ^ w - 1) * 2 ^ s) = (v / 2 ^ s % 2 ^ w) * 2 ^ s := by
  rw [← Nat.shiftLeft_eq, ← Nat.shiftLeft_eq, ← Nat.shiftRight_eq_div_pow]
  apply Nat.eq_of_testBit_eq
  intro i
  simp only [Nat.testBit_and, Nat.testBit_shiftLeft, Nat.testBit_two_pow_sub_one, Nat.testBit_mod_two_pow, Nat.testBit_shiftRight]
  by_cases h : i ≥ s
  · have e : s + (i - s) = i := by omega
    simp only [h, decide_true, Bool.true_and, e]
    exact Bool.and_comm _ _
  · simp [h]

theorem ofInt_nat (k n : Nat) : BitVec.ofInt k (n : Int) = BitVec.ofNat k n := by simp

theorem bits_and (a b : Nat) (ha : a < 4294967296) (hb : b < 4294967296) : Go.bits .and .u32 (a : Int) (b : Int) = ((a &&& b : Nat) : Int) := by
  unfold Go.bits
  simp only [ofInt_nat, BitVec.toNat_and, BitVec.toNat_ofNat]
  rw [Nat.mod_eq_of_lt (by simpa [IntKind.bits] using ha), Nat.mod_eq_of_lt (by simpa [IntKind.bits] using hb)]
  rw [IntKind.wrap_u32]
  have : a &&& b ≤ a := Nat.and_le_left
  omega

theorem and_split (v m : BitVec 32) : v.toNat = (v &&& m).toNat + (v &&& ~~~m).toNat := by
  have hz : (v &&& m) &&& (v &&& ~~~m) = 0#32 := by ext i; simp only [BitVec.getElem_and, BitVec.getElem_or, BitVec.getElem_not, BitVec.getElem_zero]; cases v[i] <;> cases m[i] <;> rfl
  have hor : (v &&& m) ||| (v &&& ~~~m) = v := by ext i; simp only [BitVec.getElem_and, BitVec.getElem_or, BitVec.getElem_not, BitVec.getElem_zero]; cases v[i] <;> cases m[i] <;> rfl
  have := BitVec.add_eq_or_of_and_eq_zero _ _ hz
  rw [hor] at this
  have h2 := congrArg BitVec.toNat this
  rw [BitVec.toNat_add] at h2
  have h3 : (v &&& ~~~m).toNat ≤ (~~~m).toNat := by rw [BitVec.toNat_and]; exact Nat.and_le_right
  have h4 : (v &&& m).toNat ≤ m.toNat := by rw [BitVec.toNat_and]; exact Nat.and_le_right
  rw [BitVec.toNat_not] at h3
  have := m.isLt
  rw [Nat.mod_eq_of_lt (by omega)] at h2
  exact h2.symm

theorem put_split (v x m : BitVec 32) : ((v &&& ~~~m) ||| (x &&& m)).toNat = (v &&& ~~~m).toNat + (x &&& m).toNat := by
  have hz : (v &&& ~~~m) &&& (x &&& m) = 0#32 := by ext i; simp only [BitVec.getElem_and, BitVec.getElem_not, BitVec.getElem_zero]; cases v[i] <;> cases x[i] <;> cases m[i] <;> rfl
  have := BitVec.add_eq_or_of_and_eq_zero _ _ hz
  rw [← this, BitVec.toNat_add]
  have h3 : (v &&& ~~~m).toNat ≤ (~~~m).toNat := by rw [BitVec.toNat_and]; exact Nat.and_le_right
  have h4 : (x &&& m).toNat ≤ m.toNat := by rw [BitVec.toNat_and]; exact Nat.and_le_right
  rw [BitVec.toNat_not] at h3
  have := m.isLt
  rw [Nat.mod_eq_of_lt (by omega)]

theorem bits_or (a b : Nat) (ha : a < 4294967296) (hb : b < 4294967296) : Go.bits .or .u32 (a : Int) (b : Int) = ((BitVec.ofNat 32 a ||| BitVec.ofNat 32 b).toNat : Int) := by
  show (IntKind.u32.wrap ((BitVec.ofInt 32 (a : Int) ||| BitVec.ofInt 32 (b : Int)).toNat : Int)) = _
  rw [ofInt_nat, ofInt_nat, IntKind.wrap_u32]
  have := (BitVec.ofNat 32 a ||| BitVec.ofNat 32 b).isLt
  omega

theorem bits_andNot (a b : Nat) : Go.bits .andNot .u32 (a : Int) (b : Int) = ((BitVec.ofNat 32 a &&& ~~~ (BitVec.ofNat 32 b)).toNat : Int) := by
  show (IntKind.u32.wrap ((BitVec.ofInt 32 (a : Int) &&& ~~~ (BitVec.ofInt 32 (b : Int))).toNat : Int)) = _
  rw [ofInt_nat, ofInt_nat, IntKind.wrap_u32]
  have := (BitVec.ofNat 32 a &&& ~~~ (BitVec.ofNat 32 b)).isLt
  omega

theorem nat32 (a : Nat) (ha : a < 4294967296) : (BitVec.ofNat 32 a).toNat = a := by
  rw [BitVec.toNat_ofNat]; exact Nat.mod_eq_of_lt (by omega)

theorem bits_put (v x m : Nat) (hv : v < 4294967296) (hx : x < 4294967296) (hm : m < 4294967296) :
    Go.bits .or .u32 (Go.bits .andNot .u32 (v : Int) (m : Int)) (Go.bits .and .u32 (x : Int) (m : Int)) = (v : Int) - ((v &&& m : Nat) : Int) + ((x &&& m : Nat) : Int) := by
  rw [bits_and x m hx hm, bits_andNot]
  have e1 := and_split (BitVec.ofNat 32 v) (BitVec.ofNat 32 m)
  have e2 := put_split (BitVec.ofNat 32 v) (BitVec.ofNat 32 x) (BitVec.ofNat 32 m)
  have ex : (BitVec.ofNat 32 x &&& BitVec.ofNat 32 m).toNat = x &&& m := by rw [BitVec.toNat_and, nat32 x hx, nat32 m hm]
  have ev : (BitVec.ofNat 32 v &&& BitVec.ofNat 32 m).toNat = v &&& m := by rw [BitVec.toNat_and, nat32 v hv, nat32 m hm]
  have e5 : BitVec.ofNat 32 (x &&& m) = (BitVec.ofNat 32 x &&& BitVec.ofNat 32 m) := by
    apply BitVec.eq_of_toNat_eq
    rw [ex, nat32]
    have : x &&& m ≤ x := Nat.and_le_left
    omega
  have hl : x &&& m < 4294967296 := by
    have : x &&& m ≤ x := Nat.and_le_left
    omega
  generalize hA : (BitVec.ofNat 32 v &&& ~~~ (BitVec.ofNat 32 m)) = A at e1 e2 ⊢
  have hlt := A.isLt
  rw [bits_or _ _ (by omega) hl, e5, show BitVec.ofNat 32 A.toNat = A from by simp, e2, ex]
  rw [ev, nat32 v hv] at e1
  omega

theorem bits_low (x : Int) (i : Nat) (hi : i ≤ 32) (h0 : 0 ≤ x) (h1 : x < 4294967296) : Go.bits .and .u32 x ((2 ^ i - 1 : Nat) : Int) = x % ((2 ^ i : Nat) : Int) := by
  obtain ⟨n, rfl⟩ := Int.eq_ofNat_of_zero_le h0
  have hm : 2 ^ i - 1 < 4294967296 := by
    have := two_pow_le hi
    have := pow2_pos i
    omega
  rw [bits_and n _ (by omega) hm]
  have := and_mask n 0 i
  simp only [Nat.pow_zero, Nat.mul_one, Nat.div_one] at this
  rw [this]
  rfl

theorem and255 (x : Int) (h0 : 0 ≤ x) (h1 : x < 4294967296) : Go.bits .and .u32 x 255 = x % 256 := bits_low x 8 (by decide) h0 h1
theorem and1 (x : Int) (h0 : 0 ≤ x) (h1 : x < 4294967296) : Go.bits .and .u32 x 1 = x % 2 := bits_low x 1 (by decide) h0 h1
theorem and3 (x : Int) (h0 : 0 ≤ x) (h1 : x < 4294967296) : Go.bits .and .u32 x 3 = x % 4 := bits_low x 2 (by decide) h0 h1

end Go.Proofs.Ytlndihdlodempaa.Z
