/- 4 texts of this claim, joined: what each shows stands at its own head. -/
import Derived.Test.YtdffdppkdbbdoaaZM02RfExcludes
import Derived.Test.YtdffdppkdbbdoaaZBase
import Derived.Test.YtdffdppkdbbdoaaZRfFine
import Derived.Test.YtdffdppkdbbdoaaZM01RfExcludes
/- Sums over places; accesses to the words that are no watches. No lock in sight. -/
set_option linter.unusedVariables false
set_option linter.unusedSimpArgs false
namespace Go.Proofs.Ytdffdppkdbbdoaa.Z
open Go.RowKit

section
variable {P : Type}
def ws (f : P → Int) : List P → Int
  | [] => 0
  | x :: l => f x + ws f l
theorem ws_set {f : P → Int} {d x : P} : ∀ {l : List P} {i : Nat}, i < l.length → ws f (l.set i x) = ws f l - f (l.getD i d) + f x
  | [], i, h => by simp at h
  | y :: l, 0, _ => by simp [ws]; omega
  | y :: l, i + 1, h => by
    have := ws_set (f := f) (d := d) (x := x) (l := l) (i := i) (by simpa using h)
    simp [ws] at this ⊢
    omega
theorem ws_nonneg {f : P → Int} (h : ∀ x, 0 ≤ f x) : ∀ l : List P, 0 ≤ ws f l
  | [] => Int.le_refl _
  | x :: l => by have := ws_nonneg h l; have := h x; simp [ws]; omega
theorem ws_le {f g : P → Int} (h : ∀ x, f x ≤ g x) : ∀ l : List P, ws f l ≤ ws g l
  | [] => Int.le_refl _
  | x :: l => by have := ws_le h l; have := h x; simp [ws]; omega
theorem ws_len {f : P → Int} (h : ∀ x, f x ≤ 1) : ∀ l : List P, ws f l ≤ l.length
  | [] => by simp [ws]
  | x :: l => by have := ws_len h l; have := h x; simp [ws]; omega
theorem ws_one {f : P → Int} {d : P} (h : ∀ x, 0 ≤ f x) : ∀ {l : List P} {i : Nat}, i < l.length → f (l.getD i d) ≤ ws f l
  | [], i, hi => by simp at hi
  | x :: l, 0, _ => by have := ws_nonneg h l; simp [ws]; omega
  | x :: l, i + 1, hi => by
    have := ws_one h (l := l) (i := i) (d := d) (by simpa using hi)
    have := h x
    simp [ws] at *
    omega
theorem ws_two {f : P → Int} {d : P} (h : ∀ x, 0 ≤ f x) {l : List P} {i j : Nat} (hi : i < l.length) (hj : j < l.length) (hij : i ≠ j) : f (l.getD i d) + f (l.getD j d) ≤ ws f l := by
  have h3 : ∀ {l : List P} {i j : Nat}, i < l.length → j < l.length → i ≠ j → f (l.getD i d) + f (l.getD j d) ≤ ws f l := by
    intro l
    induction l with
    | nil => intro i j hi _ _; simp at hi
    | cons x l ih =>
      intro i j hi hj hij
      cases i with
      | zero =>
        cases j with
        | zero => exact absurd rfl hij
        | succ j =>
          have := ws_one (d := d) h (l := l) (i := j) (by simpa using hj)
          simp [ws] at *
          omega
      | succ i =>
        cases j with
        | zero =>
          have := ws_one (d := d) h (l := l) (i := i) (by simpa using hi)
          simp [ws] at *
          omega
        | succ j =>
          have := ih (i := i) (j := j) (by simpa using hi) (by simpa using hj) (by omega)
          have := h x
          simp [ws] at *
          omega
  exact h3 hi hj hij
theorem ws_zero {f : P → Int} {l : List P} (h : ∀ x, x ∈ l → f x = 0) : ws f l = 0 := by
  induction l with
  | nil => rfl
  | cons x l ih => simp [ws, h x (by simp), ih (fun y hy => h y (List.mem_cons_of_mem _ hy))]
theorem ws_replicate {f : P → Int} {n : Nat} {x : P} (h : f x = 0) : ws f (List.replicate n x) = 0 := ws_zero (fun y hy => by rw [(List.mem_replicate.1 hy).2, h])
theorem ws_all0 {f : P → Int} {d : P} {l : List P} {n : Nat} (hl : l.length = n) (h : ∀ i, i < n → f (l.getD i d) = 0) : ws f l = 0 := by
  refine ws_zero (fun y hy => ?_)
  obtain ⟨i, hi, rfl⟩ := List.getElem_of_mem hy
  have := h i (by omega)
  simpa [List.getD, hi] using this
/-- A thing that one has, somebody has. -/
theorem ws_some {f : P → Int} {d : P} {l : List P} {n : Nat} (hl : l.length = n) (h : ws f l ≠ 0) : ∃ i, i < n ∧ f (l.getD i d) ≠ 0 := by
  rcases Classical.em (∃ i, i < n ∧ f (l.getD i d) ≠ 0) with h1 | h1
  · exact h1
  · exfalso
    refine h (ws_all0 (d := d) hl (fun i hi => ?_))
    rcases Decidable.em (f (l.getD i d) = 0) with h2 | h2
    · exact h2
    · exact absurd ⟨i, hi, h2⟩ h1
end

section
variable {n : Nat} {L : List Int} {c x y : Int}
theorem at_ld (hl : L.length = 8 + 4 * n) (h0 : 0 ≤ c) (hc : c.toNat < 8 + 2 * n) : doA L ⟨1, c, 0, 0, 0⟩ = (⟨1, c, 0, 0, mainOf n L c.toNat⟩, true, L) := by
  rw [doA_at (by omega)]
  simp [mainOf, hc]
theorem at_ad (hl : L.length = 8 + 4 * n) (h0 : 0 ≤ c) (hc : c.toNat < 8 + 2 * n) : doA L ⟨3, c, x, 0, 0⟩ = (⟨3, c, x, 0, mainOf n L c.toNat⟩, true, L.set c.toNat ((mainOf n L c.toNat + x) % 4294967296)) := by
  rw [doA_at (by omega)]
  simp [mainOf, hc]
theorem at_st (hl : L.length = 8 + 4 * n) (h0 : 0 ≤ c) (hc : c.toNat < 8 + 2 * n) : doA L ⟨2, c, x, 0, 0⟩ = (⟨2, c, x, 0, mainOf n L c.toNat⟩, true, L.set c.toNat x) := by
  rw [doA_at (by omega)]
  simp [mainOf, hc]
theorem at_sw (hl : L.length = 8 + 4 * n) (h0 : 0 ≤ c) (hc : c.toNat < 8 + 2 * n) : doA L ⟨4, c, x, 0, 0⟩ = (⟨4, c, x, 0, mainOf n L c.toNat⟩, true, L.set c.toNat x) := by
  rw [doA_at (by omega)]
  simp [mainOf, hc]
theorem at_cas (hl : L.length = 8 + 4 * n) (h0 : 0 ≤ c) (hc : c.toNat < 8 + 2 * n) : doA L ⟨5, c, x, y, 0⟩ = (⟨5, c, x, y, mainOf n L c.toNat⟩, true, if mainOf n L c.toNat = x then L.set c.toNat y else L) := by
  rw [doA_at (by omega)]
  simp [mainOf, hc]
theorem at_casB (hl : L.length = 8 + 4 * n) (h0 : 0 ≤ c) (hc : c.toNat < 8 + 2 * n) : casB L c x y = (mainOf n L c.toNat == x) := by
  unfold casB
  rw [at_cas hl h0 hc]
  simp
end
/-- A wait that is done has no stage. -/
theorem wait_done {L : List Int} {n mode task st c : Int} {p : Int → Bool} (h : (waitA L n mode task st c p).done = true) : (waitA L n mode task st c p).stage = 0 := by
  unfold waitA at h ⊢
  dsimp only at h ⊢
  repeat' split at h
  all_goals first | (simp at h; done) | skip
  all_goals simp_all
theorem wait4_done {L : List Int} {n mode task c : Int} {p : Int → Bool} (hm : mode = 2) : (waitA L n mode task 4 c p).done = true ∧ (waitA L n mode task 4 c p).stage = 0 := by
  unfold waitA
  dsimp only
  rw [stage_at hm (by omega) (by omega)]
  exact ⟨rfl, rfl⟩
theorem wait4_seen {L : List Int} {n mode task c : Int} {p : Int → Bool} (hm : mode = 2) : (waitA L n mode task 4 c p).seen = false := by
  unfold waitA
  dsimp only
  rw [stage_at hm (by omega) (by omega)]
  rfl
theorem wait_ds {L : List Int} {n mode task st c : Int} {p : Int → Bool} (h0 : 0 ≤ st) (h3 : st ≤ 3) (h : (waitA L n mode task st c p).done = true) : (waitA L n mode task st c p).seen = true := by
  have hs : stageA mode st ≠ 4 := by unfold stageA; split <;> omega
  unfold waitA at h ⊢
  dsimp only at h ⊢
  rw [if_neg hs] at h ⊢
  repeat' split at h
  all_goals first | (simp at h; done) | skip
  all_goals simp_all
theorem may_ops {op h : Int} (hm : mayB op h = true) : (h = 0 ∧ (op = 1 ∨ op = 3 ∨ op = 5 ∨ op = 6)) ∨ (h = 1 ∧ (op = 2 ∨ op = 7)) ∨ (h ≠ 0 ∧ h ≠ 1 ∧ (op = 4 ∨ op = 8)) := by
  unfold mayB at hm
  split at hm
  · rename_i h0
    simp at hm
    exact Or.inl ⟨h0, by omega⟩
  split at hm
  · rename_i h0 h1
    simp at hm
    exact Or.inr (Or.inl ⟨h1, by omega⟩)
  · rename_i h0 h1
    simp at hm
    exact Or.inr (Or.inr ⟨h0, h1, by omega⟩)

end Go.Proofs.Ytdffdppkdbbdoaa.Z

/- Fields of words: what the bit operations come to, in whole numbers. No program is in sight. -/
set_option linter.unusedVariables false
set_option linter.unusedSimpArgs false
namespace Go.Proofs.Ytdffdppkdbbdoaa.ZB
open Go.RowKit

theorem pow_pos (n : Nat) : 0 < 2 ^ n := Nat.pow_pos (by decide)

theorem two_pow_le {a b : Nat} (h : a ≤ b) : 2 ^ a ≤ 2 ^ b := Nat.pow_le_pow_right (by decide) h

theorem and_mask (v s w : Nat) : v &&& ((2 ^ w - 1) * 2 ^ s) = (v / 2 ^ s % 2 ^ w) * 2 ^ s := by
  rw [← Nat.shiftLeft_eq, ← Nat.shiftLeft_eq, ← Nat.shiftRight_eq_div_pow]
  apply Nat.eq_of_testBit_eq
  intro i
  simp only [Nat.testBit_and, Nat.testBit_shiftLeft, Nat.testBit_two_pow_sub_one, Nat.testBit_mod_two_pow, Nat.testBit_shiftRight]
  by_cases h : i ≥ s
  · have e : s + (i - s) = i := by omega
    simp only [h, decide_true, Bool.true_and, e]
    exact Bool.and_comm _ _
  · simp [h]

theorem ofInt_nat (k n : Nat) : BitVec.ofInt k (n : Int) = BitVec.ofNat k n := by simp

theorem bits_and (a b : Nat) (ha : a < 4294967296) (hb : b < 4294967296) : Go.bits .and .u32 (a : Int) (b : Int) = ((a &&& b : Nat) : Int) := by
  unfold Go.bits
  simp only [ofInt_nat, BitVec.toNat_and, BitVec.toNat_ofNat]
  rw [Nat.mod_eq_of_lt (by simpa [IntKind.bits] using ha), Nat.mod_eq_of_lt (by simpa [IntKind.bits] using hb)]
  rw [IntKind.wrap_u32]
  have : a &&& b ≤ a := Nat.and_le_left
  omega

theorem and_split (v m : BitVec 32) : v.toNat = (v &&& m).toNat + (v &&& ~~~m).toNat := by
  have hz : (v &&& m) &&& (v &&& ~~~m) = 0#32 := by ext i; simp only [BitVec.getElem_and, BitVec.getElem_or, BitVec.getElem_not, BitVec.getElem_zero]; cases v[i] <;> cases m[i] <;> rfl
  have hor : (v &&& m) ||| (v &&& ~~~m) = v := by ext i; simp only [BitVec.getElem_and, BitVec.getElem_or, BitVec.getElem_not, BitVec.getElem_zero]; cases v[i] <;> cases m[i] <;> rfl
  have := BitVec.add_eq_or_of_and_eq_zero _ _ hz
  rw [hor] at this
  have h2 := congrArg BitVec.toNat this
  rw [BitVec.toNat_add] at h2
  have h3 : (v &&& ~~~m).toNat ≤ (~~~m).toNat := by rw [BitVec.toNat_and]; exact Nat.and_le_right
  have h4 : (v &&& m).toNat ≤ m.toNat := by rw [BitVec.toNat_and]; exact Nat.and_le_right
  rw [BitVec.toNat_not] at h3
  have := m.isLt
  rw [Nat.mod_eq_of_lt (by omega)] at h2
  exact h2.symm

theorem put_split (v x m : BitVec 32) : ((v &&& ~~~m) ||| (x &&& m)).toNat = (v &&& ~~~m).toNat + (x &&& m).toNat := by
  have hz : (v &&& ~~~m) &&& (x &&& m) = 0#32 := by ext i; simp only [BitVec.getElem_and, BitVec.getElem_not, BitVec.getElem_zero]; cases v[i] <;> cases x[i] <;> cases m[i] <;> rfl
  have := BitVec.add_eq_or_of_and_eq_zero _ _ hz
  rw [← this, BitVec.toNat_add]
  have h3 : (v &&& ~~~m).toNat ≤ (~~~m).toNat := by rw [BitVec.toNat_and]; exact Nat.and_le_right
  have h4 : (x &&& m).toNat ≤ m.toNat := by rw [BitVec.toNat_and]; exact Nat.and_le_right
  rw [BitVec.toNat_not] at h3
  have := m.isLt
  rw [Nat.mod_eq_of_lt (by omega)]

theorem bits_or (a b : Nat) (ha : a < 4294967296) (hb : b < 4294967296) : Go.bits .or .u32 (a : Int) (b : Int) = ((BitVec.ofNat 32 a ||| BitVec.ofNat 32 b).toNat : Int) := by
  show (IntKind.u32.wrap ((BitVec.ofInt 32 (a : Int) ||| BitVec.ofInt 32 (b : Int)).toNat : Int)) = _
  rw [ofInt_nat, ofInt_nat, IntKind.wrap_u32]
  have := (BitVec.ofNat 32 a ||| BitVec.ofNat 32 b).isLt
  omega

theorem bits_andNot (a b : Nat) : Go.bits .andNot .u32 (a : Int) (b : Int) = ((BitVec.ofNat 32 a &&& ~~~ (BitVec.ofNat 32 b)).toNat : Int) := by
  show (IntKind.u32.wrap ((BitVec.ofInt 32 (a : Int) &&& ~~~ (BitVec.ofInt 32 (b : Int))).toNat : Int)) = _
  rw [ofInt_nat, ofInt_nat, IntKind.wrap_u32]
  have := (BitVec.ofNat 32 a &&& ~~~ (BitVec.ofNat 32 b)).isLt
  omega

theorem nat32 (a : Nat) (ha : a < 4294967296) : (BitVec.ofNat 32 a).toNat = a := by
  rw [BitVec.toNat_ofNat]; exact Nat.mod_eq_of_lt (by omega)

theorem bits_put (v x m : Nat) (hv : v < 4294967296) (hx : x < 4294967296) (hm : m < 4294967296) :
    Go.bits .or .u32 (Go.bits .andNot .u32 (v : Int) (m : Int)) (Go.bits .and .u32 (x : Int) (m : Int)) = (v : Int) - ((v &&& m : Nat) : Int) + ((x &&& m : Nat) : Int) := by
  rw [bits_and x m hx hm, bits_andNot]
  have e1 := and_split (BitVec.ofNat 32 v) (BitVec.ofNat 32 m)
  have e2 := put_split (BitVec.ofNat 32 v) (BitVec.ofNat 32 x) (BitVec.ofNat 32 m)
  have ex : (BitVec.ofNat 32 x &&& BitVec.ofNat 32 m).toNat = x &&& m := by rw [BitVec.toNat_and, nat32 x hx, nat32 m hm]
  have ev : (BitVec.ofNat 32 v &&& BitVec.ofNat 32 m).toNat = v &&& m := by rw [BitVec.toNat_and, nat32 v hv, nat32 m hm]
  have e5 : BitVec.ofNat 32 (x &&& m) = (BitVec.ofNat 32 x &&& BitVec.ofNat 32 m) := by
    apply BitVec.eq_of_toNat_eq
    rw [ex, nat32]
    have : x &&& m ≤ x := Nat.and_le_left
    omega
  have hl : x &&& m < 4294967296 := by
    have : x &&& m ≤ x := Nat.and_le_left
    omega
  generalize hA : (BitVec.ofNat 32 v &&& ~~~ (BitVec.ofNat 32 m)) = A at e1 e2 ⊢
  have hlt := A.isLt
  rw [bits_or _ _ (by omega) hl, e5, show BitVec.ofNat 32 A.toNat = A from by simp, e2, ex]
  rw [ev, nat32 v hv] at e1
  omega

end Go.Proofs.Ytdffdppkdbbdoaa.ZB

/- The lock in which readers go first: one writes, or many read; all come to rest. No program is in sight. -/
set_option linter.unusedVariables false
set_option linter.unusedSimpArgs false
namespace Go.Proofs.Ytdffdppkdbbdoaa.Z
open Go.RowKit

theorem rfIn_is (v : Int) (hv : 0 ≤ v ∧ v < 4294967296) : rfIn v = (v / 65536 % 2 != 0) := by
  obtain ⟨n, rfl⟩ : ∃ n : Nat, v = n := ⟨v.toNat, by omega⟩
  have h := ZB.bits_and n 65536 (by omega) (by decide)
  have h2 : n &&& 65536 = n / 65536 % 2 * 65536 := ZB.and_mask n 16 1
  rw [h2] at h
  unfold rfIn
  have h3 : bits .and .u32 (n : Int) 65536 = ((n / 65536 % 2 * 65536 : Nat) : Int) := h
  rw [h3]
  rcases (show n / 65536 % 2 = 0 ∨ n / 65536 % 2 = 1 by omega) with h4 | h4
  · rw [h4]
    have : ((n : Int) / 65536 % 2) = 0 := by omega
    rw [this]; rfl
  · rw [h4]
    have : ((n : Int) / 65536 % 2) = 1 := by omega
    rw [this]; rfl

/-- Where a task is. -/
inductive RfP
  | idle (h : Int)
  | r0 | r1 (a : Int)
  | u0
  | w0 | w1 (a : Int) | w2 (a : Int)
  | v0
  | d0
  | tr0 (a : Int) | tr1 (a : Int) | tw0 (a : Int) | tw1 (a : Int) | tu0 (a : Int) | tu1 (a : Int)
def fr (op line a : Int) : Fr := ⟨op, line, a, 0, 0, Wk.zero, 0⟩
def rfConc : RfP → Fr × Int
  | .idle h => (Fr.zero, h)
  | .r0 => (fr 1 0 0, 0) | .r1 a => (fr 1 1 a, 0)
  | .u0 => (fr 2 0 0, 0)
  | .w0 => (fr 3 0 0, 0) | .w1 a => (fr 3 1 a, 0) | .w2 a => (fr 3 2 a, 0)
  | .v0 => (fr 4 0 0, 0)
  | .d0 => (fr 8 0 0, 1)
  | .tr0 a => (fr 5 0 a, 0) | .tr1 a => (fr 5 1 a, 0)
  | .tw0 a => (fr 6 0 a, 0) | .tw1 a => (fr 6 1 a, 0)
  | .tu0 a => (fr 7 0 a, 1) | .tu1 a => (fr 7 1 a, 1)
def rfWait : RfP → Option (Nat × (Int → Bool))
  | .r1 _ => some (0, fun v => !rfIn v)
  | .w2 _ => some (0, fun v => v == 0)
  | _ => none
def rfPost : RfP → RfP
  | .r1 _ => .idle 1
  | .w2 a => .w1 a
  | p => p
def rfKp : RfP → Int
  | .r1 a => a
  | .w2 a => a
  | _ => 0
def rfAct (x : Int) : RfP → RfP × Option (Nat × Int) × Option Nat
  | .r0 => (if rfIn x then .r1 x else .idle 1, some (0, (x + 1) % 4294967296), none)
  | .u0 => (.idle 0, some (0, (x + 4294967295) % 4294967296), some 0)
  | .w0 => (if x = 0 then .w1 x else .w2 x, none, none)
  | .w1 a => if x = 0 then (.idle 2, some (0, 65536), none) else (.w2 a, none, none)
  | .v0 => (.idle 0, some (0, (x + 4294901760) % 4294967296), some 0)
  | .d0 => (.idle 1, some (0, (x + 4294901761) % 4294967296), some 0)
  | .tr0 a => (if rfIn x then .idle 0 else .tr1 x, none, none)
  | .tr1 a => if x = a then (.idle 1, some (0, (a + 1) % 4294967296), none) else (.tr0 a, none, none)
  | .tw0 a => (if x = 0 then .tw1 x else .idle 0, none, none)
  | .tw1 a => if x = 0 then (.idle 2, some (0, 65536), none) else (.tw0 a, none, none)
  | .tu0 a => (if x = 1 then .tu1 x else .idle 1, none, none)
  | .tu1 a => if x = 1 then (.idle 2, some (0, 65536), none) else (.tu0 a, none, none)
  | p => (p, none, none)
def rfStart (op h : Int) : RfP := if op = 1 then .r0 else if op = 2 then .u0 else if op = 3 then .w0 else if op = 4 then .v0 else if op = 5 then .tr0 0 else if op = 6 then .tw0 0 else if op = 7 then .tu0 0 else .d0
def rfK : LockM RfP := ⟨rfA, rfConc, fun p _ => rfKp p, fun _ p => rfWait p, fun p _ => rfPost p, fun _ p m => rfAct (m 0) p, .idle, rfStart, fun _ => True⟩

set_option maxHeartbeats 1600000 in
theorem rf_good (n : Nat) (mode : Int) : rfK.Good n mode := by
  refine ⟨fun p => by cases p <;> exact ⟨rfl, rfl, rfl⟩, fun h => rfl, fun p hp => ?_, fun p hp => ?_, fun t p c pr hw => ?_, fun op h hm => ?_, fun t op h hm => ?_, fun t p c pr _ _ hw => ?_, fun t p c pr v hw hh => ?_, fun p t s hok ht hw hop hn hmd htk hf hl => ?_, fun p t c pr st s hok ht hw h0 h3 hn hmd htk hf hl => ?_, fun p t c pr v s hok ht hm2 hw hpr hn hmd htk hf hl => ?_⟩
  · cases p <;> first | rfl | (simp [rfK, rfConc, fr] at hp)
  · cases p <;> first | (simp [rfK, rfConc, fr] at hp; done) | (simp [rfK, rfConc] at hp; rw [hp]; rfl)
  · cases p <;> simp [rfK, rfWait] at hw <;> simp [rfK, rfConc, fr]
  · rcases may_ops hm with ⟨rfl, rfl | rfl | rfl | rfl⟩ | ⟨rfl, rfl | rfl⟩ | ⟨_, _, rfl | rfl⟩ <;> simp [rfK, rfStart, rfConc, fr, frOp, fromA]
  · rcases may_ops hm with ⟨rfl, rfl | rfl | rfl | rfl⟩ | ⟨rfl, rfl | rfl⟩ | ⟨_, _, rfl | rfl⟩ <;> simp [rfK, rfStart, rfWait]
  · cases p <;> simp [rfK, rfWait] at hw <;> omega
  · cases p <;> simp [rfK, rfWait] at hw <;> simp [rfK, rfConc] at hh
  · obtain ⟨sn, sm, st, f, acc, notes, L⟩ := s
    simp only at hn hmd htk hf hl
    subst hn hmd htk hf
    have e1 := at_ld (n := n) (L := L) (c := 0) hl (by decide) (by omega)
    have e2 := fun x => at_ad (n := n) (L := L) (c := 0) (x := x) hl (by decide) (by omega)
    have e3 := fun x y => at_cas (n := n) (L := L) (c := 0) (x := x) (y := y) hl (by decide) (by omega)
    have e4 := fun x y => at_casB (n := n) (L := L) (c := 0) (x := x) (y := y) hl (by decide) (by omega)
    simp only [show (0 : Int).toNat = 0 from rfl] at e1 e2 e3 e4
    have hx : (rfK.act t p (mainOf n L)) = rfAct (mainOf n L 0) p := rfl
    show ActIs rfK n p (rfAct (mainOf n L 0) p) _ _
    generalize mainOf n L 0 = x at e1 e2 e3 e4
    cases p <;> simp [rfK, rfWait] at hw <;> simp [rfK, rfConc, Fr.zero] at hop
    case r0 => by_cases hq : rfIn x = true <;> constructor <;> simp [rfK, rfConc, fr, rfA, rf10, rfAct, e2, hq, Rn.did, Rn.setA, Rn.note, Rn.goto, Rn.ends, Rn.noted, Rn.fin, writtenL, normF, behindA, wkOf] <;> omega
    case u0 => constructor <;> simp [rfK, rfConc, fr, rfA, rf20, rfAct, e2, Rn.did, Rn.wake, Rn.note, Rn.goto, Rn.ends, Rn.noted, Rn.fin, writtenL, normF, behindA, wkOf] <;> omega
    case v0 => constructor <;> simp [rfK, rfConc, fr, rfA, rf40, rfAct, e2, Rn.did, Rn.wake, Rn.note, Rn.goto, Rn.ends, Rn.noted, Rn.fin, writtenL, normF, behindA, wkOf] <;> omega
    case d0 => constructor <;> simp [rfK, rfConc, fr, rfA, rf80, rfAct, e2, Rn.did, Rn.wake, Rn.note, Rn.goto, Rn.ends, Rn.noted, Rn.fin, writtenL, normF, behindA, wkOf] <;> omega
    case w0 => by_cases hq : x = 0 <;> constructor <;> simp [rfK, rfConc, fr, rfA, rf30, rfAct, e1, hq, Rn.did, Rn.setA, Rn.note, Rn.goto, writtenL, normF, behindA, wkOf]
    case w1 a => by_cases hq : x = 0 <;> constructor <;> simp [rfK, rfConc, fr, rfA, rf31, rfAct, e3, e4, hq, Rn.did, Rn.setA, Rn.note, Rn.goto, Rn.ends, Rn.noted, Rn.fin, writtenL, normF, behindA, wkOf] <;> omega
    case tr0 a => by_cases hq : rfIn x = true <;> constructor <;> simp [rfK, rfConc, fr, rfA, rf50, Rn.chosen, Rn.refused, rfAct, e1, hq, Rn.did, Rn.setA, Rn.note, Rn.goto, Rn.fin, writtenL, normF, behindA, wkOf]
    case tw0 a => by_cases hq : x = 0 <;> constructor <;> simp [rfK, rfConc, fr, rfA, rf60, Rn.chosen, Rn.refused, rfAct, e1, hq, Rn.did, Rn.setA, Rn.note, Rn.goto, Rn.fin, writtenL, normF, behindA, wkOf]
    case tu0 a => by_cases hq : x = 1 <;> constructor <;> simp [rfK, rfConc, fr, rfA, rf70, Rn.chosen, Rn.refused, rfAct, e1, hq, Rn.did, Rn.setA, Rn.note, Rn.goto, Rn.fin, writtenL, normF, behindA, wkOf]
    case tr1 a => by_cases hq : x = a <;> constructor <;> simp [rfK, rfConc, fr, rfA, rf51, Rn.swapped, rfAct, e3, e4, hq, Rn.did, Rn.setA, Rn.note, Rn.goto, Rn.ends, Rn.noted, Rn.fin, writtenL, normF, behindA, wkOf] <;> omega
    case tw1 a => by_cases hq : x = 0 <;> constructor <;> simp [rfK, rfConc, fr, rfA, rf61, Rn.swapped, rfAct, e3, e4, hq, Rn.did, Rn.setA, Rn.note, Rn.goto, Rn.ends, Rn.noted, Rn.fin, writtenL, normF, behindA, wkOf] <;> omega
    case tu1 a => by_cases hq : x = 1 <;> constructor <;> simp [rfK, rfConc, fr, rfA, rf71, Rn.swapped, rfAct, e3, e4, hq, Rn.did, Rn.setA, Rn.note, Rn.goto, Rn.ends, Rn.noted, Rn.fin, writtenL, normF, behindA, wkOf] <;> omega
  · obtain ⟨sn, sm, stk, f, acc, notes, L⟩ := s
    simp only at hn hmd htk hf hl
    subst hn hmd htk hf
    cases p <;> simp [rfK, rfWait] at hw
    case r1 a =>
      obtain ⟨rfl, rfl⟩ := hw
      have hd := fun h => wait_done (L := L) (n := n) (mode := sm) (task := t) (st := st) (c := 0) (p := fun v => !rfIn v) h
      simp [rfK, rfConc, fr, rfA, rf11, Rn.waited, rfKp, rfPost]
      generalize waitA L n sm t st 0 (fun v => !rfIn v) = R at hd ⊢
      obtain ⟨rs, ra, rsn, rd, rw_⟩ := R
      cases rsn <;> cases rd <;> simp [Rn.note, Rn.fin, normF, behindA] at hd ⊢ <;> simp [hd, Wk.zero]
    case w2 a =>
      obtain ⟨rfl, rfl⟩ := hw
      have hd := fun h => wait_done (L := L) (n := n) (mode := sm) (task := t) (st := st) (c := 0) (p := fun v => v == 0) h
      simp [rfK, rfConc, fr, rfA, rf32, Rn.waited, rfKp, rfPost]
      generalize waitA L n sm t st 0 (fun v => v == 0) = R at hd ⊢
      obtain ⟨rs, ra, rsn, rd, rw_⟩ := R
      cases rsn <;> cases rd <;> simp [Rn.goto, normF, behindA] at hd ⊢ <;> simp [hd, Wk.zero]
  · obtain ⟨sn, sm, stk, f, acc, notes, L⟩ := s
    simp only at hn hmd htk hf hl
    subst hn hmd htk hf
    cases p <;> simp [rfK, rfWait] at hw
    case r1 a =>
      obtain ⟨rfl, rfl⟩ := hw
      have hd := wait4_done (L := L) (n := n) (task := t) (c := 0) (p := fun v => !rfIn v) hm2
      simp [rfK, rfConc, fr, rfA, rf11, Rn.waited, rfKp, rfPost]
      generalize waitA L n sm t 4 0 (fun v => !rfIn v) = R at hd ⊢
      obtain ⟨rs, ra, rsn, rd, rw_⟩ := R
      obtain ⟨rfl, rfl⟩ := hd
      cases rsn <;> simp [Rn.note, Rn.fin, normF, behindA, Wk.zero]
    case w2 a =>
      obtain ⟨rfl, rfl⟩ := hw
      have hd := wait4_done (L := L) (n := n) (task := t) (c := 0) (p := fun v => v == 0) hm2
      simp [rfK, rfConc, fr, rfA, rf32, Rn.waited, rfKp, rfPost]
      generalize waitA L n sm t 4 0 (fun v => v == 0) = R at hd ⊢
      obtain ⟨rs, ra, rsn, rd, rw_⟩ := R
      obtain ⟨rfl, rfl⟩ := hd
      cases rsn <;> simp [Rn.goto, normF, behindA, Wk.zero]


/-- Who writes; who reads, or wants to and is counted; who reads. -/
def rfW : RfP → Int
  | .idle h => if h = 2 then 1 else 0
  | .v0 => 1 | .d0 => 1
  | _ => 0
def rfR : RfP → Int
  | .idle h => if h = 1 then 1 else 0
  | .r1 _ => 1 | .u0 => 1 | .tu0 _ => 1 | .tu1 _ => 1
  | _ => 0
def rfN : RfP → Int
  | .idle h => if h = 1 then 1 else 0
  | .u0 => 1 | .tu0 _ => 1 | .tu1 _ => 1
  | _ => 0
def rfOk : RfP → Prop
  | .idle h => h = 0 ∨ h = 1 ∨ h = 2
  | .tr1 a => rfIn a = false
  | _ => True
def rfI (n b : Nat) (ps : List RfP) (m : Nat → Int) : Prop := n ≤ 64 ∧ ps.length = n ∧ m 0 = 65536 * ws rfW ps + ws rfR ps ∧ ws rfW ps ≤ 1 ∧ (ws rfW ps = 1 → ws rfN ps = 0) ∧ ∀ p, p ∈ ps → rfOk p
theorem rfW_01 : ∀ x, 0 ≤ rfW x := by intro x; cases x <;> simp [rfW]; split <;> omega
theorem rfR_01 : ∀ x, 0 ≤ rfR x := by intro x; cases x <;> simp [rfR]; split <;> omega
theorem rfR_1 : ∀ x, rfR x ≤ 1 := by intro x; cases x <;> simp [rfR]; split <;> omega
theorem rfN_01 : ∀ x, 0 ≤ rfN x := by intro x; cases x <;> simp [rfN]; split <;> omega
theorem rfN_le : ∀ x, rfN x ≤ rfR x := by intro x; cases x <;> simp [rfN, rfR]
theorem rfI_in {n b : Nat} {ps : List RfP} {m : Nat → Int} (H : rfI n b ps m) : rfIn (m 0) = (ws rfW ps == 1) := by
  obtain ⟨h1, h2, h3, h4, h5, h6⟩ := H
  have a1 := ws_nonneg rfW_01 ps
  have a2 := ws_nonneg rfR_01 ps
  have a3 := ws_len rfR_1 ps
  rw [rfIn_is _ (by omega)]
  rcases (show ws rfW ps = 0 ∨ ws rfW ps = 1 by omega) with h | h
  · rw [h]
    have : m 0 / 65536 % 2 = 0 := by omega
    rw [this]; rfl
  · rw [h]
    have : m 0 / 65536 % 2 = 1 := by omega
    rw [this]; rfl
theorem rf_mem {ps : List RfP} {i : Nat} {q : RfP} (h : ∀ p, p ∈ ps → rfOk p) (hq : rfOk q) : ∀ p, p ∈ ps.set i q → rfOk p := fun p hp => by
  rcases List.mem_or_eq_of_mem_set hp with h1 | h1
  · exact h p h1
  · rw [h1]; exact hq
theorem rf_at {ps : List RfP} {i n : Nat} (h : ∀ p, p ∈ ps → rfOk p) (hl : ps.length = n) (hi : i < n) : rfOk (ps.getD i (rfK.idle 0)) := h _ (by simp [List.getD, hl, hi])

set_option maxHeartbeats 1600000 in
theorem rf_keeps (n : Nat) : rfK.Keeps n (rfI n) := by
  refine ⟨fun b ps m H => H, fun b ps m i _ _ _ => trivial, fun b ps m i op h H hi hl hp hm => ?_, fun b ps m i H hi hl hw hop => ?_, fun b ps m i c pr H hi hl hw hpr => ?_, fun b ps m i j c pr H hi hj hij hl hw hop hwj hpr => ?_⟩
  · obtain ⟨h1, h2, h3, h4, h5, h6⟩ := H
    have hs := fun f => ws_set (f := f) (d := rfK.idle 0) (x := rfK.start op h) (l := ps) (i := i) (by omega)
    have e1 := hs rfW
    have e2 := hs rfR
    have e3 := hs rfN
    rw [hp] at e1 e2 e3
    have hh := rf_at h6 hl hi
    rw [hp] at hh
    have key : rfW (rfK.start op h) = rfW (rfK.idle h) ∧ rfR (rfK.start op h) = rfR (rfK.idle h) ∧ rfN (rfK.start op h) = rfN (rfK.idle h) ∧ rfOk (rfK.start op h) := by
      rcases may_ops hm with ⟨rfl, rfl | rfl | rfl | rfl⟩ | ⟨rfl, rfl | rfl⟩ | ⟨g1, g2, rfl | rfl⟩ <;> simp [rfK, rfOk] at hh <;> simp [rfK, rfStart, rfW, rfR, rfN, rfOk] <;> omega
    obtain ⟨k1, k2, k3, k4⟩ := key
    rw [k1] at e1
    rw [k2] at e2
    rw [k3] at e3
    exact ⟨h1, by simpa using h2, by rw [e1, e2]; omega, by omega, fun h => by omega, rf_mem h6 k4⟩
  · have hin := rfI_in H
    obtain ⟨h1, h2, h3, h4, h5, h6⟩ := H
    have hs := fun f x => ws_set (f := f) (d := rfK.idle 0) (x := x) (l := ps) (i := i) (by omega)
    have b1 := ws_one (d := rfK.idle 0) rfW_01 (l := ps) (i := i) (by omega)
    have b2 := ws_one (d := rfK.idle 0) rfR_01 (l := ps) (i := i) (by omega)
    have b3 := ws_one (d := rfK.idle 0) rfN_01 (l := ps) (i := i) (by omega)
    have a1 := ws_nonneg rfW_01 ps
    have a2 := ws_nonneg rfR_01 ps
    have a3 := ws_len rfR_1 ps
    have a4 := ws_nonneg rfN_01 ps
    have a5 := ws_le rfN_le ps
    have hh := rf_at h6 hl hi
    have hact : rfK.act i (ps.getD i (rfK.idle 0)) m = rfAct (m 0) (ps.getD i (rfK.idle 0)) := rfl
    rw [hact]
    generalize ps.getD i (rfK.idle 0) = p at *
    have hset : ∀ (p' : RfP) (w : Option (Nat × Int)), (written m w 0 = 65536 * ws rfW (ps.set i p') + ws rfR (ps.set i p')) → ws rfW (ps.set i p') ≤ 1 → (ws rfW (ps.set i p') = 1 → ws rfN (ps.set i p') = 0) → rfOk p' → rfI n b (ps.set i p') (written m w) :=
      fun p' w g1 g2 g3 g4 => ⟨h1, by simpa using h2, g1, g2, g3, rf_mem h6 g4⟩
    have hwr : ∀ v, written m (some (0, v)) 0 = v := fun v => by simp [written, upd]
    have hwn : written m none 0 = m 0 := rfl
    have hin2 : rfIn (m 0) = true → ws rfW ps = 1 := fun h => by rw [h] at hin; simpa using hin.symm
    have hin3 : rfIn (m 0) = false → ws rfW ps ≠ 1 := fun h => by rw [h] at hin; simpa using hin.symm
    cases p <;> simp [rfK, rfWait] at hw <;> simp [rfK, rfConc, Fr.zero] at hop <;> simp only [rfW, rfR, rfN] at hs b1 b2 b3 <;> simp only [rfOk] at hh
    case r0 =>
      cases hq : rfIn (m 0) with
      | true =>
        have hi2 := hin2 hq
        have g1 := hs rfW (.r1 (m 0)); have g2 := hs rfR (.r1 (m 0)); have g3 := hs rfN (.r1 (m 0))
        simp [rfW, rfR, rfN] at g1 g2 g3
        simp only [rfAct, hq, if_true]
        exact hset _ _ (by rw [hwr]; omega) (by omega) (by omega) trivial
      | false =>
        have hi3 := hin3 hq
        have g1 := hs rfW (.idle 1); have g2 := hs rfR (.idle 1); have g3 := hs rfN (.idle 1)
        simp [rfW, rfR, rfN] at g1 g2 g3
        simp only [rfAct, hq, Bool.false_eq_true, if_false]
        exact hset _ _ (by rw [hwr]; omega) (by omega) (by omega) (Or.inr (Or.inl rfl))
    case u0 =>
      have g1 := hs rfW (.idle 0); have g2 := hs rfR (.idle 0); have g3 := hs rfN (.idle 0)
      simp [rfW, rfR, rfN] at g1 g2 g3
      simp only [rfAct]
      exact hset _ _ (by rw [hwr]; omega) (by omega) (by omega) (Or.inl rfl)
    case v0 =>
      have g1 := hs rfW (.idle 0); have g2 := hs rfR (.idle 0); have g3 := hs rfN (.idle 0)
      simp [rfW, rfR, rfN] at g1 g2 g3
      simp only [rfAct]
      exact hset _ _ (by rw [hwr]; omega) (by omega) (by omega) (Or.inl rfl)
    case d0 =>
      have g1 := hs rfW (.idle 1); have g2 := hs rfR (.idle 1); have g3 := hs rfN (.idle 1)
      simp [rfW, rfR, rfN] at g1 g2 g3
      simp only [rfAct]
      exact hset _ _ (by rw [hwr]; omega) (by omega) (by omega) (Or.inr (Or.inl rfl))
    case w0 =>
      by_cases hq : m 0 = 0
      · skip
        have g1 := hs rfW (.w1 (m 0)); have g2 := hs rfR (.w1 (m 0)); have g3 := hs rfN (.w1 (m 0))
        simp [rfW, rfR, rfN] at g1 g2 g3
        simp only [rfAct, if_pos hq]
        exact hset _ _ (by rw [hwn]; omega) (by omega) (by omega) trivial
      · skip
        have g1 := hs rfW (.w2 (m 0)); have g2 := hs rfR (.w2 (m 0)); have g3 := hs rfN (.w2 (m 0))
        simp [rfW, rfR, rfN] at g1 g2 g3
        simp only [rfAct, if_neg hq]
        exact hset _ _ (by rw [hwn]; omega) (by omega) (by omega) trivial
    case w1 a =>
      by_cases hq : m 0 = 0
      · skip
        have g1 := hs rfW (.idle 2); have g2 := hs rfR (.idle 2); have g3 := hs rfN (.idle 2)
        simp [rfW, rfR, rfN] at g1 g2 g3
        simp only [rfAct, if_pos hq]
        exact hset _ _ (by rw [hwr]; omega) (by omega) (by omega) (Or.inr (Or.inr rfl))
      · skip
        have g1 := hs rfW (.w2 a); have g2 := hs rfR (.w2 a); have g3 := hs rfN (.w2 a)
        simp [rfW, rfR, rfN] at g1 g2 g3
        simp only [rfAct, if_neg hq]
        exact hset _ _ (by rw [hwn]; omega) (by omega) (by omega) trivial
    case tr0 a =>
      cases hq : rfIn (m 0) with
      | true =>
        have hi2 := hin2 hq
        have g1 := hs rfW (.idle 0); have g2 := hs rfR (.idle 0); have g3 := hs rfN (.idle 0)
        simp [rfW, rfR, rfN] at g1 g2 g3
        simp only [rfAct, hq, if_true]
        exact hset _ _ (by rw [hwn]; omega) (by omega) (by omega) (Or.inl rfl)
      | false =>
        have hi3 := hin3 hq
        have g1 := hs rfW (.tr1 (m 0)); have g2 := hs rfR (.tr1 (m 0)); have g3 := hs rfN (.tr1 (m 0))
        simp [rfW, rfR, rfN] at g1 g2 g3
        simp only [rfAct, hq, Bool.false_eq_true, if_false]
        exact hset _ _ (by rw [hwn]; omega) (by omega) (by omega) hq
    case tr1 a =>
      by_cases hq : m 0 = a
      · skip
        have hi3 := hin3 (by rw [hq]; exact hh)
        have g1 := hs rfW (.idle 1); have g2 := hs rfR (.idle 1); have g3 := hs rfN (.idle 1)
        simp [rfW, rfR, rfN] at g1 g2 g3
        simp only [rfAct, if_pos hq]
        exact hset _ _ (by rw [hwr]; omega) (by omega) (by omega) (Or.inr (Or.inl rfl))
      · skip
        have g1 := hs rfW (.tr0 a); have g2 := hs rfR (.tr0 a); have g3 := hs rfN (.tr0 a)
        simp [rfW, rfR, rfN] at g1 g2 g3
        simp only [rfAct, if_neg hq]
        exact hset _ _ (by rw [hwn]; omega) (by omega) (by omega) trivial
    case tw0 a =>
      by_cases hq : m 0 = 0
      · skip
        have g1 := hs rfW (.tw1 (m 0)); have g2 := hs rfR (.tw1 (m 0)); have g3 := hs rfN (.tw1 (m 0))
        simp [rfW, rfR, rfN] at g1 g2 g3
        simp only [rfAct, if_pos hq]
        exact hset _ _ (by rw [hwn]; omega) (by omega) (by omega) trivial
      · skip
        have g1 := hs rfW (.idle 0); have g2 := hs rfR (.idle 0); have g3 := hs rfN (.idle 0)
        simp [rfW, rfR, rfN] at g1 g2 g3
        simp only [rfAct, if_neg hq]
        exact hset _ _ (by rw [hwn]; omega) (by omega) (by omega) (Or.inl rfl)
    case tw1 a =>
      by_cases hq : m 0 = 0
      · skip
        have g1 := hs rfW (.idle 2); have g2 := hs rfR (.idle 2); have g3 := hs rfN (.idle 2)
        simp [rfW, rfR, rfN] at g1 g2 g3
        simp only [rfAct, if_pos hq]
        exact hset _ _ (by rw [hwr]; omega) (by omega) (by omega) (Or.inr (Or.inr rfl))
      · skip
        have g1 := hs rfW (.tw0 a); have g2 := hs rfR (.tw0 a); have g3 := hs rfN (.tw0 a)
        simp [rfW, rfR, rfN] at g1 g2 g3
        simp only [rfAct, if_neg hq]
        exact hset _ _ (by rw [hwn]; omega) (by omega) (by omega) trivial
    case tu0 a =>
      by_cases hq : m 0 = 1
      · skip
        have g1 := hs rfW (.tu1 (m 0)); have g2 := hs rfR (.tu1 (m 0)); have g3 := hs rfN (.tu1 (m 0))
        simp [rfW, rfR, rfN] at g1 g2 g3
        simp only [rfAct, if_pos hq]
        exact hset _ _ (by rw [hwn]; omega) (by omega) (by omega) trivial
      · skip
        have g1 := hs rfW (.idle 1); have g2 := hs rfR (.idle 1); have g3 := hs rfN (.idle 1)
        simp [rfW, rfR, rfN] at g1 g2 g3
        simp only [rfAct, if_neg hq]
        exact hset _ _ (by rw [hwn]; omega) (by omega) (by omega) (Or.inr (Or.inl rfl))
    case tu1 a =>
      by_cases hq : m 0 = 1
      · skip
        have g1 := hs rfW (.idle 2); have g2 := hs rfR (.idle 2); have g3 := hs rfN (.idle 2)
        simp [rfW, rfR, rfN] at g1 g2 g3
        simp only [rfAct, if_pos hq]
        exact hset _ _ (by rw [hwr]; omega) (by omega) (by omega) (Or.inr (Or.inr rfl))
      · skip
        have g1 := hs rfW (.tu0 a); have g2 := hs rfR (.tu0 a); have g3 := hs rfN (.tu0 a)
        simp [rfW, rfR, rfN] at g1 g2 g3
        simp only [rfAct, if_neg hq]
        exact hset _ _ (by rw [hwn]; omega) (by omega) (by omega) trivial
  · have hin := rfI_in H
    obtain ⟨h1, h2, h3, h4, h5, h6⟩ := H
    have hs := fun f x => ws_set (f := f) (d := rfK.idle 0) (x := x) (l := ps) (i := i) (by omega)
    have a1 := ws_nonneg rfW_01 ps
    have hpost : rfK.post (ps.getD i (rfK.idle 0)) (m c) = rfPost (ps.getD i (rfK.idle 0)) := rfl
    rw [hpost]
    generalize ps.getD i (rfK.idle 0) = p at *
    cases p <;> simp [rfK, rfWait] at hw
    case r1 a =>
      obtain ⟨rfl, rfl⟩ := hw
      have hq : rfIn (m 0) = false := by simpa using hpr
      rw [hq] at hin
      have hi3 : ws rfW ps ≠ 1 := by simpa using hin.symm
      have g1 := hs rfW (.idle 1); have g2 := hs rfR (.idle 1); have g3 := hs rfN (.idle 1)
      simp [rfW, rfR, rfN] at g1 g2 g3
      exact ⟨h1, by simpa using h2, by show m 0 = 65536 * ws rfW (ps.set i (.idle 1)) + ws rfR (ps.set i (.idle 1)); omega, by show ws rfW (ps.set i (.idle 1)) ≤ 1; omega, fun h => by have h : ws rfW (ps.set i (.idle 1)) = 1 := h; omega, rf_mem h6 (Or.inr (Or.inl rfl))⟩
    case w2 a =>
      have g1 := hs rfW (.w1 a); have g2 := hs rfR (.w1 a); have g3 := hs rfN (.w1 a)
      simp [rfW, rfR, rfN] at g1 g2 g3
      exact ⟨h1, by simpa using h2, by show m 0 = 65536 * ws rfW (ps.set i (.w1 a)) + ws rfR (ps.set i (.w1 a)); omega, by show ws rfW (ps.set i (.w1 a)) ≤ 1; omega, fun h => by have h : ws rfW (ps.set i (.w1 a)) = 1 := h; show ws rfN (ps.set i (.w1 a)) = 0; omega, rf_mem h6 trivial⟩
  · have hin := rfI_in H
    obtain ⟨h1, h2, h3, h4, h5, h6⟩ := H
    have b1 := ws_one (d := rfK.idle 0) rfW_01 (l := ps) (i := i) (by omega)
    have b2 := ws_one (d := rfK.idle 0) rfR_01 (l := ps) (i := i) (by omega)
    have a1 := ws_nonneg rfW_01 ps
    have a2 := ws_nonneg rfR_01 ps
    have a3 := ws_len rfR_1 ps
    have hh := rf_at h6 hl hi
    have hact : rfK.act i (ps.getD i (rfK.idle 0)) m = rfAct (m 0) (ps.getD i (rfK.idle 0)) := rfl
    rw [hact] at hpr ⊢
    have hc : c = 0 ∧ (pr = (fun v => !rfIn v) ∨ pr = (fun v => v == 0)) := by
      generalize ps.getD j (rfK.idle 0) = q at hwj
      cases q <;> simp [rfK, rfWait] at hwj
      case r1 => exact ⟨hwj.1.symm, Or.inl hwj.2.symm⟩
      case w2 => exact ⟨hwj.1.symm, Or.inr hwj.2.symm⟩
    obtain ⟨rfl, hprs⟩ := hc
    generalize ps.getD i (rfK.idle 0) = p at *
    have hwr : ∀ v, written m (some (0, v)) 0 = v := fun v => by simp [written, upd]
    have hx : 0 ≤ m 0 ∧ m 0 < 4294967296 := by omega
    have keep : (written m (rfAct (m 0) p).2.1 0 = m 0) → pr (m 0) = true ∨ (rfAct (m 0) p).2.2 = some 0 := fun e => Or.inl (by rw [← e]; exact hpr)
    have no : ∀ v, written m (rfAct (m 0) p).2.1 0 = v → (rfIn v = true ∨ (rfIn (m 0) = false ∧ rfIn v = false)) → v ≠ 0 → pr (m 0) = true ∨ (rfAct (m 0) p).2.2 = some 0 := fun v e hv hv0 => by
      rw [e] at hpr
      rcases hprs with rfl | rfl
      · rcases hv with hv | ⟨hv, _⟩
        · simp [hv] at hpr
        · exact Or.inl (by simp [hv])
      · simp at hpr
        exact absurd hpr hv0
    have w16 : rfIn 65536 = true := by decide +kernel
    cases p <;> simp [rfK, rfWait] at hw <;> simp [rfK, rfConc, Fr.zero] at hop <;> simp only [rfW, rfR] at b1 b2 <;> simp only [rfOk] at hh
    case r0 =>
      refine no _ (hwr _) ?_ (by omega)
      rw [rfIn_is _ hx, rfIn_is _ (by omega)]
      rcases (show ws rfW ps = 0 ∨ ws rfW ps = 1 by omega) with h | h
      · right
        have g1 : m 0 / 65536 % 2 = 0 := by omega
        have g2 : (m 0 + 1) % 4294967296 / 65536 % 2 = 0 := by omega
        rw [g1, g2]; decide
      · left
        have g2 : (m 0 + 1) % 4294967296 / 65536 % 2 = 1 := by omega
        rw [g2]; decide
    case u0 => exact Or.inr rfl
    case v0 => exact Or.inr rfl
    case d0 => exact Or.inr rfl
    case w0 => exact keep rfl
    case w1 a =>
      by_cases hq : m 0 = 0
      · exact no 65536 (by simp only [rfAct, if_pos hq]; exact hwr _) (Or.inl w16) (by decide)
      · exact keep (by simp only [rfAct, if_neg hq]; rfl)
    case tr0 a => exact keep rfl
    case tr1 a =>
      by_cases hq : m 0 = a
      · subst hq
        refine no ((m 0 + 1) % 4294967296) (by simp only [rfAct, if_true]; exact hwr _) (Or.inr ⟨hh, ?_⟩) (by omega)
        have hw1 : ws rfW ps ≠ 1 := by rw [hh] at hin; simpa using hin.symm
        rw [rfIn_is _ (by omega)]
        have g2 : (m 0 + 1) % 4294967296 / 65536 % 2 = 0 := by omega
        rw [g2]; decide
      · exact keep (by simp only [rfAct, if_neg hq]; rfl)
    case tw0 a => exact keep rfl
    case tw1 a =>
      by_cases hq : m 0 = 0
      · exact no 65536 (by simp only [rfAct, if_pos hq]; exact hwr _) (Or.inl w16) (by decide)
      · exact keep (by simp only [rfAct, if_neg hq]; rfl)
    case tu0 a => exact keep rfl
    case tu1 a =>
      by_cases hq : m 0 = 1
      · exact no 65536 (by simp only [rfAct, if_pos hq]; exact hwr _) (Or.inl w16) (by decide)
      · exact keep (by simp only [rfAct, if_neg hq]; rfl)

/-- How many writes are left; how many that wake; how many steps while no word changes. -/
def rfNw : RfP → Nat
  | .idle h => if h = 0 then 0 else 1
  | .r0 => 2 | .r1 _ => 1 | .u0 => 1 | .v0 => 1 | .d0 => 2
  | _ => 2
def rfNv : RfP → Nat
  | .idle h => if h = 0 then 0 else 1
  | .d0 => 2
  | _ => 1
def rfCp (x : Int) : RfP → Nat
  | .idle h => if h = 0 then 0 else 1
  | .r1 _ => if rfIn x then 5 else 2
  | .w0 => 6
  | .w1 _ => if x = 0 then 2 else 6
  | .w2 _ => if x = 0 then 3 else 5
  | .tr0 _ => 2 | .tr1 a => if x = a then 1 else 3
  | .tw0 _ => 2 | .tw1 _ => if x = 0 then 1 else 3
  | .tu0 _ => 2 | .tu1 _ => if x = 1 then 1 else 3
  | _ => 1

theorem rf_live (n : Nat) : rfK.Live n (rfI n) 2 2 8 rfNw rfNv (fun m _ p => rfCp (m 0) p) := by
  refine ⟨fun p => by cases p <;> simp [rfNw] <;> split <;> omega, fun p => by cases p <;> simp [rfNv] <;> split <;> omega, by decide, fun m t p => by cases p <;> simp [rfCp] <;> split <;> omega, fun m t p c pr hw hpr => ?_, fun m t p c pr hw hpr => ?_, fun t p c pr v hw => ?_,
    fun m t p w hw hop he => ?_, fun b ps m t p hI hpl ht hpt hw hop he => ?_, fun m t h hh => ?_, fun m t => rfl, fun m t p hw hz => ?_, fun b ps m H hl hall => ?_⟩
  · cases p <;> simp [rfK, rfWait] at hw
    · obtain ⟨rfl, rfl⟩ := hw
      have : rfIn (m 0) = false := by simpa using hpr
      simp [rfK, rfPost, rfCp, this]
    · obtain ⟨rfl, rfl⟩ := hw
      have : m 0 = 0 := by simpa using hpr
      simp [rfK, rfPost, rfCp, this]
  · cases p <;> simp [rfK, rfWait] at hw
    · obtain ⟨rfl, rfl⟩ := hw
      have : rfIn (m 0) = true := by simpa using hpr
      simp [rfCp, this]
    · obtain ⟨rfl, rfl⟩ := hw
      have : ¬ m 0 = 0 := by simpa using hpr
      simp [rfCp, this]
  · cases p <;> simp [rfK, rfWait] at hw <;> simp [rfK, rfPost, rfNw, rfNv]
  · have hact : rfK.act t p m = rfAct (m 0) p := rfl
    rw [hact] at he ⊢
    cases p <;> simp [rfK, rfWait] at hw <;> simp [rfK, rfConc, Fr.zero] at hop
    all_goals (simp only [rfAct] at he ⊢; (try split at he); (try split); all_goals (try (simp at he; done)); all_goals (try (exfalso; contradiction)); all_goals (simp [rfNw, rfNv]); all_goals (try split); all_goals (try simp))
  · have hact : rfK.act t p m = rfAct (m 0) p := rfl
    rw [hact] at he ⊢
    clear hI hpl ht hpt
    show _ ∧ _ ∧ _ ∧ rfCp (m 0) (rfAct (m 0) p).1 + 1 ≤ rfCp (m 0) p
    cases p <;> simp [rfK, rfWait] at hw <;> simp [rfK, rfConc, Fr.zero] at hop
    case w0 => by_cases hq : m 0 = 0 <;> simp [rfAct, rfNw, rfNv, rfCp, hq]
    case w1 a => by_cases hq : m 0 = 0 <;> simp [rfAct, hq] at he <;> simp [rfAct, rfNw, rfNv, rfCp, hq]
    case tr0 a => by_cases hq : rfIn (m 0) = true <;> simp [rfAct, rfNw, rfNv, rfCp, hq]
    case tr1 a => by_cases hq : m 0 = a <;> simp [rfAct, hq] at he <;> simp [rfAct, rfNw, rfNv, rfCp, hq]
    case tw0 a => by_cases hq : m 0 = 0 <;> simp [rfAct, rfNw, rfNv, rfCp, hq]
    case tw1 a => by_cases hq : m 0 = 0 <;> simp [rfAct, hq] at he <;> simp [rfAct, rfNw, rfNv, rfCp, hq]
    case tu0 a => by_cases hq : m 0 = 1 <;> simp [rfAct, rfNw, rfNv, rfCp, hq]
    case tu1 a => by_cases hq : m 0 = 1 <;> simp [rfAct, hq] at he <;> simp [rfAct, rfNw, rfNv, rfCp, hq]
    all_goals (simp [rfAct] at he)
  · rcases hh with rfl | rfl <;> simp [rfK, rfStart, rfNw, rfNv, rfCp]
  · cases p <;> simp [rfK, rfWait] at hw <;> simp [rfCp] at hz
    · subst hz; rfl
    all_goals (split at hz <;> simp at hz)
  · have hin := rfI_in H
    obtain ⟨h1, h2, h3, h4, h5, h6⟩ := H
    have hw0 : ws rfW ps = 0 := by
      refine ws_all0 (d := rfK.idle 0) hl (fun i hi => ?_)
      rcases hall i hi with h | ⟨c, pr, hw, _⟩
      · rw [h]; rfl
      · generalize ps.getD i (rfK.idle 0) = p at hw ⊢
        cases p <;> simp [rfK, rfWait] at hw <;> rfl
    have hnr : ∀ i, i < n → rfR (ps.getD i (rfK.idle 0)) = 0 := by
      intro i hi
      rcases hall i hi with h | ⟨c, pr, hw, hpr⟩
      · rw [h]; rfl
      · generalize ps.getD i (rfK.idle 0) = p at hw ⊢
        cases p <;> simp [rfK, rfWait] at hw
        · obtain ⟨rfl, rfl⟩ := hw
          have : rfIn (m 0) = true := by simpa using hpr
          rw [this, hw0] at hin
          cases hin
        · rfl
    have hr0 : ws rfR ps = 0 := ws_all0 hl hnr
    intro i hi
    rcases hall i hi with h | ⟨c, pr, hw, hpr⟩
    · exact h
    · exfalso
      generalize ps.getD i (rfK.idle 0) = p at hw
      cases p <;> simp [rfK, rfWait] at hw
      · obtain ⟨rfl, rfl⟩ := hw
        have : rfIn (m 0) = true := by simpa using hpr
        rw [this, hw0] at hin
        cases hin
      · obtain ⟨rfl, rfl⟩ := hw
        have : ¬ m 0 = 0 := by simpa using hpr
        omega

theorem rf_all (n : Nat) (mode : Int) : rfK.All n mode (rfI n) 2 2 8 rfNw rfNv (fun m _ p => rfCp (m 0) p) := by
  refine ⟨rf_good n mode, rf_keeps n, rf_live n, fun b ps m i h H hi hl hp => ?_, fun b ps m i j H hl hi hj hji hp => ?_, fun t h => rfl⟩
  · have := rf_at H.2.2.2.2.2 hl hi
    rw [hp] at this
    exact this
  · obtain ⟨h1, h2, h3, h4, h5, h6⟩ := H
    have b1 := ws_one (d := rfK.idle 0) rfW_01 (l := ps) (i := i) (by omega)
    have b2 := ws_two (d := rfK.idle 0) rfW_01 (l := ps) (i := i) (j := j) (by omega) (by omega) (fun h => hji h.symm)
    have b3 := ws_one (d := rfK.idle 0) rfN_01 (l := ps) (i := j) (by omega)
    have hh := rf_at h6 hl hj
    rw [hp] at b1 b2
    have hw2 : rfW (rfK.idle 2) = 1 := rfl
    rw [hw2] at b1 b2
    have hn0 := h5 (by omega)
    rw [hn0] at b3
    have c1 : rfW (ps.getD j (rfK.idle 0)) ≤ 0 := by omega
    generalize ps.getD j (rfK.idle 0) = p at c1 b3 hh
    cases p <;> simp [rfW, rfN, rfOk, rfK, rfConc] at *
    rcases hh with rfl | rfl | rfl <;> simp at *

/-- ONE WRITES, OR MANY READ. -/
theorem rf_excludes (k : Nat) (d base : Int) (h1 : 1 ≤ k) (h2 : k ≤ 6) (hd : d = 1 ∨ d = 2) (hb : 0 ≤ base ∧ base < 4294967296) (l : List (Int × Int)) (hlen : l.length ≤ 500) : ExcludesOk rfA k (Mt.start k d (own5 base ++ List.replicate ((8 + 4 * (k : Int)).toNat - 1) 0)) l := by
  have hfit : k * ((8 + 1) * 2 + 2 * k * 2) + 2 * k + 8 < 2 * k * (8 * k + 40) := by
    rcases (show k = 1 ∨ k = 2 ∨ k = 3 ∨ k = 4 ∨ k = 5 ∨ k = 6 by omega) with rfl | rfl | rfl | rfl | rfl | rfl <;> decide
  refine excludes_ok (K := rfK) (rf_all k d) h1 (by omega) hd hfit rfl l (start_MI (rf_all k d) _ (by simp [own5]; omega) ?_)
  refine ⟨by omega, by simp, ?_, ?_, fun _ => ws_replicate rfl, fun p hp => ?_⟩
  · rw [ws_replicate (f := rfW) rfl, ws_replicate (f := rfR) rfl]
    simp [mainOf, own5]
  · rw [ws_replicate (f := rfW) rfl]; decide
  · rw [(List.mem_replicate.1 hp).2]; exact Or.inl rfl

end Go.Proofs.Ytdffdppkdbbdoaa.Z

/- Law 15: the statement RfExcludes. Written by genmat.py. -/
set_option linter.unusedVariables false
set_option linter.unusedSimpArgs false
namespace Go.Proofs.Ytdffdppkdbbdoaa.Z
open Go.RowKit

theorem rfExcludes_any {B : Option Addr} {m d : Nat} {l : List (Int × Int)} (n mode base : Int) (w : World) (hn : 0 ≤ n ∧ n < 256) (hm : 0 ≤ mode ∧ mode < 256) (hb : 0 ≤ base ∧ base < 4294967296) (hB : Rd w 2 B m (l.flatMap turnDec)) (hl : ∀ x, x ∈ l → (0 ≤ x.1 ∧ x.1 < 256) ∧ (0 ≤ x.2 ∧ x.2 < 256)) :
    Calls Try.prog 6 #[.int .u8 n, .int .u8 mode, .int .u32 base, .slice B m d] w fun e w' => e = .returned (.bool true) ∧ Touch [] w w' := by
  by_cases h5 : m ≤ 500
  · exact rf_excludes_some n mode base l w hn hm hb hB hl h5 (fun k hk => rf_excludes k (1 + mode % 2) base (by omega) (by omega) (by omega) hb l (by rw [turn_len hB]; exact h5))
  · exact rf_excludes_long n mode base w hn hm hb (by omega)

end Go.Proofs.Ytdffdppkdbbdoaa.Z
