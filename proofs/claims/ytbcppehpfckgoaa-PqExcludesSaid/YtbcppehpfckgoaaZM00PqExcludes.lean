/- 6 texts of this claim, joined: what each shows stands at its own head. -/
import Derived.Test.YtbcppehpfckgoaaZBase
import Derived.Test.YtbcppehpfckgoaaZPlace
import Derived.Outline
import Derived.Test.YtbcppehpfckgoaaZRun7t
import Derived.Test.YtbcppehpfckgoaaZFlat5
import Derived.Deep.RegionHeld3
import Derived.Deep.DrawnRows
import Derived.Test.YtbcppehpfckgoaaZRun7
import Derived.Test.YtbcppehpfckgoaaZRun2
/- Fields of words: what the bit operations come to, in whole numbers. No program is in sight. -/
set_option linter.unusedVariables false
set_option linter.unusedSimpArgs false
namespace Go.Proofs.Ytbcppehpfckgoaa.ZB
open Go.RowKit

theorem pow_pos (n : Nat) : 0 < 2 ^ n := Nat.pow_pos (by decide)

theorem two_pow_le {a b : Nat} (h : a ≤ b) : 2 ^ a ≤ 2 ^ b := Nat.pow_le_pow_right (by decide) h

theorem and_mask (v s w : Nat) : v &&& ((2 ^ w - 1) * 2 ^ s) = (v / 2 ^ s % 2 ^ w) * 2 ^ s := by
  rw [← Nat.shiftLeft_eq, ← Nat.shiftLeft_eq, ← Nat.shiftRight_eq_div_pow]
  apply Nat.eq_of_testBit_eq
  intro i
  simp only [Nat.testBit_and, Nat.testBit_shiftLeft, Nat.testBit_two_pow_sub_one, Nat.testBit_mod_two_pow, Nat.testBit_shiftRight]
  by_cases h : i ≥ s
  · have e : s + (i - s) = i := by omega
    simp only [h, decide_true, Bool.true_and, e]
    exact Bool.and_comm _ _
  · simp [h]

theorem ofInt_nat (k n : Nat) : BitVec.ofInt k (n : Int) = BitVec.ofNat k n := by simp

theorem bits_and (a b : Nat) (ha : a < 4294967296) (hb : b < 4294967296) : Go.bits .and .u32 (a : Int) (b : Int) = ((a &&& b : Nat) : Int) := by
  unfold Go.bits
  simp only [ofInt_nat, BitVec.toNat_and, BitVec.toNat_ofNat]
  rw [Nat.mod_eq_of_lt (by simpa [IntKind.bits] using ha), Nat.mod_eq_of_lt (by simpa [IntKind.bits] using hb)]
  rw [IntKind.wrap_u32]
  have : a &&& b ≤ a := Nat.and_le_left
  omega

theorem and_split (v m : BitVec 32) : v.toNat = (v &&& m).toNat + (v &&& ~~~m).toNat := by
  have hz : (v &&& m) &&& (v &&& ~~~m) = 0#32 := by ext i; simp only [BitVec.getElem_and, BitVec.getElem_or, BitVec.getElem_not, BitVec.getElem_zero]; cases v[i] <;> cases m[i] <;> rfl
  have hor : (v &&& m) ||| (v &&& ~~~m) = v := by ext i; simp only [BitVec.getElem_and, BitVec.getElem_or, BitVec.getElem_not, BitVec.getElem_zero]; cases v[i] <;> cases m[i] <;> rfl
  have := BitVec.add_eq_or_of_and_eq_zero _ _ hz
  rw [hor] at this
  have h2 := congrArg BitVec.toNat this
  rw [BitVec.toNat_add] at h2
  have h3 : (v &&& ~~~m).toNat ≤ (~~~m).toNat := by rw [BitVec.toNat_and]; exact Nat.and_le_right
  have h4 : (v &&& m).toNat ≤ m.toNat := by rw [BitVec.toNat_and]; exact Nat.and_le_right
  rw [BitVec.toNat_not] at h3
  have := m.isLt
  rw [Nat.mod_eq_of_lt (by omega)] at h2
  exact h2.symm

theorem put_split (v x m : BitVec 32) : ((v &&& ~~~m) ||| (x &&& m)).toNat = (v &&& ~~~m).toNat + (x &&& m).toNat := by
  have hz : (v &&& ~~~m) &&& (x &&& m) = 0#32 := by ext i; simp only [BitVec.getElem_and, BitVec.getElem_not, BitVec.getElem_zero]; cases v[i] <;> cases x[i] <;> cases m[i] <;> rfl
  have := BitVec.add_eq_or_of_and_eq_zero _ _ hz
  rw [← this, BitVec.toNat_add]
  have h3 : (v &&& ~~~m).toNat ≤ (~~~m).toNat := by rw [BitVec.toNat_and]; exact Nat.and_le_right
  have h4 : (x &&& m).toNat ≤ m.toNat := by rw [BitVec.toNat_and]; exact Nat.and_le_right
  rw [BitVec.toNat_not] at h3
  have := m.isLt
  rw [Nat.mod_eq_of_lt (by omega)]

theorem bits_or (a b : Nat) (ha : a < 4294967296) (hb : b < 4294967296) : Go.bits .or .u32 (a : Int) (b : Int) = ((BitVec.ofNat 32 a ||| BitVec.ofNat 32 b).toNat : Int) := by
  show (IntKind.u32.wrap ((BitVec.ofInt 32 (a : Int) ||| BitVec.ofInt 32 (b : Int)).toNat : Int)) = _
  rw [ofInt_nat, ofInt_nat, IntKind.wrap_u32]
  have := (BitVec.ofNat 32 a ||| BitVec.ofNat 32 b).isLt
  omega

theorem bits_andNot (a b : Nat) : Go.bits .andNot .u32 (a : Int) (b : Int) = ((BitVec.ofNat 32 a &&& ~~~ (BitVec.ofNat 32 b)).toNat : Int) := by
  show (IntKind.u32.wrap ((BitVec.ofInt 32 (a : Int) &&& ~~~ (BitVec.ofInt 32 (b : Int))).toNat : Int)) = _
  rw [ofInt_nat, ofInt_nat, IntKind.wrap_u32]
  have := (BitVec.ofNat 32 a &&& ~~~ (BitVec.ofNat 32 b)).isLt
  omega

theorem nat32 (a : Nat) (ha : a < 4294967296) : (BitVec.ofNat 32 a).toNat = a := by
  rw [BitVec.toNat_ofNat]; exact Nat.mod_eq_of_lt (by omega)

theorem bits_put (v x m : Nat) (hv : v < 4294967296) (hx : x < 4294967296) (hm : m < 4294967296) :
    Go.bits .or .u32 (Go.bits .andNot .u32 (v : Int) (m : Int)) (Go.bits .and .u32 (x : Int) (m : Int)) = (v : Int) - ((v &&& m : Nat) : Int) + ((x &&& m : Nat) : Int) := by
  rw [bits_and x m hx hm, bits_andNot]
  have e1 := and_split (BitVec.ofNat 32 v) (BitVec.ofNat 32 m)
  have e2 := put_split (BitVec.ofNat 32 v) (BitVec.ofNat 32 x) (BitVec.ofNat 32 m)
  have ex : (BitVec.ofNat 32 x &&& BitVec.ofNat 32 m).toNat = x &&& m := by rw [BitVec.toNat_and, nat32 x hx, nat32 m hm]
  have ev : (BitVec.ofNat 32 v &&& BitVec.ofNat 32 m).toNat = v &&& m := by rw [BitVec.toNat_and, nat32 v hv, nat32 m hm]
  have e5 : BitVec.ofNat 32 (x &&& m) = (BitVec.ofNat 32 x &&& BitVec.ofNat 32 m) := by
    apply BitVec.eq_of_toNat_eq
    rw [ex, nat32]
    have : x &&& m ≤ x := Nat.and_le_left
    omega
  have hl : x &&& m < 4294967296 := by
    have : x &&& m ≤ x := Nat.and_le_left
    omega
  generalize hA : (BitVec.ofNat 32 v &&& ~~~ (BitVec.ofNat 32 m)) = A at e1 e2 ⊢
  have hlt := A.isLt
  rw [bits_or _ _ (by omega) hl, e5, show BitVec.ofNat 32 A.toNat = A from by simp, e2, ex]
  rw [ev, nat32 v hv] at e1
  omega

end Go.Proofs.Ytbcppehpfckgoaa.ZB

/- Package diff: how far a word is ahead. -/
set_option linter.unusedVariables false
set_option linter.unusedSimpArgs false
namespace Go.Proofs.Ytbcppehpfckgoaa.Z
open Go.RowKit

/-- How far a word is ahead of another one. -/
def aheadA (a b : Int) : Int := (a - b + 2147483648) % 4294967296 - 2147483648

theorem ahead_any (a b : Int) (w : World) (ha : 0 ≤ a ∧ a < 4294967296) (hb : 0 ≤ b ∧ b < 4294967296) :
    Calls Try.prog 134 #[.int .u32 a, .int .u32 b] w fun e w' => e = .returned (.int .i64 (aheadA a b)) ∧ w = w' := by
  have H := Lib.hid (show wrap64 (wrap32 ((a - b) % 4294967296)) = aheadA a b from by unfold wrap64 wrap32 aheadA; omega)
  clear ha hb
  go_enter Try.func134, Try.ntmps134
  go_wp2
  go_ret
  refine ⟨?_, rfl⟩
  rw [← H.out]
  rfl

end Go.Proofs.Ytbcppehpfckgoaa.Z

/- Package pq: its small functions; the readers of pf. Written by genpq.py. -/
set_option linter.unusedVariables false
set_option linter.unusedSimpArgs false
namespace Go.Proofs.Ytbcppehpfckgoaa.Z
open Go.RowKit

attribute [local go_sem ↓] Go.wp_at_zero Go.wp_at_succ

/-- The bits of a writer that is present. -/
def pfP (b : Int) : Int := 2 + b % 2
theorem and_1 (v : Int) (hv : 0 ≤ v ∧ v < 4294967296) : Go.bits .and .u32 v 1 = v % 2 := by
  obtain ⟨n, rfl⟩ : ∃ n : Nat, v = n := ⟨v.toNat, by omega⟩
  have h := ZB.bits_and n 1 (by omega) (by decide)
  have h2 : n &&& 1 = n / 1 % 2 * 1 := ZB.and_mask n 0 1
  rw [h2] at h
  refine Eq.trans h ?_
  omega
theorem and_3 (v : Int) (hv : 0 ≤ v ∧ v < 4294967296) : Go.bits .and .u32 v 3 = v % 4 := by
  obtain ⟨n, rfl⟩ : ∃ n : Nat, v = n := ⟨v.toNat, by omega⟩
  have h := ZB.bits_and n 3 (by omega) (by decide)
  have h2 : n &&& 3 = n / 1 % 4 * 1 := ZB.and_mask n 0 2
  rw [h2] at h
  refine Eq.trans h ?_
  omega
theorem or_2 (x : Int) (hx : x = 0 ∨ x = 1) : Go.bits .or .u32 2 x = 2 + x := by
  rcases hx with rfl | rfl <;> decide +kernel
theorem pf_presence (b : Int) (w : World) (hb : 0 ≤ b ∧ b < 4294967296) : Calls Try.prog 127 #[.int .u32 b] w fun e w' => e = .returned (.int .u32 (pfP b)) ∧ w = w' := by
  have h1 := and_1 b hb
  have h2 := or_2 (b % 2) (by omega)
  have H1 := Lib.hid h1
  have H2 := Lib.hid h2
  clear h1 h2
  go_enter Try.func127, Try.ntmps127
  go_wp2
  go_ret
  refine ⟨?_, rfl⟩
  show Ending.returned (Value.int .u32 _) = Ending.returned (Value.int .u32 _)
  unfold pfP
  rw [H1.out, H2.out]
theorem pf_mine (x v : Int) {b : Nat} (w : World) (hb : Blk w b #[.int .u32 x]) :
    Calls Try.prog 128 #[.int .u32 v, .pointer (some ⟨b, 0, none⟩)] w fun e w' => e = .returned (.bool (v == x)) ∧ Touch [] w w' := by
  obtain ⟨x0, x1, x2⟩ := hb.own
  go_enter Try.func128, Try.ntmps128
  go_wp2
  go_ret
  exact ⟨rfl, Touch.refl _ _⟩
theorem pf_mine2 (x v : Int) {b : Nat} (w : World) (hb : Blk w b #[.int .u32 x]) :
    Calls Try.prog 136 #[.int .u32 v, .pointer (some ⟨b, 0, none⟩)] w fun e w' => e = .returned (.bool (v == x)) ∧ Touch [] w w' := by
  obtain ⟨x0, x1, x2⟩ := hb.own
  go_enter Try.func136, Try.ntmps136
  go_wp2
  go_ret
  exact ⟨rfl, Touch.refl _ _⟩
theorem pf_other (x v : Int) {b : Nat} (w : World) (hv : 0 ≤ v ∧ v < 4294967296) (hb : Blk w b #[.int .u32 x]) :
    Calls Try.prog 126 #[.int .u32 v, .pointer (some ⟨b, 0, none⟩)] w fun e w' => e = .returned (.bool (v % 4 != x)) ∧ Touch [] w w' := by
  obtain ⟨x0, x1, x2⟩ := hb.own
  have h3 := and_3 v hv
  have H3 := Lib.hid h3
  clear h3
  go_enter Try.func126, Try.ntmps126
  go_wp2
  go_ret
  refine ⟨?_, Touch.refl _ _⟩
  show Ending.returned (Value.bool _) = Ending.returned (Value.bool _)
  rw [H3.out]

theorem pf_own_up {S0 : List Nat} {w0 w : World} {m a r : Nat} {rs : List Res} {s : Rn} (H : RunHas S0 w0 m a r rs s w) {l : Int} (hop : s.f.op = 7) (hl : s.f.line = l) : Calls Try.prog 135 #[.pointer (some ⟨r, 0, none⟩)] w fun e w' => e = .returned (.int .u32 256) ∧ w = w' := by
  obtain ⟨x0, x2, x4, x5, x6, x7⟩ := H.facts hop hl rfl rfl
  go_enter Try.func135, Try.ntmps135
  go_wp2
  go_ret
  exact ⟨rfl, rfl⟩
theorem pf_own_no {S0 : List Nat} {w0 w : World} {m a r : Nat} {rs : List Res} {s : Rn} (H : RunHas S0 w0 m a r rs s w) {l : Int} (hop : s.f.op = 6) (hl : s.f.line = l) : Calls Try.prog 135 #[.pointer (some ⟨r, 0, none⟩)] w fun e w' => e = .returned (.int .u32 0) ∧ w = w' := by
  obtain ⟨x0, x2, x4, x5, x6, x7⟩ := H.facts hop hl rfl rfl
  go_enter Try.func135, Try.ntmps135
  go_wp2
  go_ret
  exact ⟨rfl, rfl⟩

def pfR10 (s : Rn) : Rn :=
  let s1 := ((s.did (doA s.L ⟨3, 0, 256, 0, 0⟩)).setA (doA s.L ⟨3, 0, 256, 0, 0⟩).1.old).note 2 1
  if (doA s.L ⟨3, 0, 256, 0, 0⟩).1.old % 4 = 0 then (s1.note 4 0).fin true else s1.goto 1

set_option maxHeartbeats 800000 in
theorem pf_r10 {S0 : List Nat} {w0 w : World} {m a r : Nat} {rs : List Res} {s : Rn} (H : RunHas S0 w0 m a r rs s w) (hop : s.f.op = 1) (hl : s.f.line = 0) (hn : I64 s.n) (ha : 0 ≤ s.f.a ∧ s.f.a < 4294967296) (hc : s.notes.length ≤ 900) :
    Calls Try.prog 98 #[.pointer (some ⟨r, 0, none⟩), .int .i64 0, .int .i64 1] w fun e w' => e = .returned (.bool true) ∧ RunHas S0 w0 m a r rs (pfR10 s) w' := by
  obtain ⟨z0, z2, z4, z5, z6, z7⟩ := H.facts hop hl rfl rfl
  have HC := Lib.hid hc
  have HA := Lib.hid ha
  have HN := Lib.hid hn
  have HV := Lib.hid (H.old ⟨3, 0, 256, 0, 0⟩)
  have HH := Lib.hid H
  clear hc H hn ha
  unfold pfR10
  (try dsimp only)
  by_cases hq : (doA s.L ⟨3, 0, 256, 0, 0⟩).1.old % 4 = 0
  · simp only [if_pos hq]
    have HQ := Lib.hid hq
    clear hq
    go_enter Try.func98, Try.ntmps98
    go_wp2_with fail
    go_quiet (fail)
    have HW := HH.out.drewN nq
    clear z0 z2 z4 z5 z6 z7
    generalize w.drewN nq = W at HW ⊢
    obtain ⟨z0, z2, z4, z5, z6, z7⟩ := HW.facts hop hl rfl rfl
    go_wp2_with fail
    refine (rn_add HW 0 256 (by decide)).mono ?_
    rintro e w1 ⟨rfl, H1⟩
    obtain ⟨x0, x2, x4, x5, x6, x7⟩ := H1.facts hop hl rfl rfl
    go_wp2_with fail
    refine (run_note (H1.setA (doA s.L ⟨3, 0, 256, 0, 0⟩).1.old) (by have := HC.out; first | exact Nat.le_trans this (by decide) | (simp [Rn.note, Rn.did, Rn.setA, Rn.setB, Rn.waited, Rn.goto, Rn.noted]; omega)) 2 1).mono ?_
    rintro e w2 ⟨rfl, H2⟩
    obtain ⟨x0, x2, x4, x5, x6, x7⟩ := H2.facts hop hl (x := (doA s.L ⟨3, 0, 256, 0, 0⟩).1.old) rfl rfl
    have hv := HV.out
    have hbit := and_3 (doA s.L ⟨3, 0, 256, 0, 0⟩).1.old hv
    have hz : (Go.bits .and .u32 (doA s.L ⟨3, 0, 256, 0, 0⟩).1.old 3 == 0) = true := by rw [hbit]; simpa using HQ.out
    clear hv hbit
    go_wp2_with fail
    refine (run_note H2 (by have := HC.out; first | exact Nat.le_trans this (by decide) | (simp [Rn.note, Rn.did, Rn.setA, Rn.setB, Rn.waited, Rn.goto, Rn.noted]; omega)) 4 0).mono ?_
    rintro e w3 ⟨rfl, H3⟩
    go_wp2_with fail
    refine (rn_end H3 true).mono ?_
    rintro e w4 ⟨rfl, H4⟩
    go_wp2_with fail
    go_ret
    exact ⟨rfl, H4⟩
  · simp only [if_neg hq]
    have HQ := Lib.hid hq
    clear hq
    go_enter Try.func98, Try.ntmps98
    go_wp2_with fail
    go_quiet (fail)
    have HW := HH.out.drewN nq
    clear z0 z2 z4 z5 z6 z7
    generalize w.drewN nq = W at HW ⊢
    obtain ⟨z0, z2, z4, z5, z6, z7⟩ := HW.facts hop hl rfl rfl
    go_wp2_with fail
    refine (rn_add HW 0 256 (by decide)).mono ?_
    rintro e w1 ⟨rfl, H1⟩
    obtain ⟨x0, x2, x4, x5, x6, x7⟩ := H1.facts hop hl rfl rfl
    go_wp2_with fail
    refine (run_note (H1.setA (doA s.L ⟨3, 0, 256, 0, 0⟩).1.old) (by have := HC.out; first | exact Nat.le_trans this (by decide) | (simp [Rn.note, Rn.did, Rn.setA, Rn.setB, Rn.waited, Rn.goto, Rn.noted]; omega)) 2 1).mono ?_
    rintro e w2 ⟨rfl, H2⟩
    obtain ⟨x0, x2, x4, x5, x6, x7⟩ := H2.facts hop hl (x := (doA s.L ⟨3, 0, 256, 0, 0⟩).1.old) rfl rfl
    have hv := HV.out
    have hbit := and_3 (doA s.L ⟨3, 0, 256, 0, 0⟩).1.old hv
    have hz : (Go.bits .and .u32 (doA s.L ⟨3, 0, 256, 0, 0⟩).1.old 3 == 0) = false := by rw [hbit]; simpa using HQ.out
    clear hv hbit
    go_wp2_with fail
    refine (rn_go H2 1).mono ?_
    rintro e w3 ⟨rfl, H3⟩
    go_wp2_with fail
    go_ret
    exact ⟨rfl, H3⟩

def pfR11 (s : Rn) : Rn :=
  let s1 := s.waited (waitA s.L s.n s.mode s.task s.f.st 0 (fun v => v % 4 != s.f.a % 4))
  let s2 := if (waitA s.L s.n s.mode s.task s.f.st 0 (fun v => v % 4 != s.f.a % 4)).seen then s1.note 4 0 else s1
  if (waitA s.L s.n s.mode s.task s.f.st 0 (fun v => v % 4 != s.f.a % 4)).done then s2.fin true else s2

set_option maxHeartbeats 800000 in
theorem pf_r11 {S0 : List Nat} {w0 w : World} {m a r : Nat} {rs : List Res} {s : Rn} (H : RunHas S0 w0 m a r rs s w) (hop : s.f.op = 1) (hl : s.f.line = 1) (hn : I64 s.n) (ha : 0 ≤ s.f.a ∧ s.f.a < 4294967296) (hc : s.notes.length ≤ 900) :
    Calls Try.prog 98 #[.pointer (some ⟨r, 0, none⟩), .int .i64 0, .int .i64 1] w fun e w' => e = .returned (.bool true) ∧ RunHas S0 w0 m a r rs (pfR11 s) w' := by
  obtain ⟨z0, z2, z4, z5, z6, z7⟩ := H.facts hop hl rfl rfl
  have HC := Lib.hid hc
  have HA := Lib.hid ha
  have HN := Lib.hid hn
  have HH := Lib.hid H
  clear hc H hn ha
  unfold pfR11
  (try dsimp only)
  have hbit := and_3 s.f.a HA.out
  have HBIT := Lib.hid hbit
  clear hbit
  have hwt := fun (t2 : Nat) W (H : RunHas S0 w0 m a r (.blk t2 #[.int .u32 (s.f.a % 4)] :: rs) s W) => rn_wait H HN.out 0 126 #[] #[.pointer (some ⟨t2, 0, none⟩)] (fun v => v % 4 != s.f.a % 4) (enters_of Try.func126 (by kernel_rfl) rfl) (fun W v h0 h1 H => pf_other (s.f.a % 4) v W ⟨h0, h1⟩ H.first)
  cases hs : (waitA s.L s.n s.mode s.task s.f.st 0 (fun v => v % 4 != s.f.a % 4)).seen <;> cases hd : (waitA s.L s.n s.mode s.task s.f.st 0 (fun v => v % 4 != s.f.a % 4)).done <;> rw [hs, hd] at hwt <;> simp only [if_true, Bool.false_eq_true, if_false] <;> (have HWT := Lib.hid hwt) <;> clear hwt hs hd
  · go_enter Try.func98, Try.ntmps98
    go_wp2_with fail
    go_quiet (fail)
    have HW := HH.out.drewN nq
    clear z0 z2 z4 z5 z6 z7
    generalize w.drewN nq = W at HW ⊢
    obtain ⟨z0, z2, z4, z5, z6, z7⟩ := HW.facts hop hl rfl rfl
    have HW0 := Lib.hid HW
    skip
    go_wp2_with fail
    refine calls_from (Facts := fun V => RunHas S0 w0 m a r (.blk W.heap.size #[.int .u32 (s.f.a % 4)] :: rs) s V) ?_ (by rw [← HBIT.out]; exact HW0.out.box rfl _ _)
    intro W1 HW1
    refine (HWT.out _ _ HW1).mono ?_
    rintro e w1 ⟨rfl, H1⟩
    go_wp2_with fail
    go_ret
    exact ⟨rfl, H1.unbox⟩
  · go_enter Try.func98, Try.ntmps98
    go_wp2_with fail
    go_quiet (fail)
    have HW := HH.out.drewN nq
    clear z0 z2 z4 z5 z6 z7
    generalize w.drewN nq = W at HW ⊢
    obtain ⟨z0, z2, z4, z5, z6, z7⟩ := HW.facts hop hl rfl rfl
    have HW0 := Lib.hid HW
    skip
    go_wp2_with fail
    refine calls_from (Facts := fun V => RunHas S0 w0 m a r (.blk W.heap.size #[.int .u32 (s.f.a % 4)] :: rs) s V) ?_ (by rw [← HBIT.out]; exact HW0.out.box rfl _ _)
    intro W1 HW1
    refine (HWT.out _ _ HW1).mono ?_
    rintro e w1 ⟨rfl, H1⟩
    go_wp2_with fail
    refine (rn_end H1 true).mono ?_
    rintro e w2 ⟨rfl, H2⟩
    go_wp2_with fail
    go_ret
    exact ⟨rfl, H2.unbox⟩
  · go_enter Try.func98, Try.ntmps98
    go_wp2_with fail
    go_quiet (fail)
    have HW := HH.out.drewN nq
    clear z0 z2 z4 z5 z6 z7
    generalize w.drewN nq = W at HW ⊢
    obtain ⟨z0, z2, z4, z5, z6, z7⟩ := HW.facts hop hl rfl rfl
    have HW0 := Lib.hid HW
    skip
    go_wp2_with fail
    refine calls_from (Facts := fun V => RunHas S0 w0 m a r (.blk W.heap.size #[.int .u32 (s.f.a % 4)] :: rs) s V) ?_ (by rw [← HBIT.out]; exact HW0.out.box rfl _ _)
    intro W1 HW1
    refine (HWT.out _ _ HW1).mono ?_
    rintro e w1 ⟨rfl, H1⟩
    go_wp2_with fail
    refine (run_note H1 (by have := HC.out; first | exact Nat.le_trans this (by decide) | (simp [Rn.note, Rn.did, Rn.setA, Rn.setB, Rn.waited, Rn.goto, Rn.noted]; omega)) 4 0).mono ?_
    rintro e w2 ⟨rfl, H2⟩
    go_wp2_with fail
    go_ret
    exact ⟨rfl, H2.unbox⟩
  · go_enter Try.func98, Try.ntmps98
    go_wp2_with fail
    go_quiet (fail)
    have HW := HH.out.drewN nq
    clear z0 z2 z4 z5 z6 z7
    generalize w.drewN nq = W at HW ⊢
    obtain ⟨z0, z2, z4, z5, z6, z7⟩ := HW.facts hop hl rfl rfl
    have HW0 := Lib.hid HW
    skip
    go_wp2_with fail
    refine calls_from (Facts := fun V => RunHas S0 w0 m a r (.blk W.heap.size #[.int .u32 (s.f.a % 4)] :: rs) s V) ?_ (by rw [← HBIT.out]; exact HW0.out.box rfl _ _)
    intro W1 HW1
    refine (HWT.out _ _ HW1).mono ?_
    rintro e w1 ⟨rfl, H1⟩
    go_wp2_with fail
    refine (run_note H1 (by have := HC.out; first | exact Nat.le_trans this (by decide) | (simp [Rn.note, Rn.did, Rn.setA, Rn.setB, Rn.waited, Rn.goto, Rn.noted]; omega)) 4 0).mono ?_
    rintro e w2 ⟨rfl, H2⟩
    go_wp2_with fail
    refine (rn_end H2 true).mono ?_
    rintro e w3 ⟨rfl, H3⟩
    go_wp2_with fail
    go_ret
    exact ⟨rfl, H3.unbox⟩

def pfR20 (s : Rn) : Rn :=
  (((s.did (doA s.L ⟨3, 1, 256, 0, 0⟩)).note 6 0).wake 1).fin true

set_option maxHeartbeats 800000 in
theorem pf_r20 {S0 : List Nat} {w0 w : World} {m a r : Nat} {rs : List Res} {s : Rn} (H : RunHas S0 w0 m a r rs s w) (hop : s.f.op = 2) (hl : s.f.line = 0) (hn : I64 s.n) (ha : 0 ≤ s.f.a ∧ s.f.a < 4294967296) (hc : s.notes.length ≤ 900) :
    Calls Try.prog 98 #[.pointer (some ⟨r, 0, none⟩), .int .i64 0, .int .i64 1] w fun e w' => e = .returned (.bool true) ∧ RunHas S0 w0 m a r rs (pfR20 s) w' := by
  obtain ⟨z0, z2, z4, z5, z6, z7⟩ := H.facts hop hl rfl rfl
  have HC := Lib.hid hc
  have HA := Lib.hid ha
  have HN := Lib.hid hn
  have HH := Lib.hid H
  clear hc H hn ha
  unfold pfR20
  (try dsimp only)
  go_enter Try.func98, Try.ntmps98
  go_wp2_with fail
  go_quiet (fail)
  have HW := HH.out.drewN nq
  clear z0 z2 z4 z5 z6 z7
  generalize w.drewN nq = W at HW ⊢
  obtain ⟨z0, z2, z4, z5, z6, z7⟩ := HW.facts hop hl rfl rfl
  go_wp2_with fail
  refine (rn_add HW 1 256 (by decide)).mono ?_
  rintro e w1 ⟨rfl, H1⟩
  go_wp2_with fail
  refine (run_note H1 (by have := HC.out; first | exact Nat.le_trans this (by decide) | (simp [Rn.note, Rn.did, Rn.setA, Rn.setB, Rn.waited, Rn.goto, Rn.noted]; omega)) 6 0).mono ?_
  rintro e w2 ⟨rfl, H2⟩
  go_wp2_with fail
  refine (rn_wake H2 1).mono ?_
  rintro e w3 ⟨rfl, H3⟩
  go_wp2_with fail
  refine (rn_end H3 true).mono ?_
  rintro e w4 ⟨rfl, H4⟩
  go_wp2_with fail
  go_ret
  exact ⟨rfl, H4⟩

def pfR50 (s : Rn) : Rn :=
  let s1 := (s.did (doA s.L ⟨1, 0, 0, 0, 0⟩)).setA (doA s.L ⟨1, 0, 0, 0, 0⟩).1.old
  if (doA s.L ⟨1, 0, 0, 0, 0⟩).1.old % 4 = 0 then s1.goto 1 else (s1.note 5 0).fin false

set_option maxHeartbeats 800000 in
theorem pf_r50 {S0 : List Nat} {w0 w : World} {m a r : Nat} {rs : List Res} {s : Rn} (H : RunHas S0 w0 m a r rs s w) (hop : s.f.op = 5) (hl : s.f.line = 0) (hn : I64 s.n) (ha : 0 ≤ s.f.a ∧ s.f.a < 4294967296) (hc : s.notes.length ≤ 900) :
    Calls Try.prog 98 #[.pointer (some ⟨r, 0, none⟩), .int .i64 0, .int .i64 1] w fun e w' => e = .returned (.bool true) ∧ RunHas S0 w0 m a r rs (pfR50 s) w' := by
  obtain ⟨z0, z2, z4, z5, z6, z7⟩ := H.facts hop hl rfl rfl
  have HC := Lib.hid hc
  have HA := Lib.hid ha
  have HN := Lib.hid hn
  have HV := Lib.hid (H.old ⟨1, 0, 0, 0, 0⟩)
  have HH := Lib.hid H
  clear hc H hn ha
  unfold pfR50
  (try dsimp only)
  by_cases hq : (doA s.L ⟨1, 0, 0, 0, 0⟩).1.old % 4 = 0
  · simp only [if_pos hq]
    have HQ := Lib.hid hq
    clear hq
    go_enter Try.func98, Try.ntmps98
    go_wp2_with fail
    go_quiet (fail)
    have HW := HH.out.drewN nq
    clear z0 z2 z4 z5 z6 z7
    generalize w.drewN nq = W at HW ⊢
    obtain ⟨z0, z2, z4, z5, z6, z7⟩ := HW.facts hop hl rfl rfl
    go_wp2_with fail
    refine (rn_load HW 0).mono ?_
    rintro e w1 ⟨rfl, H1⟩
    obtain ⟨x0, x2, x4, x5, x6, x7⟩ := H1.facts hop hl rfl rfl
    have hv := HV.out
    have hbit := and_3 (doA s.L ⟨1, 0, 0, 0, 0⟩).1.old hv
    have hz : (Go.bits .and .u32 (doA s.L ⟨1, 0, 0, 0, 0⟩).1.old 3 != 0) = false := by rw [hbit]; simpa using HQ.out
    clear hv hbit
    go_wp2_with fail
    refine (rn_go (H1.setA (doA s.L ⟨1, 0, 0, 0, 0⟩).1.old) 1).mono ?_
    rintro e w2 ⟨rfl, H2⟩
    go_wp2_with fail
    go_ret
    exact ⟨rfl, H2⟩
  · simp only [if_neg hq]
    have HQ := Lib.hid hq
    clear hq
    go_enter Try.func98, Try.ntmps98
    go_wp2_with fail
    go_quiet (fail)
    have HW := HH.out.drewN nq
    clear z0 z2 z4 z5 z6 z7
    generalize w.drewN nq = W at HW ⊢
    obtain ⟨z0, z2, z4, z5, z6, z7⟩ := HW.facts hop hl rfl rfl
    go_wp2_with fail
    refine (rn_load HW 0).mono ?_
    rintro e w1 ⟨rfl, H1⟩
    obtain ⟨x0, x2, x4, x5, x6, x7⟩ := H1.facts hop hl rfl rfl
    have hv := HV.out
    have hbit := and_3 (doA s.L ⟨1, 0, 0, 0, 0⟩).1.old hv
    have hz : (Go.bits .and .u32 (doA s.L ⟨1, 0, 0, 0, 0⟩).1.old 3 != 0) = true := by rw [hbit]; simpa using HQ.out
    clear hv hbit
    go_wp2_with fail
    refine (run_note (H1.setA (doA s.L ⟨1, 0, 0, 0, 0⟩).1.old) (by have := HC.out; first | exact Nat.le_trans this (by decide) | (simp [Rn.note, Rn.did, Rn.setA, Rn.setB, Rn.waited, Rn.goto, Rn.noted]; omega)) 5 0).mono ?_
    rintro e w2 ⟨rfl, H2⟩
    go_wp2_with fail
    refine (rn_end H2 false).mono ?_
    rintro e w3 ⟨rfl, H3⟩
    go_wp2_with fail
    go_ret
    exact ⟨rfl, H3⟩

def pfR51 (s : Rn) : Rn :=
  if casB s.L 0 s.f.a ((s.f.a + 256) % 4294967296) then (((s.did (doA s.L ⟨5, 0, s.f.a, (s.f.a + 256) % 4294967296, 0⟩)).note 2 1).note 4 0).fin true else (s.did (doA s.L ⟨5, 0, s.f.a, (s.f.a + 256) % 4294967296, 0⟩)).goto 0

set_option maxHeartbeats 800000 in
theorem pf_r51 {S0 : List Nat} {w0 w : World} {m a r : Nat} {rs : List Res} {s : Rn} (H : RunHas S0 w0 m a r rs s w) (hop : s.f.op = 5) (hl : s.f.line = 1) (hn : I64 s.n) (ha : 0 ≤ s.f.a ∧ s.f.a < 4294967296) (hc : s.notes.length ≤ 900) :
    Calls Try.prog 98 #[.pointer (some ⟨r, 0, none⟩), .int .i64 0, .int .i64 1] w fun e w' => e = .returned (.bool true) ∧ RunHas S0 w0 m a r rs (pfR51 s) w' := by
  obtain ⟨z0, z2, z4, z5, z6, z7⟩ := H.facts hop hl rfl rfl
  have HC := Lib.hid hc
  have HA := Lib.hid ha
  have HN := Lib.hid hn
  have HH := Lib.hid H
  clear hc H hn ha
  unfold pfR51
  (try dsimp only)
  have hcas := fun W (H : RunHas S0 w0 m a r rs s W) => rn_cas H 0 s.f.a ((s.f.a + 256) % 4294967296) HA.out (by have := HA.out; omega)
  cases hb : casB s.L 0 s.f.a ((s.f.a + 256) % 4294967296) with
  | true =>
    rw [hb] at hcas
    simp only [if_true]
    have HCAS := Lib.hid hcas
    clear hcas hb
    go_enter Try.func98, Try.ntmps98
    go_wp2_with fail
    go_quiet (fail)
    have HW := HH.out.drewN nq
    clear z0 z2 z4 z5 z6 z7
    generalize w.drewN nq = W at HW ⊢
    obtain ⟨z0, z2, z4, z5, z6, z7⟩ := HW.facts hop hl rfl rfl
    go_wp2_with fail
    refine region_flat (by kernel_rfl) (by kernel_rfl) ?_
    simp only [probed, probes, List.nil_append, List.cons_append, probe]
    go_wp2_with fail
    refine (HCAS.out _ HW.drew).mono ?_
    rintro e w1 ⟨rfl, H1⟩
    go_wp2_with fail
    rw [only_normal]
    rename_i hK
    refine hK _ _ ?_
    clear hK
    go_wp2_with fail
    refine (run_note H1 (by have := HC.out; first | exact Nat.le_trans this (by decide) | (simp [Rn.note, Rn.did, Rn.setA, Rn.setB, Rn.waited, Rn.goto, Rn.noted]; omega)) 2 1).mono ?_
    rintro e w2 ⟨rfl, H2⟩
    go_wp2_with fail
    refine (run_note H2 (by have := HC.out; first | exact Nat.le_trans this (by decide) | (simp [Rn.note, Rn.did, Rn.setA, Rn.setB, Rn.waited, Rn.goto, Rn.noted]; omega)) 4 0).mono ?_
    rintro e w3 ⟨rfl, H3⟩
    go_wp2_with fail
    refine (rn_end H3 true).mono ?_
    rintro e w4 ⟨rfl, H4⟩
    go_wp2_with fail
    go_ret
    exact ⟨rfl, H4⟩
  | false =>
    rw [hb] at hcas
    simp only [Bool.false_eq_true, if_false]
    have HCAS := Lib.hid hcas
    clear hcas hb
    go_enter Try.func98, Try.ntmps98
    go_wp2_with fail
    go_quiet (fail)
    have HW := HH.out.drewN nq
    clear z0 z2 z4 z5 z6 z7
    generalize w.drewN nq = W at HW ⊢
    obtain ⟨z0, z2, z4, z5, z6, z7⟩ := HW.facts hop hl rfl rfl
    go_wp2_with fail
    refine region_flat (by kernel_rfl) (by kernel_rfl) ?_
    simp only [probed, probes, List.nil_append, List.cons_append, probe]
    go_wp2_with fail
    refine (HCAS.out _ HW.drew).mono ?_
    rintro e w1 ⟨rfl, H1⟩
    go_wp2_with fail
    rw [only_normal]
    rename_i hK
    refine hK _ _ ?_
    clear hK
    go_wp2_with fail
    refine (rn_go H1 0).mono ?_
    rintro e w2 ⟨rfl, H2⟩
    go_wp2_with fail
    go_ret
    exact ⟨rfl, H2⟩

set_option maxHeartbeats 1600000 in
theorem pf_r_none {S0 : List Nat} {w0 w : World} {m a r : Nat} {rs : List Res} {s : Rn} (H : RunHas S0 w0 m a r rs s w) {o l : Int} (hop : s.f.op = o) (hl : s.f.line = l) (h0 : ¬ (o = 1 ∧ l = 0)) (h1 : ¬ (o = 1 ∧ l = 1)) (h2 : ¬ (o = 2 ∧ l = 0)) (h3 : ¬ (o = 5 ∧ l = 0)) (h4 : ¬ (o = 5 ∧ l = 1)) :
    Calls Try.prog 98 #[.pointer (some ⟨r, 0, none⟩), .int .i64 0, .int .i64 1] w fun e w' => e = .returned (.bool false) ∧ RunHas S0 w0 m a r rs s w' := by
  obtain ⟨z0, z2, z4, z5, z6, z7⟩ := H.facts hop hl rfl rfl
  have HH := Lib.hid H
  clear H
  go_enter Try.func98, Try.ntmps98
  go_wp2_with fail
  go_quiet (fail)
  have HW := HH.out.drewN nq
  clear z0 z2 z4 z5 z6 z7
  generalize w.drewN nq = W at HW ⊢
  obtain ⟨z0, z2, z4, z5, z6, z7⟩ := HW.facts hop hl rfl rfl
  go_wp2_with fail
  all_goals
    go_ret
    exact ⟨rfl, HW⟩

end Go.Proofs.Ytbcppehpfckgoaa.Z

/- Package line: a run waits, and what was seen is kept in the frame. -/
set_option linter.unusedVariables false
set_option linter.unusedSimpArgs false
namespace Go.Proofs.Ytbcppehpfckgoaa.Z
open Go.RowKit

theorem mem_any {w : World} {m a : Nat} {L : List Int} (h : Mem w m a L) (b : Nat) (hm : m ≠ b) (hb : L.length = 0 ∨ b = a) : Mem w m b L := by
  rcases hb with hb | rfl
  · obtain ⟨p, cap, hh, r1, r2, r3⟩ := h.head
    exact ⟨hm, h.words, ⟨p, cap, hh, r1, r2, fun h0 => absurd h0 (by omega)⟩, fun h0 => absurd h0 (by omega)⟩
  · exact h

/-- A step of waiting, by a look that keeps what it sees. -/
theorem wstep_keep {S0 : List Nat} {w0 w : World} {m a r : Nat} {nv : Value} {rs : List Res} {s : Rn} (H : Has S0 w0 w (.mem m a s.L :: .blk r (rcells m s nv) :: rs)) (c : Int) (hn : I64 s.n) (fid : FuncId) (first cap : Array Value) (p : Int → Bool)
    (eg : ∀ args w, (callFunc fid args).run Try.prog w = .ok (.enter fid args) w)
    (hF : ∀ W v, 0 ≤ v → v < 4294967296 → Has S0 w0 W (.mem m a s.L :: .blk r (rcells m s nv) :: rs) → Calls Try.prog fid (first ++ #[.int .u32 v] ++ cap) W fun e W' => e = .returned (.bool (p v)) ∧ Touch [r] W W' ∧ Blk W' r (rcells m (if p v then s.setA v else s) nv)) :
    Calls Try.prog 115 #[.pointer (some ⟨m, 0, none⟩), .agg #[.int .i64 s.n], .int .i64 s.mode, .int .i64 s.task, .agg #[.int .i64 s.f.st], .int .i64 c, .func (.func fid) first cap] w
      fun e w' => e = .returned (waitA s.L s.n s.mode s.task s.f.st c p).value ∧ Has S0 w0 w' (.mem m a (waitA s.L s.n s.mode s.task s.f.st c p).words :: .blk r (rcells m (s.keep (waitA s.L s.n s.mode s.task s.f.st c p)) nv) :: rs) := by
  have hM := H.mem
  have hv := doA_old s.L hM.words ⟨1, c, 0, 0, 0⟩
  have hrl : r < w.heap.size := H.blk1.lt
  have hfar : ∀ k, k ∈ (Res.mem m a s.L).foot → k ≠ r := fun k hk e => (List.pairwise_cons.1 H.apart).1 (.blk r (rcells m s nv)) (by simp) k hk (by simp [Res.foot, e])
  have hback : ∀ (w' : World) (cs : Array Value), Mem w' m a s.L → Touch [r] w w' → Blk w' r cs → Has S0 w0 w' (.mem m a s.L :: .blk r cs :: rs) := fun w' cs hM' t hb =>
    Has.swap (Has.upd (xs := [.blk r (rcells m s nv)]) (rs := .mem m a s.L :: rs) [.blk r cs] (S := [r]) H.swap t (by simp [foots, Res.foot]) (by simp [Res.holds]; exact hb) (by simp) (by simp [foots, Res.foot]))
  have hpure : ∀ (R : WaitR) (e : Ending) (w' : World), R.seen = false → R.words.length = s.L.length → (e = .returned R.value ∧ Mem w' m a R.words ∧ Touch (lv a s.L) w w') → e = .returned R.value ∧ Has S0 w0 w' (.mem m a R.words :: .blk r (rcells m (s.keep R) nv) :: rs) := by
    rintro R e w' hs hl ⟨he, hM', t⟩
    refine ⟨he, ?_⟩
    unfold Rn.keep
    rw [hs]
    exact H.words hM' hl t
  obtain ⟨a', ha', har, hma⟩ : ∃ a', (s.L.length = 0 ∨ a' = a) ∧ r ≠ a' ∧ m ≠ a' := by
    by_cases h0 : s.L.length = 0
    · exact ⟨m + r + 1, Or.inl h0, by omega, by omega⟩
    · exact ⟨a, Or.inr rfl, fun e => hfar a (by simp [Res.foot, lv]; omega) e.symm, hM.ne⟩
  have hMa := mem_any hM a' hma ha'
  have hMb : ∀ {w'}, Mem w' m a' s.L → Mem w' m a s.L := fun h => mem_any h a hM.ne (by rcases ha' with h | h; exact Or.inl h; exact Or.inr h.symm)
  have hlook := fun hst => wait_look (S := [r]) (G := fun W => Blk W r (rcells m (if p (doA s.L ⟨1, c, 0, 0, 0⟩).1.old then s.setA (doA s.L ⟨1, c, 0, 0, 0⟩).1.old else s) nv)) hMa s.n s.mode s.task s.f.st c fid first cap (p (doA s.L ⟨1, c, 0, 0, 0⟩).1.old) eg hst
    (by
      intro k hk
      simp only [List.mem_singleton] at hk
      subst hk
      refine ⟨hrl, ?_, ?_⟩
      · exact fun e => hfar m (by simp [Res.foot]) e.symm
      · exact har)
    (fun W W' T hg t hT => t.blk hg (fun hm => by have := hT r hm; omega))
    (fun W t => (hF W _ hv.1 hv.2 (H.grow t)))
  rcases stageA_is s.mode s.f.st with e | e | e | e | e
  · rw [waitA0 e]
    refine (hlook (Or.inl e)).mono ?_
    rintro en w' ⟨he, hM', t, hb⟩
    refine ⟨by rw [he, e]; simp [WaitR.value], ?_⟩
    have := hback w' _ (hMb hM') t hb
    unfold Rn.keep
    exact this
  · rw [waitA1 e]
    exact (wait_say hM s.n s.mode s.task s.f.st c hn _ e).mono fun en w' h => hpure _ en w' rfl (doA_length _ _) h
  · rw [waitA2 e]
    refine (hlook (Or.inr e)).mono ?_
    rintro en w' ⟨he, hM', t, hb⟩
    refine ⟨by rw [he, e]; simp [WaitR.value], ?_⟩
    have := hback w' _ (hMb hM') t hb
    unfold Rn.keep
    exact this
  · rw [waitA3 e]
    exact (wait_sleep hM s.n s.mode s.task s.f.st c hn _ e).mono fun en w' h => hpure _ en w' rfl (by unfold takeA; split; exact doA_length _ _; rfl) h
  · rw [waitA4 e]
    exact (wait_forget hM s.n s.mode s.task s.f.st c hn _ e).mono fun en w' h => hpure _ en w' rfl (doA_length _ _) h

theorem rn_wait_keep {S0 : List Nat} {w0 w : World} {m a r : Nat} {rs : List Res} {s : Rn} (H : RunHas S0 w0 m a r rs s w) (hn : I64 s.n) (c : Int) (fid : FuncId) (first cap : Array Value) (p : Int → Bool)
    (eg : ∀ args w, (callFunc fid args).run Try.prog w = .ok (.enter fid args) w)
    (hF : ∀ W nv v, 0 ≤ v → v < 4294967296 → Has S0 w0 W (.mem m a s.L :: .blk r (rcells m s nv) :: .own 112 4 nv s.notes.length (nts s.notes) :: rs) → Calls Try.prog fid (first ++ #[.int .u32 v] ++ cap) W fun e W' => e = .returned (.bool (p v)) ∧ Touch [r] W W' ∧ Blk W' r (rcells m (if p v then s.setA v else s) nv)) :
    Calls Try.prog 79 #[.pointer (some ⟨r, 0, none⟩), .int .i64 c, .func (.func fid) first cap] w
      fun e w' => e = .returned (.tuple #[.bool (waitA s.L s.n s.mode s.task s.f.st c p).seen, .bool (waitA s.L s.n s.mode s.task s.f.st c p).done]) ∧ RunHas S0 w0 m a r rs ((s.keep (waitA s.L s.n s.mode s.task s.f.st c p)).waited (waitA s.L s.n s.mode s.task s.f.st c p)) w' := by
  obtain ⟨nv, H⟩ := H
  refine (run_wait (s2 := s.keep (waitA s.L s.n s.mode s.task s.f.st c p)) H c _ _ (fun W HW => wstep_keep HW c hn fid first cap p eg (fun W v h0 h1 HW => hF W nv v h0 h1 HW))).mono fun e w' h => ⟨h.1, nv, ?_⟩
  have e1 : ((s.keep (waitA s.L s.n s.mode s.task s.f.st c p)).waited (waitA s.L s.n s.mode s.task s.f.st c p)).notes = s.notes := by unfold Rn.keep; split <;> rfl
  rw [e1]
  exact h.2

end Go.Proofs.Ytbcppehpfckgoaa.Z

/- Package line: a run stores and swaps. -/
set_option linter.unusedVariables false
set_option linter.unusedSimpArgs false
namespace Go.Proofs.Ytbcppehpfckgoaa.Z
open Go.RowKit

set_option maxRecDepth 100000 in
theorem run_swap {S0 : List Nat} {w0 w : World} {m a r : Nat} {nv : Value} {rs : List Res} {s : Rn} (H : Has S0 w0 w (.mem m a s.L :: .blk r (rcells m s nv) :: rs)) (c x : Int) (hx : 0 ≤ x ∧ x < 4294967296) :
    Calls Try.prog 109 #[.pointer (some ⟨r, 0, none⟩), .int .i64 c, .int .u32 x] w fun e w' => e = .returned (.int .u32 (doA s.L ⟨4, c, x, 0, 0⟩).1.old) ∧ Has S0 w0 w' (.mem m a (s.did (doA s.L ⟨4, c, x, 0, 0⟩)).L :: .blk r (rcells m (s.did (doA s.L ⟨4, c, x, 0, 0⟩)) nv) :: rs) := by
  have hd := fun W (H : Has S0 w0 W (.mem m a s.L :: .blk r (rcells m s nv) :: rs)) => run_do H ⟨4, c, x, 0, 0⟩ hx (by simp)
  generalize doA s.L ⟨4, c, x, 0, 0⟩ = R at hd ⊢
  obtain ⟨⟨rk, rc, rx, ry, ro⟩, rok, L2⟩ := R
  simp only [Acc.cells] at hd ⊢
  have hf := fieldOld rk rc rx ry ro
  go_enter Try.func109, Try.ntmps109
  go_wp2_with (go_at_call 113; refine (hd _ H).mono ?_; rintro e w1 ⟨rfl, H1⟩)
  go_ret
  exact ⟨rfl, H1⟩

set_option maxRecDepth 100000 in
theorem run_swap_nil (w : World) (c x : Int) (hx : 0 ≤ x ∧ x < 4294967296) :
    Calls Try.prog 109 #[.pointer none, .int .i64 c, .int .u32 x] w fun e w' => e = .returned (.int .u32 0) ∧ Touch [] w w' := by
  have hd := fun W => run_do_nil W ⟨4, c, x, 0, 0⟩
  simp only [Acc.cells, Acc.zero] at hd
  have hf := fieldOld 0 0 0 0 0
  go_enter Try.func109, Try.ntmps109
  go_wp2_with (go_at_call 113; refine (hd _).mono ?_; rintro e w1 ⟨rfl, t1⟩)
  go_ret
  exact ⟨rfl, t1⟩


end Go.Proofs.Ytbcppehpfckgoaa.Z

/- Package line: a run stores and swaps, said of RunHas. -/
set_option linter.unusedVariables false
set_option linter.unusedSimpArgs false
namespace Go.Proofs.Ytbcppehpfckgoaa.Z
open Go.RowKit

theorem rn_swap {S0 : List Nat} {w0 w : World} {m a r : Nat} {rs : List Res} {s : Rn} (H : RunHas S0 w0 m a r rs s w) (c x : Int) (hx : 0 ≤ x ∧ x < 4294967296) :
    Calls Try.prog 109 #[.pointer (some ⟨r, 0, none⟩), .int .i64 c, .int .u32 x] w fun e w' => e = .returned (.int .u32 (doA s.L ⟨4, c, x, 0, 0⟩).1.old) ∧ RunHas S0 w0 m a r rs (s.did (doA s.L ⟨4, c, x, 0, 0⟩)) w' := by
  obtain ⟨nv, H⟩ := H
  exact (run_swap H c x hx).mono fun e w' h => ⟨h.1, nv, h.2⟩

end Go.Proofs.Ytbcppehpfckgoaa.Z
