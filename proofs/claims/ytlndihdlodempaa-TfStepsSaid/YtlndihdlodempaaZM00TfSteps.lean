/- 6 texts of this claim, joined: what each shows stands at its own head. -/
import Derived.Test.YtlndihdlodempaaZBase
import Derived.Test.YtlndihdlodempaaZXRun7
import Derived.Test.YtlndihdlodempaaZSameN
import Derived.Test.YtlndihdlodempaaZFlat6
import Derived.Test.YtlndihdlodempaaZPlace
import Derived.Outline
import Derived.Test.YtlndihdlodempaaZRun7
import Derived.Test.YtlndihdlodempaaZFlat3
import Derived.Deep.RegionHeld3
import Derived.Deep.DrawnRows
/- Fields of words: what the bit operations come to, in whole numbers. No program is in sight. -/
set_option linter.unusedVariables false
set_option linter.unusedSimpArgs false
namespace Go.Proofs.Ytlndihdlodempaa.ZB
open Go.RowKit

theorem pow_pos (n : Nat) : 0 < 2 ^ n := Nat.pow_pos (by decide)

theorem two_pow_le {a b : Nat} (h : a ≤ b) : 2 ^ a ≤ 2 ^ b := Nat.pow_le_pow_right (by decide) h

theorem and_mask (v s w : Nat) : v &&& ((2 ^ w - 1) * 2 ^ s) = (v / 2 ^ s % 2 ^ w) * 2 ^ s := by
  rw [← Nat.shiftLeft_eq, ← Nat.shiftLeft_eq, ← Nat.shiftRight_eq_div_pow]
  apply Nat.eq_of_testBit_eq
  intro i
  simp only [Nat.testBit_and, Nat.testBit_shiftLeft, Nat.testBit_two_pow_sub_one, Nat.testBit_mod_two_pow, Nat.testBit_shiftRight]
  by_cases h : i ≥ s
  · have e : s + (i - s) = i := by omega
    simp only [h, decide_true, Bool.true_and, e]
    exact Bool.and_comm _ _
  · simp [h]

theorem ofInt_nat (k n : Nat) : BitVec.ofInt k (n : Int) = BitVec.ofNat k n := by simp

theorem bits_and (a b : Nat) (ha : a < 4294967296) (hb : b < 4294967296) : Go.bits .and .u32 (a : Int) (b : Int) = ((a &&& b : Nat) : Int) := by
  unfold Go.bits
  simp only [ofInt_nat, BitVec.toNat_and, BitVec.toNat_ofNat]
  rw [Nat.mod_eq_of_lt (by simpa [IntKind.bits] using ha), Nat.mod_eq_of_lt (by simpa [IntKind.bits] using hb)]
  rw [IntKind.wrap_u32]
  have : a &&& b ≤ a := Nat.and_le_left
  omega

theorem and_split (v m : BitVec 32) : v.toNat = (v &&& m).toNat + (v &&& ~~~m).toNat := by
  have hz : (v &&& m) &&& (v &&& ~~~m) = 0#32 := by ext i; simp only [BitVec.getElem_and, BitVec.getElem_or, BitVec.getElem_not, BitVec.getElem_zero]; cases v[i] <;> cases m[i] <;> rfl
  have hor : (v &&& m) ||| (v &&& ~~~m) = v := by ext i; simp only [BitVec.getElem_and, BitVec.getElem_or, BitVec.getElem_not, BitVec.getElem_zero]; cases v[i] <;> cases m[i] <;> rfl
  have := BitVec.add_eq_or_of_and_eq_zero _ _ hz
  rw [hor] at this
  have h2 := congrArg BitVec.toNat this
  rw [BitVec.toNat_add] at h2
  have h3 : (v &&& ~~~m).toNat ≤ (~~~m).toNat := by rw [BitVec.toNat_and]; exact Nat.and_le_right
  have h4 : (v &&& m).toNat ≤ m.toNat := by rw [BitVec.toNat_and]; exact Nat.and_le_right
  rw [BitVec.toNat_not] at h3
  have := m.isLt
  rw [Nat.mod_eq_of_lt (by omega)] at h2
  exact h2.symm

theorem put_split (v x m : BitVec 32) : ((v &&& ~~~m) ||| (x &&& m)).toNat = (v &&& ~~~m).toNat + (x &&& m).toNat := by
  have hz : (v &&& ~~~m) &&& (x &&& m) = 0#32 := by ext i; simp only [BitVec.getElem_and, BitVec.getElem_not, BitVec.getElem_zero]; cases v[i] <;> cases x[i] <;> cases m[i] <;> rfl
  have := BitVec.add_eq_or_of_and_eq_zero _ _ hz
  rw [← this, BitVec.toNat_add]
  have h3 : (v &&& ~~~m).toNat ≤ (~~~m).toNat := by rw [BitVec.toNat_and]; exact Nat.and_le_right
  have h4 : (x &&& m).toNat ≤ m.toNat := by rw [BitVec.toNat_and]; exact Nat.and_le_right
  rw [BitVec.toNat_not] at h3
  have := m.isLt
  rw [Nat.mod_eq_of_lt (by omega)]

theorem bits_or (a b : Nat) (ha : a < 4294967296) (hb : b < 4294967296) : Go.bits .or .u32 (a : Int) (b : Int) = ((BitVec.ofNat 32 a ||| BitVec.ofNat 32 b).toNat : Int) := by
  show (IntKind.u32.wrap ((BitVec.ofInt 32 (a : Int) ||| BitVec.ofInt 32 (b : Int)).toNat : Int)) = _
  rw [ofInt_nat, ofInt_nat, IntKind.wrap_u32]
  have := (BitVec.ofNat 32 a ||| BitVec.ofNat 32 b).isLt
  omega

theorem bits_andNot (a b : Nat) : Go.bits .andNot .u32 (a : Int) (b : Int) = ((BitVec.ofNat 32 a &&& ~~~ (BitVec.ofNat 32 b)).toNat : Int) := by
  show (IntKind.u32.wrap ((BitVec.ofInt 32 (a : Int) &&& ~~~ (BitVec.ofInt 32 (b : Int))).toNat : Int)) = _
  rw [ofInt_nat, ofInt_nat, IntKind.wrap_u32]
  have := (BitVec.ofNat 32 a &&& ~~~ (BitVec.ofNat 32 b)).isLt
  omega

theorem nat32 (a : Nat) (ha : a < 4294967296) : (BitVec.ofNat 32 a).toNat = a := by
  rw [BitVec.toNat_ofNat]; exact Nat.mod_eq_of_lt (by omega)

theorem bits_put (v x m : Nat) (hv : v < 4294967296) (hx : x < 4294967296) (hm : m < 4294967296) :
    Go.bits .or .u32 (Go.bits .andNot .u32 (v : Int) (m : Int)) (Go.bits .and .u32 (x : Int) (m : Int)) = (v : Int) - ((v &&& m : Nat) : Int) + ((x &&& m : Nat) : Int) := by
  rw [bits_and x m hx hm, bits_andNot]
  have e1 := and_split (BitVec.ofNat 32 v) (BitVec.ofNat 32 m)
  have e2 := put_split (BitVec.ofNat 32 v) (BitVec.ofNat 32 x) (BitVec.ofNat 32 m)
  have ex : (BitVec.ofNat 32 x &&& BitVec.ofNat 32 m).toNat = x &&& m := by rw [BitVec.toNat_and, nat32 x hx, nat32 m hm]
  have ev : (BitVec.ofNat 32 v &&& BitVec.ofNat 32 m).toNat = v &&& m := by rw [BitVec.toNat_and, nat32 v hv, nat32 m hm]
  have e5 : BitVec.ofNat 32 (x &&& m) = (BitVec.ofNat 32 x &&& BitVec.ofNat 32 m) := by
    apply BitVec.eq_of_toNat_eq
    rw [ex, nat32]
    have : x &&& m ≤ x := Nat.and_le_left
    omega
  have hl : x &&& m < 4294967296 := by
    have : x &&& m ≤ x := Nat.and_le_left
    omega
  generalize hA : (BitVec.ofNat 32 v &&& ~~~ (BitVec.ofNat 32 m)) = A at e1 e2 ⊢
  have hlt := A.isLt
  rw [bits_or _ _ (by omega) hl, e5, show BitVec.ofNat 32 A.toNat = A from by simp, e2, ex]
  rw [ev, nat32 v hv] at e1
  omega

end Go.Proofs.Ytlndihdlodempaa.ZB

/- The document's run: a box more; what a wait looks at. -/
set_option linter.unusedVariables false
set_option linter.unusedSimpArgs false
namespace Go.Proofs.Ytlndihdlodempaa.Z
open Go.RowKit

/-- A box more. -/
theorem XHas.box {S0 : List Nat} {w0 w : World} {p : Option Addr} {g cap x : Nat} {rs : List Res} {s : Rn} (H : XHas S0 w0 p g cap x rs s w) {b : Nat} (hb : w.heap.size = b) (cs : Array Value) (T : TypeId) : XHas S0 w0 p g cap x (.blk b cs :: rs) s (w.alloc (.cells cs T)) := by
  obtain ⟨nv, H⟩ := H
  exact ⟨nv, (H.new hb cs T).perm (perm_past3 (Res.row p g cap s.L) (Res.blk x (xcells p cap s nv)) (Res.own 98 4 nv s.notes.length (nts s.notes)) [Res.blk b cs] rs)⟩
theorem XHas.unbox {S0 : List Nat} {w0 w : World} {p : Option Addr} {g cap x : Nat} {y : Res} {rs : List Res} {s : Rn} (H : XHas S0 w0 p g cap x (y :: rs) s w) : XHas S0 w0 p g cap x rs s w := by
  obtain ⟨nv, H⟩ := H
  exact ⟨nv, H.cut31⟩
theorem XHas.first {S0 : List Nat} {w0 w : World} {p : Option Addr} {g cap x b : Nat} {cs : Array Value} {rs : List Res} {s : Rn} (H : XHas S0 w0 p g cap x (.blk b cs :: rs) s w) : Blk w b cs := by
  obtain ⟨nv, H⟩ := H
  exact H.at_ 3 rfl

theorem untilA_all {v : Int} (a : Int) (h : 0 ≤ v ∧ v < 4294967296) : untilA 0 4294967295 a v = (v == a) := by
  obtain ⟨n, rfl⟩ : ∃ n : Nat, v = n := ⟨v.toNat, by omega⟩
  show (bits .and .u32 (n : Int) 4294967295 == a) = _
  have h1 := ZB.bits_and n 4294967295 (by omega) (by decide)
  have h2 : n &&& 4294967295 = n := by
    rw [show (4294967295 : Nat) = 2 ^ 32 - 1 from rfl, Nat.and_two_pow_sub_one_eq_mod]
    omega
  rw [h2] at h1
  rw [show ((4294967295 : Nat) : Int) = 4294967295 from rfl] at h1
  rw [h1]
theorem untilA_some {v : Int} (a : Int) (h : 0 ≤ v ∧ v < 4294967296) : untilA 1 4294967295 a v = (v != a) := by
  have h1 := untilA_all a h
  unfold untilA at h1 ⊢
  simp only [if_true] at h1
  simp only [show ¬ ((1 : Int) = 0) from by decide, if_false, if_true]
  unfold bne
  rw [h1]
/-- A wait looks at a word: what else is so elsewhere doesn't matter. -/
theorem waitA_like {L : List Int} {n mode task st c : Int} {p q : Int → Bool} (hw : Words L) (h : ∀ v, 0 ≤ v ∧ v < 4294967296 → p v = q v) : waitA L n mode task st c p = waitA L n mode task st c q := by
  have h1 := fun b => h _ (doA_old L hw b)
  unfold waitA
  simp only [h1]
theorem XHas.words_ {S0 : List Nat} {w0 w : World} {p : Option Addr} {g cap x : Nat} {rs : List Res} {s : Rn} (H : XHas S0 w0 p g cap x rs s w) : Words s.L := by
  obtain ⟨nv, H⟩ := H
  exact H.row.words
theorem XHas.back_ {S0 : List Nat} {w0 w : World} {p : Option Addr} {g cap x : Nat} {rs : List Res} {s : Rn} {R : Acc × Bool × List Int} {k l : Int} (H : XHas S0 w0 p g cap x rs ((s.goto k).did R) w) (h : s.f.line = l) : XHas S0 w0 p g cap x rs (s.did R) (w.setCell ⟨x, 5, none⟩ (.int .i64 l)) := by
  have e : ((s.goto k).did R).goto l = s.did R := by
    obtain ⟨n, mode, task, ⟨op, line, fa, fb, st, wk, ret⟩, acc, notes, L⟩ := s
    simp only at h
    subst h
    rfl
  rw [← e]
  exact H.goto l

end Go.Proofs.Ytlndihdlodempaa.Z

/- What the Steps' last region keeps, and its calls. Written by gensteps.py. -/
set_option linter.unusedVariables false
set_option linter.unusedSimpArgs false
namespace Go.Proofs.Ytlndihdlodempaa.Z
open Go.RowKit

def stepStart (n mode task : Int) (f : Fr) (L : List Int) : Rn := ⟨n, mode, task, f, Acc.zero, [], L⟩

/-- What the last region keeps. -/
def RSKeep (w : World) (m a r : Nat) (p : Option Addr) (g cap x : Nat) (s : Rn) (nv nx : Value) (w' : World) : Prop :=
  Has [] w w' (.row p g cap s.L :: .blk x (xcells p cap s nx) :: .own 98 4 nx s.notes.length (nts s.notes) :: .mem m a s.L :: .blk r (rcells m s nv) :: .own 98 4 nv s.notes.length (nts s.notes) :: [])
section
variable {w : World} {m a r : Nat} {p : Option Addr} {g cap x : Nat} {s : Rn} {nv nx : Value} {w' : World}
theorem rskeep (h : RSKeep w m a r p g cap x s nv nx w') : (r < w'.heap.size ∧ (∀ i, w'.cell? ⟨r, i, none⟩ = (rcells m s nv)[i]?)) ∧ (x < w'.heap.size ∧ (∀ i, w'.cell? ⟨x, i, none⟩ = (xcells p cap s nx)[i]?)) :=
  ⟨⟨(Has.at_ h 4 rfl).lt, (Has.at_ h 4 rfl).cell⟩, (Has.at_ h 1 rfl).lt, (Has.at_ h 1 rfl).cell⟩
theorem RSKeep.grow {w'' : World} (h : RSKeep w m a r p g cap x s nv nx w') (t : Touch [] w' w'') : RSKeep w m a r p g cap x s nv nx w'' := Has.grow h t
theorem RSKeep.drew (h : RSKeep w m a r p g cap x s nv nx w') : RSKeep w m a r p g cap x s nv nx w'.drew := Has.drew h
theorem rsover (h : RSKeep w m a r p g cap x s nv nx w') : Calls Try.prog 20 #[.pointer (some ⟨x, 0, none⟩)] w' fun e w'' => e = .returned (.bool s.over) ∧ RSKeep w m a r p g cap x s nv nx w'' :=
  (x_over h).mono fun e w'' k => ⟨k.1, k.2 ▸ h⟩
theorem rsnotes {pn qn : Option Addr} {c d : Nat} (h : RSKeep w m a r p g cap x s (.slice pn s.notes.length c) (.slice qn s.notes.length d) w') (hn : s.notes.length ≤ 1048576) : Calls Try.prog 22 #[.slice pn s.notes.length c, .slice qn s.notes.length d] w' fun e w'' => e = .returned (.bool true) ∧ RSKeep w m a r p g cap x s (.slice pn s.notes.length c) (.slice qn s.notes.length d) w'' :=
  (same_notes w' (Rd.own (Has.ownAt h 5 rfl)) (Rd.own (Has.ownAt h 2 rfl)) hn).mono fun e w'' k => ⟨k.1, Has.grow h k.2⟩
def RSAll (w : World) (m a r : Nat) (p : Option Addr) (g cap x : Nat) (s : Rn) (nv nx : Value) (w' : World) (e : Ending) (w'' : World) : Prop :=
  ∃ p' cap', e = .returned (.slice p' s.L.length cap') ∧ RSKeep w m a r p g cap x s nv nx w'' ∧ Rd w'' 1 p' s.L.length (u32s s.L) ∧ Touch [] w' w''
theorem rsall (h : RSKeep w m a r p g cap x s nv nx w') : Calls Try.prog 23 #[.pointer (some ⟨m, 0, none⟩)] w' (RSAll w m a r p g cap x s nv nx w') :=
  (all_mem (Has.mem (Has.front h 3 (by simp)))).mono fun e w'' ⟨p', cap', he, ho, t⟩ => ⟨p', cap', he, Has.grow h t, by
    obtain ⟨g', hR, _⟩ := Row.of_owns ho (Has.row h).words
    exact hR.rd, t⟩
theorem rssame (h : RSKeep w m a r p g cap x s nv nx w') {p' : Option Addr} {cap' : Nat} (hr : Rd w' 1 p' s.L.length (u32s s.L)) :
    Calls Try.prog 21 #[.slice p' s.L.length cap', .slice p s.L.length cap] w' fun e w'' => e = .returned (.bool true) ∧ RSKeep w m a r p g cap x s nv nx w'' := by
  have := same_any (c := cap') (d := cap) w' hr (Has.row h).rd (by have := (Has.row h).words.1; omega)
  simp only [decide_true] at this
  exact this.mono fun e w'' k => ⟨k.1, Has.grow h k.2⟩
end
theorem six {S0 : List Nat} {w0 w : World} {a b c d e f : Res} {rs : List Res} (h : Has S0 w0 w (a :: b :: c :: d :: e :: f :: rs)) : Has S0 w0 w (d :: e :: f :: a :: b :: c :: rs) :=
  ((h.front 5 (by simp)).front 5 (by simp)).front 5 (by simp)
theorem drop7 {S0 : List Nat} {w0 w : World} {a b c d e f g : Res} (h : Has S0 w0 w (a :: b :: c :: d :: e :: f :: g :: [])) : Has S0 w0 w (a :: b :: c :: d :: e :: f :: []) :=
  Has.tail (h.front 6 (by simp))
end Go.Proofs.Ytlndihdlodempaa.Z

/- Package diff: how far a word is ahead. -/
set_option linter.unusedVariables false
set_option linter.unusedSimpArgs false
namespace Go.Proofs.Ytlndihdlodempaa.Z
open Go.RowKit

/-- How far a word is ahead of another one. -/
def aheadA (a b : Int) : Int := (a - b + 2147483648) % 4294967296 - 2147483648

theorem ahead_any (a b : Int) (w : World) (ha : 0 ≤ a ∧ a < 4294967296) (hb : 0 ≤ b ∧ b < 4294967296) :
    Calls Try.prog 173 #[.int .u32 a, .int .u32 b] w fun e w' => e = .returned (.int .i64 (aheadA a b)) ∧ w = w' := by
  have H := Lib.hid (show wrap64 (wrap32 ((a - b) % 4294967296)) = aheadA a b from by unfold wrap64 wrap32 aheadA; omega)
  clear ha hb
  go_enter Try.func173, Try.ntmps173
  go_wp2
  go_ret
  refine ⟨?_, rfl⟩
  rw [← H.out]
  rfl

end Go.Proofs.Ytlndihdlodempaa.Z

/- Package tf: its small functions. Written by gentf.py. -/
set_option linter.unusedVariables false
set_option linter.unusedSimpArgs false
namespace Go.Proofs.Ytlndihdlodempaa.Z
open Go.RowKit

attribute [local go_sem ↓] Go.wp_at_zero Go.wp_at_succ

def tfTicket (s : Rn) (class_ : Int) : Rn := (((s.did (doA s.L ⟨3, 0, 1, 0, 0⟩)).setA (doA s.L ⟨3, 0, 1, 0, 0⟩).1.old).note 2 class_).goto 1
theorem tf_ticket {S0 : List Nat} {w0 w : World} {m a r : Nat} {rs : List Res} {s : Rn} (H : RunHas S0 w0 m a r rs s w) {o l : Int} (hop : s.f.op = o) (hl : s.f.line = l) (hc : s.notes.length ≤ 900) (class_ : Int) :
    Calls Try.prog 95 #[.pointer (some ⟨r, 0, none⟩), .int .i64 class_] w fun e w' => e = .returned (.tuple #[]) ∧ RunHas S0 w0 m a r rs (tfTicket s class_) w' := by
  have HC := Lib.hid hc
  have HH := Lib.hid H
  clear hc H
  go_enter Try.func95, Try.ntmps95
  go_wp2_with fail
  refine (rn_add HH.out 0 1 (by decide)).mono ?_
  rintro e w1 ⟨rfl, H1⟩
  obtain ⟨x0, x2, x4, x5, x6, x7⟩ := H1.facts hop hl rfl rfl
  go_wp2_with fail
  refine (run_note (H1.setA (doA s.L ⟨3, 0, 1, 0, 0⟩).1.old) (by have := HC.out; first | exact Nat.le_trans this (by decide) | (simp [Rn.note, Rn.did, Rn.setA, Rn.setB, Rn.waited, Rn.goto, Rn.noted]; omega)) 2 class_).mono ?_
  rintro e w2 ⟨rfl, H2⟩
  obtain ⟨x0, x2, x4, x5, x6, x7⟩ := H2.facts hop hl (x := (doA s.L ⟨3, 0, 1, 0, 0⟩).1.old) rfl rfl
  go_wp2_with fail
  refine (rn_go H2 1).mono ?_
  rintro e w3 ⟨rfl, H3⟩
  go_wp2_with fail
  go_end0
  exact ⟨rfl, H3⟩

def tfEnter (s : Rn) (what : Int) : Rn := (((s.did (doA s.L ⟨3, 1, 1, 0, 0⟩)).note what 0).wake 1).fin true
theorem tf_enter {S0 : List Nat} {w0 w : World} {m a r : Nat} {rs : List Res} {s : Rn} (H : RunHas S0 w0 m a r rs s w) {o l : Int} (hop : s.f.op = o) (hl : s.f.line = l) (hc : s.notes.length ≤ 900) (what : Int) :
    Calls Try.prog 96 #[.pointer (some ⟨r, 0, none⟩), .int .i64 what] w fun e w' => e = .returned (.tuple #[]) ∧ RunHas S0 w0 m a r rs (tfEnter s what) w' := by
  have HC := Lib.hid hc
  have HH := Lib.hid H
  clear hc H
  go_enter Try.func96, Try.ntmps96
  go_wp2_with fail
  refine (rn_add HH.out 1 1 (by decide)).mono ?_
  rintro e w1 ⟨rfl, H1⟩
  obtain ⟨x0, x2, x4, x5, x6, x7⟩ := H1.facts hop hl rfl rfl
  go_wp2_with fail
  refine (run_note H1 (by have := HC.out; first | exact Nat.le_trans this (by decide) | (simp [Rn.note, Rn.did, Rn.setA, Rn.setB, Rn.waited, Rn.goto, Rn.noted]; omega)) what 0).mono ?_
  rintro e w2 ⟨rfl, H2⟩
  obtain ⟨x0, x2, x4, x5, x6, x7⟩ := H2.facts hop hl rfl rfl
  go_wp2_with fail
  refine (rn_wake H2 1).mono ?_
  rintro e w3 ⟨rfl, H3⟩
  go_wp2_with fail
  refine (rn_end H3 true).mono ?_
  rintro e w4 ⟨rfl, H4⟩
  go_wp2_with fail
  go_end0
  exact ⟨rfl, H4⟩

def tfLook (s : Rn) (c may : Int) : Rn :=
  let v := (doA s.L ⟨1, c, 0, 0, 0⟩).1.old
  let s1 := (s.did (doA s.L ⟨1, c, 0, 0, 0⟩)).setB v
  if may < aheadA s.f.a v then (s1.note 5 0).fin false else if aheadA s.f.a v < may then s1.goto 0 else s1.goto 2

set_option maxHeartbeats 1600000 in
theorem tf_look {S0 : List Nat} {w0 w : World} {m a r : Nat} {rs : List Res} {s : Rn} (H : RunHas S0 w0 m a r rs s w) {o l : Int} (hop : s.f.op = o) (hl : s.f.line = l) (ha : 0 ≤ s.f.a ∧ s.f.a < 4294967296) (hc : s.notes.length ≤ 900) (c may : Int) :
    Calls Try.prog 151 #[.pointer (some ⟨r, 0, none⟩), .int .i64 c, .int .i64 may] w fun e w' => e = .returned (.tuple #[]) ∧ RunHas S0 w0 m a r rs (tfLook s c may) w' := by
  have hld := fun W (H : RunHas S0 w0 m a r rs s W) => rn_load H c
  have hv := H.old ⟨1, c, 0, 0, 0⟩
  unfold tfLook
  dsimp only
  have hah := fun W => ahead_any s.f.a (doA s.L ⟨1, c, 0, 0, 0⟩).1.old W ha hv
  generalize hn : aheadA s.f.a (doA s.L ⟨1, c, 0, 0, 0⟩).1.old = n at hah ⊢
  generalize hvv : (doA s.L ⟨1, c, 0, 0, 0⟩).1.old = v at hld hah hv ⊢
  generalize hs2 : s.did (doA s.L ⟨1, c, 0, 0, 0⟩) = s2 at hld ⊢
  have h2o : s2.f.op = o := by rw [← hs2]; exact hop
  have h2l : s2.f.line = l := by rw [← hs2]; exact hl
  have h2n : s2.notes = s.notes := by rw [← hs2]; rfl
  have h2a : s2.f.a = s.f.a := by rw [← hs2]; rfl
  rw [← h2a] at hah
  have HC := Lib.hid (show s2.notes.length ≤ 900 by rw [h2n]; exact hc)
  have HH := Lib.hid H
  have HLD := Lib.hid hld
  have HAH := Lib.hid hah
  clear hc H hld hah hn hvv hs2 hv h2n ha h2a hop hl
  have hop := h2o
  have hl := h2l
  clear h2o h2l
  by_cases c1 : may < n
  · rw [if_pos c1]
    go_enter Try.func151, Try.ntmps151
    go_wp2_with fail
    refine (HLD.out _ HH.out).mono ?_
    rintro e w1 ⟨rfl, H1⟩
    obtain ⟨x0, x2, x4, x5, x6, x7⟩ := H1.facts hop hl rfl rfl
    go_wp2_with fail
    refine region_flat (by kernel_rfl) (by kernel_rfl) ?_
    simp only [probed, probes, List.nil_append]
    go_wp2_with fail
    refine (HAH.out _).mono ?_
    rintro e w2 ⟨rfl, rfl⟩
    go_wp2_with fail
    rw [only_normal]
    rename_i hK
    refine hK _ _ ?_
    clear hK
    have H2 := (H1.setB v).drew
    go_wp2_with fail
    refine (run_note H2 (by have := HC.out; first | exact Nat.le_trans this (by decide) | (simp [Rn.note, Rn.did, Rn.setA, Rn.setB, Rn.waited, Rn.goto, Rn.noted]; omega)) 5 0).mono ?_
    rintro e w3 ⟨rfl, H3⟩
    go_wp2_with fail
    refine (rn_end H3 false).mono ?_
    rintro e w4 ⟨rfl, H4⟩
    go_wp2_with fail
    go_end0
    exact ⟨rfl, H4⟩
  · rw [if_neg c1]
    by_cases c2 : n < may
    · rw [if_pos c2]
      go_enter Try.func151, Try.ntmps151
      go_wp2_with fail
      refine (HLD.out _ HH.out).mono ?_
      rintro e w1 ⟨rfl, H1⟩
      obtain ⟨x0, x2, x4, x5, x6, x7⟩ := H1.facts hop hl rfl rfl
      go_wp2_with fail
      refine region_flat (by kernel_rfl) (by kernel_rfl) ?_
      simp only [probed, probes, List.nil_append]
      go_wp2_with fail
      refine (HAH.out _).mono ?_
      rintro e w2 ⟨rfl, rfl⟩
      go_wp2_with fail
      rw [only_normal]
      rename_i hK
      refine hK _ _ ?_
      clear hK
      have H2 := (H1.setB v).drew
      go_wp2_with fail
      refine (rn_go H2 0).mono ?_
      rintro e w3 ⟨rfl, H3⟩
      go_wp2_with fail
      go_end0
      exact ⟨rfl, H3⟩
    · rw [if_neg c2]
      go_enter Try.func151, Try.ntmps151
      go_wp2_with fail
      refine (HLD.out _ HH.out).mono ?_
      rintro e w1 ⟨rfl, H1⟩
      obtain ⟨x0, x2, x4, x5, x6, x7⟩ := H1.facts hop hl rfl rfl
      go_wp2_with fail
      refine region_flat (by kernel_rfl) (by kernel_rfl) ?_
      simp only [probed, probes, List.nil_append]
      go_wp2_with fail
      refine (HAH.out _).mono ?_
      rintro e w2 ⟨rfl, rfl⟩
      go_wp2_with fail
      rw [only_normal]
      rename_i hK
      refine hK _ _ ?_
      clear hK
      have H2 := (H1.setB v).drew
      go_wp2_with fail
      refine (rn_go H2 2).mono ?_
      rintro e w3 ⟨rfl, H3⟩
      go_wp2_with fail
      go_end0
      exact ⟨rfl, H3⟩

def tfTake (s : Rn) : Rn × Bool :=
  let s1 := s.did (doA s.L ⟨5, 0, s.f.a, (s.f.a + 1) % 4294967296, 0⟩)
  if casB s.L 0 s.f.a ((s.f.a + 1) % 4294967296) then (s1, true) else (s1.goto 0, false)

set_option maxHeartbeats 1600000 in
theorem tf_take {S0 : List Nat} {w0 w : World} {m a r : Nat} {rs : List Res} {s : Rn} (H : RunHas S0 w0 m a r rs s w) {o l : Int} (hop : s.f.op = o) (hl : s.f.line = l) (ha : 0 ≤ s.f.a ∧ s.f.a < 4294967296) :
    Calls Try.prog 152 #[.pointer (some ⟨r, 0, none⟩)] w fun e w' => e = .returned (.bool (tfTake s).2) ∧ RunHas S0 w0 m a r rs (tfTake s).1 w' := by
  obtain ⟨z0, z2, z4, z5, z6, z7⟩ := H.facts hop hl rfl rfl
  have hcas := fun W (H : RunHas S0 w0 m a r rs s W) => rn_cas H 0 s.f.a ((s.f.a + 1) % 4294967296) ha (by omega)
  unfold tfTake
  have HH := Lib.hid H
  clear H ha
  cases hb : casB s.L 0 s.f.a ((s.f.a + 1) % 4294967296) with
  | true =>
    rw [hb] at hcas
    have HCAS := Lib.hid hcas
    clear hcas
    simp only [if_true]
    go_enter Try.func152, Try.ntmps152
    go_wp2_with fail
    refine region_flat (by kernel_rfl) (by kernel_rfl) ?_
    simp only [probed, probes, List.nil_append, List.cons_append, probe]
    go_wp2_with fail
    refine (HCAS.out _ HH.out.drew).mono ?_
    rintro e w1 ⟨rfl, H1⟩
    go_wp2_with fail
    rw [only_normal]
    rename_i hK
    refine hK _ _ ?_
    clear hK
    go_wp2_with fail
    go_ret
    exact ⟨rfl, H1⟩
  | false =>
    rw [hb] at hcas
    have HCAS := Lib.hid hcas
    clear hcas
    simp only [Bool.false_eq_true, if_false]
    go_enter Try.func152, Try.ntmps152
    go_wp2_with fail
    refine region_flat (by kernel_rfl) (by kernel_rfl) ?_
    simp only [probed, probes, List.nil_append, List.cons_append, probe]
    go_wp2_with fail
    refine (HCAS.out _ HH.out.drew).mono ?_
    rintro e w1 ⟨rfl, H1⟩
    go_wp2_with fail
    rw [only_normal]
    rename_i hK
    refine hK _ _ ?_
    clear hK
    go_wp2_with fail
    refine (rn_go H1 0).mono ?_
    rintro e w2 ⟨rfl, H2⟩
    go_wp2_with fail
    go_ret
    exact ⟨rfl, H2⟩

theorem tf_mine (x v : Int) {b : Nat} (w : World) (hb : Blk w b #[.int .u32 x]) :
    Calls Try.prog 94 #[.int .u32 v, .pointer (some ⟨b, 0, none⟩)] w fun e w' => e = .returned (.bool (v == x)) ∧ Touch [] w w' := by
  obtain ⟨x0, x1, x2⟩ := hb.own
  go_enter Try.func94, Try.ntmps94
  go_wp2
  go_ret
  exact ⟨rfl, Touch.refl _ _⟩

end Go.Proofs.Ytlndihdlodempaa.Z

/- Package tf: its lines. Written by gentf2.py. -/
set_option linter.unusedVariables false
set_option linter.unusedSimpArgs false
namespace Go.Proofs.Ytlndihdlodempaa.Z
open Go.RowKit

attribute [local go_sem ↓] Go.wp_at_zero Go.wp_at_succ

def tf10 (s : Rn) : Rn :=
  tfTicket s 1

set_option maxHeartbeats 800000 in
theorem tf_10 {S0 : List Nat} {w0 w : World} {m a r : Nat} {rs : List Res} {s : Rn} (H : RunHas S0 w0 m a r rs s w) (hop : s.f.op = 1) (hl : s.f.line = 0) (hn : I64 s.n) (ha : 0 ≤ s.f.a ∧ s.f.a < 4294967296) (hc : s.notes.length ≤ 900) :
    Calls Try.prog 37 #[.pointer (some ⟨r, 0, none⟩)] w fun e w' => e = .returned (.tuple #[]) ∧ RunHas S0 w0 m a r rs (tf10 s) w' := by
  obtain ⟨z0, z2, z4, z5, z6, z7⟩ := H.facts hop hl rfl rfl
  have HC := Lib.hid hc
  have HA := Lib.hid ha
  have HN := Lib.hid hn
  have HH := Lib.hid (H.box rfl #[.int .u32 s.f.a] 23)
  clear hc H hn ha
  unfold tf10
  go_enter Try.func37, Try.ntmps37
  go_wp2_with fail
  go_quiet (fail)
  have HW := HH.out.drewN nq
  clear z0 z2 z4 z5 z6 z7
  generalize w.heap.size = tb at HW ⊢
  generalize (World.drewN _ nq) = W at HW ⊢
  obtain ⟨z0, z2, z4, z5, z6, z7⟩ := HW.facts hop hl rfl rfl
  go_wp2_with fail
  refine (tf_ticket HW hop hl HC.out 1).mono ?_
  rintro e w1 ⟨rfl, H1⟩
  go_wp2_with fail
  go_end0
  exact ⟨rfl, H1.unbox⟩

def tf30 (s : Rn) : Rn :=
  tfTicket s 2

set_option maxHeartbeats 800000 in
theorem tf_30 {S0 : List Nat} {w0 w : World} {m a r : Nat} {rs : List Res} {s : Rn} (H : RunHas S0 w0 m a r rs s w) (hop : s.f.op = 3) (hl : s.f.line = 0) (hn : I64 s.n) (ha : 0 ≤ s.f.a ∧ s.f.a < 4294967296) (hc : s.notes.length ≤ 900) :
    Calls Try.prog 37 #[.pointer (some ⟨r, 0, none⟩)] w fun e w' => e = .returned (.tuple #[]) ∧ RunHas S0 w0 m a r rs (tf30 s) w' := by
  obtain ⟨z0, z2, z4, z5, z6, z7⟩ := H.facts hop hl rfl rfl
  have HC := Lib.hid hc
  have HA := Lib.hid ha
  have HN := Lib.hid hn
  have HH := Lib.hid (H.box rfl #[.int .u32 s.f.a] 23)
  clear hc H hn ha
  unfold tf30
  go_enter Try.func37, Try.ntmps37
  go_wp2_with fail
  go_quiet (fail)
  have HW := HH.out.drewN nq
  clear z0 z2 z4 z5 z6 z7
  generalize w.heap.size = tb at HW ⊢
  generalize (World.drewN _ nq) = W at HW ⊢
  obtain ⟨z0, z2, z4, z5, z6, z7⟩ := HW.facts hop hl rfl rfl
  go_wp2_with fail
  refine (tf_ticket HW hop hl HC.out 2).mono ?_
  rintro e w1 ⟨rfl, H1⟩
  go_wp2_with fail
  go_end0
  exact ⟨rfl, H1.unbox⟩

def tf12 (s : Rn) : Rn :=
  tfEnter s 4

set_option maxHeartbeats 800000 in
theorem tf_12 {S0 : List Nat} {w0 w : World} {m a r : Nat} {rs : List Res} {s : Rn} (H : RunHas S0 w0 m a r rs s w) (hop : s.f.op = 1) (hl : s.f.line = 2) (hn : I64 s.n) (ha : 0 ≤ s.f.a ∧ s.f.a < 4294967296) (hc : s.notes.length ≤ 900) :
    Calls Try.prog 37 #[.pointer (some ⟨r, 0, none⟩)] w fun e w' => e = .returned (.tuple #[]) ∧ RunHas S0 w0 m a r rs (tf12 s) w' := by
  obtain ⟨z0, z2, z4, z5, z6, z7⟩ := H.facts hop hl rfl rfl
  have HC := Lib.hid hc
  have HA := Lib.hid ha
  have HN := Lib.hid hn
  have HH := Lib.hid (H.box rfl #[.int .u32 s.f.a] 23)
  clear hc H hn ha
  unfold tf12
  go_enter Try.func37, Try.ntmps37
  go_wp2_with fail
  go_quiet (fail)
  have HW := HH.out.drewN nq
  clear z0 z2 z4 z5 z6 z7
  generalize w.heap.size = tb at HW ⊢
  generalize (World.drewN _ nq) = W at HW ⊢
  obtain ⟨z0, z2, z4, z5, z6, z7⟩ := HW.facts hop hl rfl rfl
  go_wp2_with fail
  refine (tf_enter HW hop hl HC.out 4).mono ?_
  rintro e w1 ⟨rfl, H1⟩
  go_wp2_with fail
  go_end0
  exact ⟨rfl, H1.unbox⟩

def tf53 (s : Rn) : Rn :=
  tfEnter s 4

set_option maxHeartbeats 800000 in
theorem tf_53 {S0 : List Nat} {w0 w : World} {m a r : Nat} {rs : List Res} {s : Rn} (H : RunHas S0 w0 m a r rs s w) (hop : s.f.op = 5) (hl : s.f.line = 3) (hn : I64 s.n) (ha : 0 ≤ s.f.a ∧ s.f.a < 4294967296) (hc : s.notes.length ≤ 900) :
    Calls Try.prog 37 #[.pointer (some ⟨r, 0, none⟩)] w fun e w' => e = .returned (.tuple #[]) ∧ RunHas S0 w0 m a r rs (tf53 s) w' := by
  obtain ⟨z0, z2, z4, z5, z6, z7⟩ := H.facts hop hl rfl rfl
  have HC := Lib.hid hc
  have HA := Lib.hid ha
  have HN := Lib.hid hn
  have HH := Lib.hid (H.box rfl #[.int .u32 s.f.a] 23)
  clear hc H hn ha
  unfold tf53
  go_enter Try.func37, Try.ntmps37
  go_wp2_with fail
  go_quiet (fail)
  have HW := HH.out.drewN nq
  clear z0 z2 z4 z5 z6 z7
  generalize w.heap.size = tb at HW ⊢
  generalize (World.drewN _ nq) = W at HW ⊢
  obtain ⟨z0, z2, z4, z5, z6, z7⟩ := HW.facts hop hl rfl rfl
  go_wp2_with fail
  refine (tf_enter HW hop hl HC.out 4).mono ?_
  rintro e w1 ⟨rfl, H1⟩
  go_wp2_with fail
  go_end0
  exact ⟨rfl, H1.unbox⟩

def tf80 (s : Rn) : Rn :=
  tfEnter s 10

set_option maxHeartbeats 800000 in
theorem tf_80 {S0 : List Nat} {w0 w : World} {m a r : Nat} {rs : List Res} {s : Rn} (H : RunHas S0 w0 m a r rs s w) (hop : s.f.op = 8) (hl : s.f.line = 0) (hn : I64 s.n) (ha : 0 ≤ s.f.a ∧ s.f.a < 4294967296) (hc : s.notes.length ≤ 900) :
    Calls Try.prog 37 #[.pointer (some ⟨r, 0, none⟩)] w fun e w' => e = .returned (.tuple #[]) ∧ RunHas S0 w0 m a r rs (tf80 s) w' := by
  obtain ⟨z0, z2, z4, z5, z6, z7⟩ := H.facts hop hl rfl rfl
  have HC := Lib.hid hc
  have HA := Lib.hid ha
  have HN := Lib.hid hn
  have HH := Lib.hid (H.box rfl #[.int .u32 s.f.a] 23)
  clear hc H hn ha
  unfold tf80
  go_enter Try.func37, Try.ntmps37
  go_wp2_with fail
  go_quiet (fail)
  have HW := HH.out.drewN nq
  clear z0 z2 z4 z5 z6 z7
  generalize w.heap.size = tb at HW ⊢
  generalize (World.drewN _ nq) = W at HW ⊢
  obtain ⟨z0, z2, z4, z5, z6, z7⟩ := HW.facts hop hl rfl rfl
  go_wp2_with fail
  refine (tf_enter HW hop hl HC.out 10).mono ?_
  rintro e w1 ⟨rfl, H1⟩
  go_wp2_with fail
  go_end0
  exact ⟨rfl, H1.unbox⟩

def tf20 (s : Rn) : Rn :=
  (((s.did (doA s.L ⟨3, 2, 1, 0, 0⟩)).note 6 0).wake 2).fin true

set_option maxHeartbeats 800000 in
theorem tf_20 {S0 : List Nat} {w0 w : World} {m a r : Nat} {rs : List Res} {s : Rn} (H : RunHas S0 w0 m a r rs s w) (hop : s.f.op = 2) (hl : s.f.line = 0) (hn : I64 s.n) (ha : 0 ≤ s.f.a ∧ s.f.a < 4294967296) (hc : s.notes.length ≤ 900) :
    Calls Try.prog 37 #[.pointer (some ⟨r, 0, none⟩)] w fun e w' => e = .returned (.tuple #[]) ∧ RunHas S0 w0 m a r rs (tf20 s) w' := by
  obtain ⟨z0, z2, z4, z5, z6, z7⟩ := H.facts hop hl rfl rfl
  have HC := Lib.hid hc
  have HA := Lib.hid ha
  have HN := Lib.hid hn
  have HH := Lib.hid (H.box rfl #[.int .u32 s.f.a] 23)
  clear hc H hn ha
  unfold tf20
  go_enter Try.func37, Try.ntmps37
  go_wp2_with fail
  go_quiet (fail)
  have HW := HH.out.drewN nq
  clear z0 z2 z4 z5 z6 z7
  generalize w.heap.size = tb at HW ⊢
  generalize (World.drewN _ nq) = W at HW ⊢
  obtain ⟨z0, z2, z4, z5, z6, z7⟩ := HW.facts hop hl rfl rfl
  go_wp2_with fail
  refine (rn_add HW 2 1 (by decide)).mono ?_
  rintro e w1 ⟨rfl, H1⟩
  go_wp2_with fail
  refine (run_note H1 (by have := HC.out; first | exact Nat.le_trans this (by decide) | (simp [Rn.note, Rn.did, Rn.setA, Rn.setB, Rn.waited, Rn.goto, Rn.noted]; omega)) 6 0).mono ?_
  rintro e w2 ⟨rfl, H2⟩
  go_wp2_with fail
  refine (rn_wake H2 2).mono ?_
  rintro e w3 ⟨rfl, H3⟩
  go_wp2_with fail
  refine (rn_end H3 true).mono ?_
  rintro e w4 ⟨rfl, H4⟩
  go_wp2_with fail
  go_end0
  exact ⟨rfl, H4.unbox⟩

def tf40 (s : Rn) : Rn :=
  (((s.did (doA s.L ⟨3, 1, 1, 0, 0⟩)).note 7 0).wake 1).goto 1

set_option maxHeartbeats 800000 in
theorem tf_40 {S0 : List Nat} {w0 w : World} {m a r : Nat} {rs : List Res} {s : Rn} (H : RunHas S0 w0 m a r rs s w) (hop : s.f.op = 4) (hl : s.f.line = 0) (hn : I64 s.n) (ha : 0 ≤ s.f.a ∧ s.f.a < 4294967296) (hc : s.notes.length ≤ 900) :
    Calls Try.prog 37 #[.pointer (some ⟨r, 0, none⟩)] w fun e w' => e = .returned (.tuple #[]) ∧ RunHas S0 w0 m a r rs (tf40 s) w' := by
  obtain ⟨z0, z2, z4, z5, z6, z7⟩ := H.facts hop hl rfl rfl
  have HC := Lib.hid hc
  have HA := Lib.hid ha
  have HN := Lib.hid hn
  have HH := Lib.hid (H.box rfl #[.int .u32 s.f.a] 23)
  clear hc H hn ha
  unfold tf40
  go_enter Try.func37, Try.ntmps37
  go_wp2_with fail
  go_quiet (fail)
  have HW := HH.out.drewN nq
  clear z0 z2 z4 z5 z6 z7
  generalize w.heap.size = tb at HW ⊢
  generalize (World.drewN _ nq) = W at HW ⊢
  obtain ⟨z0, z2, z4, z5, z6, z7⟩ := HW.facts hop hl rfl rfl
  go_wp2_with fail
  refine (rn_add HW 1 1 (by decide)).mono ?_
  rintro e w1 ⟨rfl, H1⟩
  go_wp2_with fail
  refine (run_note H1 (by have := HC.out; first | exact Nat.le_trans this (by decide) | (simp [Rn.note, Rn.did, Rn.setA, Rn.setB, Rn.waited, Rn.goto, Rn.noted]; omega)) 7 0).mono ?_
  rintro e w2 ⟨rfl, H2⟩
  go_wp2_with fail
  refine (rn_wake H2 1).mono ?_
  rintro e w3 ⟨rfl, H3⟩
  go_wp2_with fail
  refine (rn_go H3 1).mono ?_
  rintro e w4 ⟨rfl, H4⟩
  go_wp2_with fail
  go_end0
  exact ⟨rfl, H4.unbox⟩

def tf41 (s : Rn) : Rn :=
  (((s.did (doA s.L ⟨3, 2, 1, 0, 0⟩)).note 8 0).wake 2).fin true

set_option maxHeartbeats 800000 in
theorem tf_41 {S0 : List Nat} {w0 w : World} {m a r : Nat} {rs : List Res} {s : Rn} (H : RunHas S0 w0 m a r rs s w) (hop : s.f.op = 4) (hl : s.f.line = 1) (hn : I64 s.n) (ha : 0 ≤ s.f.a ∧ s.f.a < 4294967296) (hc : s.notes.length ≤ 900) :
    Calls Try.prog 37 #[.pointer (some ⟨r, 0, none⟩)] w fun e w' => e = .returned (.tuple #[]) ∧ RunHas S0 w0 m a r rs (tf41 s) w' := by
  obtain ⟨z0, z2, z4, z5, z6, z7⟩ := H.facts hop hl rfl rfl
  have HC := Lib.hid hc
  have HA := Lib.hid ha
  have HN := Lib.hid hn
  have HH := Lib.hid (H.box rfl #[.int .u32 s.f.a] 23)
  clear hc H hn ha
  unfold tf41
  go_enter Try.func37, Try.ntmps37
  go_wp2_with fail
  go_quiet (fail)
  have HW := HH.out.drewN nq
  clear z0 z2 z4 z5 z6 z7
  generalize w.heap.size = tb at HW ⊢
  generalize (World.drewN _ nq) = W at HW ⊢
  obtain ⟨z0, z2, z4, z5, z6, z7⟩ := HW.facts hop hl rfl rfl
  go_wp2_with fail
  refine (rn_add HW 2 1 (by decide)).mono ?_
  rintro e w1 ⟨rfl, H1⟩
  go_wp2_with fail
  refine (run_note H1 (by have := HC.out; first | exact Nat.le_trans this (by decide) | (simp [Rn.note, Rn.did, Rn.setA, Rn.setB, Rn.waited, Rn.goto, Rn.noted]; omega)) 8 0).mono ?_
  rintro e w2 ⟨rfl, H2⟩
  go_wp2_with fail
  refine (rn_wake H2 2).mono ?_
  rintro e w3 ⟨rfl, H3⟩
  go_wp2_with fail
  refine (rn_end H3 true).mono ?_
  rintro e w4 ⟨rfl, H4⟩
  go_wp2_with fail
  go_end0
  exact ⟨rfl, H4.unbox⟩

def tf11 (s : Rn) : Rn :=
  let s1 := s.waited (waitA s.L s.n s.mode s.task s.f.st 1 (fun v => v == s.f.a))
  if (waitA s.L s.n s.mode s.task s.f.st 1 (fun v => v == s.f.a)).done then s1.goto 2 else s1

set_option maxHeartbeats 800000 in
theorem tf_11 {S0 : List Nat} {w0 w : World} {m a r : Nat} {rs : List Res} {s : Rn} (H : RunHas S0 w0 m a r rs s w) (hop : s.f.op = 1) (hl : s.f.line = 1) (hn : I64 s.n) (ha : 0 ≤ s.f.a ∧ s.f.a < 4294967296) (hc : s.notes.length ≤ 900) :
    Calls Try.prog 37 #[.pointer (some ⟨r, 0, none⟩)] w fun e w' => e = .returned (.tuple #[]) ∧ RunHas S0 w0 m a r rs (tf11 s) w' := by
  obtain ⟨z0, z2, z4, z5, z6, z7⟩ := H.facts hop hl rfl rfl
  have HC := Lib.hid hc
  have HA := Lib.hid ha
  have HN := Lib.hid hn
  have HH := Lib.hid (H.box rfl #[.int .u32 s.f.a] 23)
  clear hc H hn ha
  unfold tf11
  have hwt := fun (tb : Nat) W (H : RunHas S0 w0 m a r (.blk tb #[.int .u32 s.f.a] :: rs) s W) => rn_wait H HN.out 1 94 #[] #[.pointer (some ⟨tb, 0, none⟩)] (fun v => v == s.f.a) (enters_of Try.func94 (by kernel_rfl) rfl) (fun W v _ _ H => tf_mine s.f.a v W H.first)
  cases hs : (waitA s.L s.n s.mode s.task s.f.st 1 (fun v => v == s.f.a)).seen <;> cases hd : (waitA s.L s.n s.mode s.task s.f.st 1 (fun v => v == s.f.a)).done <;> rw [hs, hd] at hwt <;> simp only [if_true, Bool.false_eq_true, if_false] <;> (have HWT := Lib.hid hwt) <;> clear hwt hs hd
  · go_enter Try.func37, Try.ntmps37
    go_wp2_with fail
    go_quiet (fail)
    have HW := HH.out.drewN nq
    clear z0 z2 z4 z5 z6 z7
    generalize w.heap.size = tb at HW ⊢
    generalize (World.drewN _ nq) = W at HW ⊢
    obtain ⟨z0, z2, z4, z5, z6, z7⟩ := HW.facts hop hl rfl rfl
    go_wp2_with fail
    refine (HWT.out _ _ HW).mono ?_
    rintro e w1 ⟨rfl, H1⟩
    go_wp2_with fail
    go_end0
    exact ⟨rfl, H1.unbox⟩
  · go_enter Try.func37, Try.ntmps37
    go_wp2_with fail
    go_quiet (fail)
    have HW := HH.out.drewN nq
    clear z0 z2 z4 z5 z6 z7
    generalize w.heap.size = tb at HW ⊢
    generalize (World.drewN _ nq) = W at HW ⊢
    obtain ⟨z0, z2, z4, z5, z6, z7⟩ := HW.facts hop hl rfl rfl
    go_wp2_with fail
    refine (HWT.out _ _ HW).mono ?_
    rintro e w1 ⟨rfl, H1⟩
    go_wp2_with fail
    refine (rn_go H1 2).mono ?_
    rintro e w2 ⟨rfl, H2⟩
    go_wp2_with fail
    go_end0
    exact ⟨rfl, H2.unbox⟩
  · go_enter Try.func37, Try.ntmps37
    go_wp2_with fail
    go_quiet (fail)
    have HW := HH.out.drewN nq
    clear z0 z2 z4 z5 z6 z7
    generalize w.heap.size = tb at HW ⊢
    generalize (World.drewN _ nq) = W at HW ⊢
    obtain ⟨z0, z2, z4, z5, z6, z7⟩ := HW.facts hop hl rfl rfl
    go_wp2_with fail
    refine (HWT.out _ _ HW).mono ?_
    rintro e w1 ⟨rfl, H1⟩
    go_wp2_with fail
    go_end0
    exact ⟨rfl, H1.unbox⟩
  · go_enter Try.func37, Try.ntmps37
    go_wp2_with fail
    go_quiet (fail)
    have HW := HH.out.drewN nq
    clear z0 z2 z4 z5 z6 z7
    generalize w.heap.size = tb at HW ⊢
    generalize (World.drewN _ nq) = W at HW ⊢
    obtain ⟨z0, z2, z4, z5, z6, z7⟩ := HW.facts hop hl rfl rfl
    go_wp2_with fail
    refine (HWT.out _ _ HW).mono ?_
    rintro e w1 ⟨rfl, H1⟩
    go_wp2_with fail
    refine (rn_go H1 2).mono ?_
    rintro e w2 ⟨rfl, H2⟩
    go_wp2_with fail
    go_end0
    exact ⟨rfl, H2.unbox⟩

def tf31 (s : Rn) : Rn :=
  let s1 := s.waited (waitA s.L s.n s.mode s.task s.f.st 2 (fun v => v == s.f.a))
  let s2 := if (waitA s.L s.n s.mode s.task s.f.st 2 (fun v => v == s.f.a)).seen then s1.note 4 0 else s1
  if (waitA s.L s.n s.mode s.task s.f.st 2 (fun v => v == s.f.a)).done then s2.fin true else s2

set_option maxHeartbeats 800000 in
theorem tf_31 {S0 : List Nat} {w0 w : World} {m a r : Nat} {rs : List Res} {s : Rn} (H : RunHas S0 w0 m a r rs s w) (hop : s.f.op = 3) (hl : s.f.line = 1) (hn : I64 s.n) (ha : 0 ≤ s.f.a ∧ s.f.a < 4294967296) (hc : s.notes.length ≤ 900) :
    Calls Try.prog 37 #[.pointer (some ⟨r, 0, none⟩)] w fun e w' => e = .returned (.tuple #[]) ∧ RunHas S0 w0 m a r rs (tf31 s) w' := by
  obtain ⟨z0, z2, z4, z5, z6, z7⟩ := H.facts hop hl rfl rfl
  have HC := Lib.hid hc
  have HA := Lib.hid ha
  have HN := Lib.hid hn
  have HH := Lib.hid (H.box rfl #[.int .u32 s.f.a] 23)
  clear hc H hn ha
  unfold tf31
  have hwt := fun (tb : Nat) W (H : RunHas S0 w0 m a r (.blk tb #[.int .u32 s.f.a] :: rs) s W) => rn_wait H HN.out 2 94 #[] #[.pointer (some ⟨tb, 0, none⟩)] (fun v => v == s.f.a) (enters_of Try.func94 (by kernel_rfl) rfl) (fun W v _ _ H => tf_mine s.f.a v W H.first)
  cases hs : (waitA s.L s.n s.mode s.task s.f.st 2 (fun v => v == s.f.a)).seen <;> cases hd : (waitA s.L s.n s.mode s.task s.f.st 2 (fun v => v == s.f.a)).done <;> rw [hs, hd] at hwt <;> simp only [if_true, Bool.false_eq_true, if_false] <;> (have HWT := Lib.hid hwt) <;> clear hwt hs hd
  · go_enter Try.func37, Try.ntmps37
    go_wp2_with fail
    go_quiet (fail)
    have HW := HH.out.drewN nq
    clear z0 z2 z4 z5 z6 z7
    generalize w.heap.size = tb at HW ⊢
    generalize (World.drewN _ nq) = W at HW ⊢
    obtain ⟨z0, z2, z4, z5, z6, z7⟩ := HW.facts hop hl rfl rfl
    go_wp2_with fail
    refine (HWT.out _ _ HW).mono ?_
    rintro e w1 ⟨rfl, H1⟩
    go_wp2_with fail
    go_end0
    exact ⟨rfl, H1.unbox⟩
  · go_enter Try.func37, Try.ntmps37
    go_wp2_with fail
    go_quiet (fail)
    have HW := HH.out.drewN nq
    clear z0 z2 z4 z5 z6 z7
    generalize w.heap.size = tb at HW ⊢
    generalize (World.drewN _ nq) = W at HW ⊢
    obtain ⟨z0, z2, z4, z5, z6, z7⟩ := HW.facts hop hl rfl rfl
    go_wp2_with fail
    refine (HWT.out _ _ HW).mono ?_
    rintro e w1 ⟨rfl, H1⟩
    go_wp2_with fail
    refine (rn_end H1 true).mono ?_
    rintro e w2 ⟨rfl, H2⟩
    go_wp2_with fail
    go_end0
    exact ⟨rfl, H2.unbox⟩
  · go_enter Try.func37, Try.ntmps37
    go_wp2_with fail
    go_quiet (fail)
    have HW := HH.out.drewN nq
    clear z0 z2 z4 z5 z6 z7
    generalize w.heap.size = tb at HW ⊢
    generalize (World.drewN _ nq) = W at HW ⊢
    obtain ⟨z0, z2, z4, z5, z6, z7⟩ := HW.facts hop hl rfl rfl
    go_wp2_with fail
    refine (HWT.out _ _ HW).mono ?_
    rintro e w1 ⟨rfl, H1⟩
    go_wp2_with fail
    refine (run_note H1 (by have := HC.out; first | exact Nat.le_trans this (by decide) | (simp [Rn.note, Rn.did, Rn.setA, Rn.setB, Rn.waited, Rn.goto, Rn.noted]; omega)) 4 0).mono ?_
    rintro e w2 ⟨rfl, H2⟩
    go_wp2_with fail
    go_end0
    exact ⟨rfl, H2.unbox⟩
  · go_enter Try.func37, Try.ntmps37
    go_wp2_with fail
    go_quiet (fail)
    have HW := HH.out.drewN nq
    clear z0 z2 z4 z5 z6 z7
    generalize w.heap.size = tb at HW ⊢
    generalize (World.drewN _ nq) = W at HW ⊢
    obtain ⟨z0, z2, z4, z5, z6, z7⟩ := HW.facts hop hl rfl rfl
    go_wp2_with fail
    refine (HWT.out _ _ HW).mono ?_
    rintro e w1 ⟨rfl, H1⟩
    go_wp2_with fail
    refine (run_note H1 (by have := HC.out; first | exact Nat.le_trans this (by decide) | (simp [Rn.note, Rn.did, Rn.setA, Rn.setB, Rn.waited, Rn.goto, Rn.noted]; omega)) 4 0).mono ?_
    rintro e w2 ⟨rfl, H2⟩
    go_wp2_with fail
    refine (rn_end H2 true).mono ?_
    rintro e w3 ⟨rfl, H3⟩
    go_wp2_with fail
    go_end0
    exact ⟨rfl, H3.unbox⟩

end Go.Proofs.Ytlndihdlodempaa.Z
