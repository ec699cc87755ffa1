/- 6 texts of this claim, joined: what each shows stands at its own head. -/
import Derived.Test.YtlndihdlodempaaZBase
import Derived.Test.YtlndihdlodempaaZXRun7
import Derived.Test.YtlndihdlodempaaZSameN
import Derived.Test.YtlndihdlodempaaZFlat6
import Derived.Test.YtlndihdlodempaaZRun7
import Derived.Test.YtlndihdlodempaaZFlat3
import Derived.Deep.RegionHeld3
import Derived.Deep.DrawnRows
/- Fields of words: what the bit operations come to, in whole numbers. No program is in sight. -/
set_option linter.unusedVariables false
set_option linter.unusedSimpArgs false
namespace Go.Proofs.Ytlndihdlodempaa.ZB
open Go.RowKit

theorem pow_pos (n : Nat) : 0 < 2 ^ n := Nat.pow_pos (by decide)

theorem two_pow_le {a b : Nat} (h : a ≤ b) : 2 ^ a ≤ 2 ^ b := Nat.pow_le_pow_right (by decide) h

theorem and_mask (v s w : Nat) : v &&& ((2 ^ w - 1) * 2 ^ s) = (v / 2 ^ s % 2 ^ w) * 2 ^ s := by
  rw [← Nat.shiftLeft_eq, ← Nat.shiftLeft_eq, ← Nat.shiftRight_eq_div_pow]
  apply Nat.eq_of_testBit_eq
  intro i
  simp only [Nat.testBit_and, Nat.testBit_shiftLeft, Nat.testBit_two_pow_sub_one, Nat.testBit_mod_two_pow, Nat.testBit_shiftRight]
  by_cases h : i ≥ s
  · have e : s + (i - s) = i := by omega
    simp only [h, decide_true, Bool.true_and, e]
    exact Bool.and_comm _ _
  · simp [h]

theorem ofInt_nat (k n : Nat) : BitVec.ofInt k (n : Int) = BitVec.ofNat k n := by simp

theorem bits_and (a b : Nat) (ha : a < 4294967296) (hb : b < 4294967296) : Go.bits .and .u32 (a : Int) (b : Int) = ((a &&& b : Nat) : Int) := by
  unfold Go.bits
  simp only [ofInt_nat, BitVec.toNat_and, BitVec.toNat_ofNat]
  rw [Nat.mod_eq_of_lt (by simpa [IntKind.bits] using ha), Nat.mod_eq_of_lt (by simpa [IntKind.bits] using hb)]
  rw [IntKind.wrap_u32]
  have : a &&& b ≤ a := Nat.and_le_left
  omega

theorem and_split (v m : BitVec 32) : v.toNat = (v &&& m).toNat + (v &&& ~~~m).toNat := by
  have hz : (v &&& m) &&& (v &&& ~~~m) = 0#32 := by ext i; simp only [BitVec.getElem_and, BitVec.getElem_or, BitVec.getElem_not, BitVec.getElem_zero]; cases v[i] <;> cases m[i] <;> rfl
  have hor : (v &&& m) ||| (v &&& ~~~m) = v := by ext i; simp only [BitVec.getElem_and, BitVec.getElem_or, BitVec.getElem_not, BitVec.getElem_zero]; cases v[i] <;> cases m[i] <;> rfl
  have := BitVec.add_eq_or_of_and_eq_zero _ _ hz
  rw [hor] at this
  have h2 := congrArg BitVec.toNat this
  rw [BitVec.toNat_add] at h2
  have h3 : (v &&& ~~~m).toNat ≤ (~~~m).toNat := by rw [BitVec.toNat_and]; exact Nat.and_le_right
  have h4 : (v &&& m).toNat ≤ m.toNat := by rw [BitVec.toNat_and]; exact Nat.and_le_right
  rw [BitVec.toNat_not] at h3
  have := m.isLt
  rw [Nat.mod_eq_of_lt (by omega)] at h2
  exact h2.symm

theorem put_split (v x m : BitVec 32) : ((v &&& ~~~m) ||| (x &&& m)).toNat = (v &&& ~~~m).toNat + (x &&& m).toNat := by
  have hz : (v &&& ~~~m) &&& (x &&& m) = 0#32 := by ext i; simp only [BitVec.getElem_and, BitVec.getElem_not, BitVec.getElem_zero]; cases v[i] <;> cases x[i] <;> cases m[i] <;> rfl
  have := BitVec.add_eq_or_of_and_eq_zero _ _ hz
  rw [← this, BitVec.toNat_add]
  have h3 : (v &&& ~~~m).toNat ≤ (~~~m).toNat := by rw [BitVec.toNat_and]; exact Nat.and_le_right
  have h4 : (x &&& m).toNat ≤ m.toNat := by rw [BitVec.toNat_and]; exact Nat.and_le_right
  rw [BitVec.toNat_not] at h3
  have := m.isLt
  rw [Nat.mod_eq_of_lt (by omega)]

theorem bits_or (a b : Nat) (ha : a < 4294967296) (hb : b < 4294967296) : Go.bits .or .u32 (a : Int) (b : Int) = ((BitVec.ofNat 32 a ||| BitVec.ofNat 32 b).toNat : Int) := by
  show (IntKind.u32.wrap ((BitVec.ofInt 32 (a : Int) ||| BitVec.ofInt 32 (b : Int)).toNat : Int)) = _
  rw [ofInt_nat, ofInt_nat, IntKind.wrap_u32]
  have := (BitVec.ofNat 32 a ||| BitVec.ofNat 32 b).isLt
  omega

theorem bits_andNot (a b : Nat) : Go.bits .andNot .u32 (a : Int) (b : Int) = ((BitVec.ofNat 32 a &&& ~~~ (BitVec.ofNat 32 b)).toNat : Int) := by
  show (IntKind.u32.wrap ((BitVec.ofInt 32 (a : Int) &&& ~~~ (BitVec.ofInt 32 (b : Int))).toNat : Int)) = _
  rw [ofInt_nat, ofInt_nat, IntKind.wrap_u32]
  have := (BitVec.ofNat 32 a &&& ~~~ (BitVec.ofNat 32 b)).isLt
  omega

theorem nat32 (a : Nat) (ha : a < 4294967296) : (BitVec.ofNat 32 a).toNat = a := by
  rw [BitVec.toNat_ofNat]; exact Nat.mod_eq_of_lt (by omega)

theorem bits_put (v x m : Nat) (hv : v < 4294967296) (hx : x < 4294967296) (hm : m < 4294967296) :
    Go.bits .or .u32 (Go.bits .andNot .u32 (v : Int) (m : Int)) (Go.bits .and .u32 (x : Int) (m : Int)) = (v : Int) - ((v &&& m : Nat) : Int) + ((x &&& m : Nat) : Int) := by
  rw [bits_and x m hx hm, bits_andNot]
  have e1 := and_split (BitVec.ofNat 32 v) (BitVec.ofNat 32 m)
  have e2 := put_split (BitVec.ofNat 32 v) (BitVec.ofNat 32 x) (BitVec.ofNat 32 m)
  have ex : (BitVec.ofNat 32 x &&& BitVec.ofNat 32 m).toNat = x &&& m := by rw [BitVec.toNat_and, nat32 x hx, nat32 m hm]
  have ev : (BitVec.ofNat 32 v &&& BitVec.ofNat 32 m).toNat = v &&& m := by rw [BitVec.toNat_and, nat32 v hv, nat32 m hm]
  have e5 : BitVec.ofNat 32 (x &&& m) = (BitVec.ofNat 32 x &&& BitVec.ofNat 32 m) := by
    apply BitVec.eq_of_toNat_eq
    rw [ex, nat32]
    have : x &&& m ≤ x := Nat.and_le_left
    omega
  have hl : x &&& m < 4294967296 := by
    have : x &&& m ≤ x := Nat.and_le_left
    omega
  generalize hA : (BitVec.ofNat 32 v &&& ~~~ (BitVec.ofNat 32 m)) = A at e1 e2 ⊢
  have hlt := A.isLt
  rw [bits_or _ _ (by omega) hl, e5, show BitVec.ofNat 32 A.toNat = A from by simp, e2, ex]
  rw [ev, nat32 v hv] at e1
  omega

end Go.Proofs.Ytlndihdlodempaa.ZB

/- The document's run: a box more; what a wait looks at. -/
set_option linter.unusedVariables false
set_option linter.unusedSimpArgs false
namespace Go.Proofs.Ytlndihdlodempaa.Z
open Go.RowKit

/-- A box more. -/
theorem XHas.box {S0 : List Nat} {w0 w : World} {p : Option Addr} {g cap x : Nat} {rs : List Res} {s : Rn} (H : XHas S0 w0 p g cap x rs s w) {b : Nat} (hb : w.heap.size = b) (cs : Array Value) (T : TypeId) : XHas S0 w0 p g cap x (.blk b cs :: rs) s (w.alloc (.cells cs T)) := by
  obtain ⟨nv, H⟩ := H
  exact ⟨nv, (H.new hb cs T).perm (perm_past3 (Res.row p g cap s.L) (Res.blk x (xcells p cap s nv)) (Res.own 98 4 nv s.notes.length (nts s.notes)) [Res.blk b cs] rs)⟩
theorem XHas.unbox {S0 : List Nat} {w0 w : World} {p : Option Addr} {g cap x : Nat} {y : Res} {rs : List Res} {s : Rn} (H : XHas S0 w0 p g cap x (y :: rs) s w) : XHas S0 w0 p g cap x rs s w := by
  obtain ⟨nv, H⟩ := H
  exact ⟨nv, H.cut31⟩
theorem XHas.first {S0 : List Nat} {w0 w : World} {p : Option Addr} {g cap x b : Nat} {cs : Array Value} {rs : List Res} {s : Rn} (H : XHas S0 w0 p g cap x (.blk b cs :: rs) s w) : Blk w b cs := by
  obtain ⟨nv, H⟩ := H
  exact H.at_ 3 rfl

theorem untilA_all {v : Int} (a : Int) (h : 0 ≤ v ∧ v < 4294967296) : untilA 0 4294967295 a v = (v == a) := by
  obtain ⟨n, rfl⟩ : ∃ n : Nat, v = n := ⟨v.toNat, by omega⟩
  show (bits .and .u32 (n : Int) 4294967295 == a) = _
  have h1 := ZB.bits_and n 4294967295 (by omega) (by decide)
  have h2 : n &&& 4294967295 = n := by
    rw [show (4294967295 : Nat) = 2 ^ 32 - 1 from rfl, Nat.and_two_pow_sub_one_eq_mod]
    omega
  rw [h2] at h1
  rw [show ((4294967295 : Nat) : Int) = 4294967295 from rfl] at h1
  rw [h1]
theorem untilA_some {v : Int} (a : Int) (h : 0 ≤ v ∧ v < 4294967296) : untilA 1 4294967295 a v = (v != a) := by
  have h1 := untilA_all a h
  unfold untilA at h1 ⊢
  simp only [if_true] at h1
  simp only [show ¬ ((1 : Int) = 0) from by decide, if_false, if_true]
  unfold bne
  rw [h1]
/-- A wait looks at a word: what else is so elsewhere doesn't matter. -/
theorem waitA_like {L : List Int} {n mode task st c : Int} {p q : Int → Bool} (hw : Words L) (h : ∀ v, 0 ≤ v ∧ v < 4294967296 → p v = q v) : waitA L n mode task st c p = waitA L n mode task st c q := by
  have h1 := fun b => h _ (doA_old L hw b)
  unfold waitA
  simp only [h1]
theorem XHas.words_ {S0 : List Nat} {w0 w : World} {p : Option Addr} {g cap x : Nat} {rs : List Res} {s : Rn} (H : XHas S0 w0 p g cap x rs s w) : Words s.L := by
  obtain ⟨nv, H⟩ := H
  exact H.row.words
theorem XHas.back_ {S0 : List Nat} {w0 w : World} {p : Option Addr} {g cap x : Nat} {rs : List Res} {s : Rn} {R : Acc × Bool × List Int} {k l : Int} (H : XHas S0 w0 p g cap x rs ((s.goto k).did R) w) (h : s.f.line = l) : XHas S0 w0 p g cap x rs (s.did R) (w.setCell ⟨x, 5, none⟩ (.int .i64 l)) := by
  have e : ((s.goto k).did R).goto l = s.did R := by
    obtain ⟨n, mode, task, ⟨op, line, fa, fb, st, wk, ret⟩, acc, notes, L⟩ := s
    simp only at h
    subst h
    rfl
  rw [← e]
  exact H.goto l

end Go.Proofs.Ytlndihdlodempaa.Z

/- What the Steps' last region keeps, and its calls. Written by gensteps.py. -/
set_option linter.unusedVariables false
set_option linter.unusedSimpArgs false
namespace Go.Proofs.Ytlndihdlodempaa.Z
open Go.RowKit

def stepStart (n mode task : Int) (f : Fr) (L : List Int) : Rn := ⟨n, mode, task, f, Acc.zero, [], L⟩

/-- What the last region keeps. -/
def RSKeep (w : World) (m a r : Nat) (p : Option Addr) (g cap x : Nat) (s : Rn) (nv nx : Value) (w' : World) : Prop :=
  Has [] w w' (.row p g cap s.L :: .blk x (xcells p cap s nx) :: .own 98 4 nx s.notes.length (nts s.notes) :: .mem m a s.L :: .blk r (rcells m s nv) :: .own 98 4 nv s.notes.length (nts s.notes) :: [])
section
variable {w : World} {m a r : Nat} {p : Option Addr} {g cap x : Nat} {s : Rn} {nv nx : Value} {w' : World}
theorem rskeep (h : RSKeep w m a r p g cap x s nv nx w') : (r < w'.heap.size ∧ (∀ i, w'.cell? ⟨r, i, none⟩ = (rcells m s nv)[i]?)) ∧ (x < w'.heap.size ∧ (∀ i, w'.cell? ⟨x, i, none⟩ = (xcells p cap s nx)[i]?)) :=
  ⟨⟨(Has.at_ h 4 rfl).lt, (Has.at_ h 4 rfl).cell⟩, (Has.at_ h 1 rfl).lt, (Has.at_ h 1 rfl).cell⟩
theorem RSKeep.grow {w'' : World} (h : RSKeep w m a r p g cap x s nv nx w') (t : Touch [] w' w'') : RSKeep w m a r p g cap x s nv nx w'' := Has.grow h t
theorem RSKeep.drew (h : RSKeep w m a r p g cap x s nv nx w') : RSKeep w m a r p g cap x s nv nx w'.drew := Has.drew h
theorem rsover (h : RSKeep w m a r p g cap x s nv nx w') : Calls Try.prog 20 #[.pointer (some ⟨x, 0, none⟩)] w' fun e w'' => e = .returned (.bool s.over) ∧ RSKeep w m a r p g cap x s nv nx w'' :=
  (x_over h).mono fun e w'' k => ⟨k.1, k.2 ▸ h⟩
theorem rsnotes {pn qn : Option Addr} {c d : Nat} (h : RSKeep w m a r p g cap x s (.slice pn s.notes.length c) (.slice qn s.notes.length d) w') (hn : s.notes.length ≤ 1048576) : Calls Try.prog 22 #[.slice pn s.notes.length c, .slice qn s.notes.length d] w' fun e w'' => e = .returned (.bool true) ∧ RSKeep w m a r p g cap x s (.slice pn s.notes.length c) (.slice qn s.notes.length d) w'' :=
  (same_notes w' (Rd.own (Has.ownAt h 5 rfl)) (Rd.own (Has.ownAt h 2 rfl)) hn).mono fun e w'' k => ⟨k.1, Has.grow h k.2⟩
def RSAll (w : World) (m a r : Nat) (p : Option Addr) (g cap x : Nat) (s : Rn) (nv nx : Value) (w' : World) (e : Ending) (w'' : World) : Prop :=
  ∃ p' cap', e = .returned (.slice p' s.L.length cap') ∧ RSKeep w m a r p g cap x s nv nx w'' ∧ Rd w'' 1 p' s.L.length (u32s s.L) ∧ Touch [] w' w''
theorem rsall (h : RSKeep w m a r p g cap x s nv nx w') : Calls Try.prog 23 #[.pointer (some ⟨m, 0, none⟩)] w' (RSAll w m a r p g cap x s nv nx w') :=
  (all_mem (Has.mem (Has.front h 3 (by simp)))).mono fun e w'' ⟨p', cap', he, ho, t⟩ => ⟨p', cap', he, Has.grow h t, by
    obtain ⟨g', hR, _⟩ := Row.of_owns ho (Has.row h).words
    exact hR.rd, t⟩
theorem rssame (h : RSKeep w m a r p g cap x s nv nx w') {p' : Option Addr} {cap' : Nat} (hr : Rd w' 1 p' s.L.length (u32s s.L)) :
    Calls Try.prog 21 #[.slice p' s.L.length cap', .slice p s.L.length cap] w' fun e w'' => e = .returned (.bool true) ∧ RSKeep w m a r p g cap x s nv nx w'' := by
  have := same_any (c := cap') (d := cap) w' hr (Has.row h).rd (by have := (Has.row h).words.1; omega)
  simp only [decide_true] at this
  exact this.mono fun e w'' k => ⟨k.1, Has.grow h k.2⟩
end
theorem six {S0 : List Nat} {w0 w : World} {a b c d e f : Res} {rs : List Res} (h : Has S0 w0 w (a :: b :: c :: d :: e :: f :: rs)) : Has S0 w0 w (d :: e :: f :: a :: b :: c :: rs) :=
  ((h.front 5 (by simp)).front 5 (by simp)).front 5 (by simp)
theorem drop7 {S0 : List Nat} {w0 w : World} {a b c d e f g : Res} (h : Has S0 w0 w (a :: b :: c :: d :: e :: f :: g :: [])) : Has S0 w0 w (a :: b :: c :: d :: e :: f :: []) :=
  Has.tail (h.front 6 (by simp))
end Go.Proofs.Ytlndihdlodempaa.Z

/- Package rf: a line. Written by genrf.py. -/
set_option linter.unusedVariables false
set_option linter.unusedSimpArgs false
namespace Go.Proofs.Ytlndihdlodempaa.Z
open Go.RowKit

attribute [local go_sem ↓] Go.wp_at_zero Go.wp_at_succ

/-- Whether a writer is in. -/
def rfIn (v : Int) : Bool := bits .and .u32 v 65536 != 0
theorem rf_in (v : Int) (w : World) : Calls Try.prog 88 #[.int .u32 v] w fun e w' => e = .returned (.bool (rfIn v)) ∧ w = w' := by
  unfold rfIn
  go_enter Try.func88, Try.ntmps88
  go_wp2
  go_ret
  exact ⟨rfl, rfl⟩
theorem rf_notin (fid : FuncId) : True := trivial

/-- An operation's end. -/
def Rn.ends (s : Rn) (wake : Bool) (l : List Int) : Rn := (if wake then (s.noted l).wake 0 else s.noted l).fin true

set_option maxHeartbeats 800000 in
theorem rf_end {S0 : List Nat} {w0 w : World} {m a r g n c : Nat} {l : List Int} {rs : List Res} {s : Rn} (H : RunHas S0 w0 m a r (.blk g (i64s l).toArray :: rs) s w) (hn : l.length = n) (hc : s.notes.length + l.length ≤ 1000) (wake : Bool) :
    Calls Try.prog 89 #[.pointer (some ⟨r, 0, none⟩), .bool wake, .slice (some ⟨g, 0, none⟩) n c] w fun e w' => e = .returned (.tuple #[]) ∧ RunHas S0 w0 m a r (.blk g (i64s l).toArray :: rs) (s.ends wake l) w' := by
  subst hn
  have hll : l.length ≤ 1000 := by omega
  have HC := Lib.hid hc
  have HH := Lib.hid H
  clear hc H
  go_enter Try.func89, Try.ntmps89
  go_wp2_with fail
  go_loopw [10] (fun i wr => ∃ k : Nat, k ≤ l.length ∧ i = .int .i64 k ∧ RunHas S0 w0 m a r (.blk g (i64s l).toArray :: rs) (s.noted (l.take k)) wr) (fun i _ => l.length - (intOf i).toNat)
  case atStart => exact ⟨0, Nat.zero_le _, rfl, HH.out⟩
  case round =>
    obtain ⟨k, hk, rfl, hH⟩ := hrel
    have HK := Lib.hid hH
    clear hH
    by_cases hlt : k < l.length
    · obtain ⟨b, off, hb, hbl, hcell⟩ := i64s_at (rd_blk HK.out.first) hlt
      simp only [Option.some.injEq, Addr.mk.injEq] at hb
      obtain ⟨rfl, rfl, _⟩ := hb
      obtain ⟨x, hx⟩ : ∃ x, l.getD k 0 = x := ⟨_, rfl⟩
      rw [hx, Nat.zero_add] at hcell
      have HX := Lib.hid hx
      clear hx
      have hi : (k : Int) < (l.length : Int) := by omega
      go_wp2_with fail
      refine (run_note HK.out (by rw [noted_notes]; have := HC.out; simp only [List.length_take]; omega) x 0).mono ?_
      rintro e w1 ⟨rfl, H1⟩
      go_wp2
      go_roundw
      case rel => exact ⟨k + 1, by omega, by go_num, by rw [noted_succ s l k hlt, HX.out]; exact H1⟩
      case measure => simp [intOf]; omega
    · have hkn : k = l.length := by omega
      subst hkn
      have hi : (l.length : Int) ≤ (l.length : Int) := Int.le_refl _
      have H2 := HK.out
      rw [List.take_length] at H2
      clear HK hlt hk
      cases wake with
      | true =>
        go_wp2_with fail
        refine (rn_wake H2 0).mono ?_
        rintro e w1 ⟨rfl, H3⟩
        go_wp2_with fail
        refine (rn_end H3 true).mono ?_
        rintro e w2 ⟨rfl, H4⟩
        go_wp2_with fail
        go_end0
        exact ⟨rfl, H4⟩
      | false =>
        go_wp2_with fail
        refine (rn_end H2 true).mono ?_
        rintro e w2 ⟨rfl, H4⟩
        go_wp2_with fail
        go_end0
        exact ⟨rfl, H4⟩

/-- A try is refused. -/
def Rn.refused (s : Rn) : Rn := (s.note 5 0).fin false
theorem rf_refuse {S0 : List Nat} {w0 w : World} {m a r : Nat} {rs : List Res} {s : Rn} (H : RunHas S0 w0 m a r rs s w) (hc : s.notes.length ≤ 1000) :
    Calls Try.prog 172 #[.pointer (some ⟨r, 0, none⟩)] w fun e w' => e = .returned (.tuple #[]) ∧ RunHas S0 w0 m a r rs s.refused w' := by
  go_enter Try.func172, Try.ntmps172
  go_wp2_with fail
  refine (run_note H hc 5 0).mono ?_
  rintro e w1 ⟨rfl, H1⟩
  go_wp2_with fail
  refine (rn_end H1 false).mono ?_
  rintro e w2 ⟨rfl, H2⟩
  go_wp2_with fail
  go_end0
  exact ⟨rfl, H2⟩

theorem rf_is (x : Int) (w : World) :
    Calls Try.prog 91 #[.int .u32 x] w fun e w' => e = .returned (.func (.func 144) #[] #[.pointer (some ⟨w.heap.size, 0, none⟩)]) ∧ w.alloc (.cells #[.int .u32 x] 23) = w' := by
  go_enter Try.func91, Try.ntmps91
  go_wp2
  go_ret
  exact ⟨rfl, rfl⟩
theorem rf_is1 (x v : Int) {b : Nat} (w : World) (hb : Blk w b #[.int .u32 x]) :
    Calls Try.prog 144 #[.int .u32 v, .pointer (some ⟨b, 0, none⟩)] w fun e w' => e = .returned (.bool (v == x)) ∧ Touch [] w w' := by
  obtain ⟨x0, x1, x2⟩ := hb.own
  go_enter Try.func144, Try.ntmps144
  go_wp2
  go_ret
  exact ⟨rfl, Touch.refl _ _⟩
theorem rf_free (v : Int) (w : World) :
    Calls Try.prog 90 #[.int .u32 v] w fun e w' => e = .returned (.bool (!rfIn v)) ∧ Touch [] w w' := by
  go_enter Try.func90, Try.ntmps90
  go_wp2_with fail
  refine (rf_in v _).mono ?_
  rintro e w1 ⟨rfl, rfl⟩
  go_wp2
  go_ret
  exact ⟨rfl, Touch.refl _ _⟩
theorem rf_free' (v : Int) (w : World) :
    Calls Try.prog 146 #[.int .u32 v] w fun e w' => e = .returned (.bool (!rfIn v)) ∧ Touch [] w w' := by
  go_enter Try.func146, Try.ntmps146
  go_wp2_with fail
  refine (rf_in v _).mono ?_
  rintro e w1 ⟨rfl, rfl⟩
  go_wp2
  go_ret
  exact ⟨rfl, Touch.refl _ _⟩

/-- A try looks first. -/
def Rn.chosen (s : Rn) (p : Int → Bool) : Rn :=
  let R := doA s.L ⟨1, 0, 0, 0, 0⟩
  if p R.1.old then ((s.did R).setA R.1.old).goto 1 else ((s.did R).setA R.1.old).refused

set_option maxHeartbeats 800000 in
theorem rf_choose {S0 : List Nat} {w0 w : World} {m a r : Nat} {rs : List Res} {s : Rn} (H : RunHas S0 w0 m a r rs s w) (hc : s.notes.length ≤ 900) {o l : Int} (hop : s.f.op = o) (hl : s.f.line = l) (fid : FuncId) (first cap : Array Value) (p : Int → Bool) (eg : ∀ args w, (callFunc fid args).run Try.prog w = .ok (.enter fid args) w)
    (hF : ∀ W v s', RunHas S0 w0 m a r rs s' W → Calls Try.prog fid (first ++ #[.int .u32 v] ++ cap) W fun e W' => e = .returned (.bool (p v)) ∧ Touch [] W W') :
    Calls Try.prog 145 #[.pointer (some ⟨r, 0, none⟩), .func (.func fid) first cap] w fun e w' => e = .returned (.tuple #[]) ∧ RunHas S0 w0 m a r rs (s.chosen p) w' := by
  have HC := Lib.hid hc
  have HF := Lib.hid hF
  have HH := Lib.hid H
  clear hc H hF
  unfold Rn.chosen
  cases hb : p (doA s.L ⟨1, 0, 0, 0, 0⟩).1.old with
  | true =>
    simp only [if_true]
    go_enter Try.func145, Try.ntmps145
    go_wp2_with fail
    refine (rn_load HH.out 0).mono ?_
    rintro e w1 ⟨rfl, H1⟩
    obtain ⟨x0, x2, x4, x5, x6, x7⟩ := H1.facts hop hl rfl rfl
    go_wp2_with fail
    refine (HF.out _ _ _ (H1.setA _)).mono ?_
    rw [hb]
    rintro e w2 ⟨rfl, t2⟩
    have H2 := (H1.setA (doA s.L ⟨1, 0, 0, 0, 0⟩).1.old).grow t2
    go_wp2_with fail
    refine (rn_go H2 1).mono ?_
    rintro e w3 ⟨rfl, H3⟩
    go_wp2_with fail
    go_end0
    exact ⟨rfl, H3⟩
  | false =>
    simp only [Bool.false_eq_true, if_false]
    go_enter Try.func145, Try.ntmps145
    go_wp2_with fail
    refine (rn_load HH.out 0).mono ?_
    rintro e w1 ⟨rfl, H1⟩
    obtain ⟨x0, x2, x4, x5, x6, x7⟩ := H1.facts hop hl rfl rfl
    go_wp2_with fail
    refine (HF.out _ _ _ (H1.setA _)).mono ?_
    rw [hb]
    rintro e w2 ⟨rfl, t2⟩
    have H2 := (H1.setA (doA s.L ⟨1, 0, 0, 0, 0⟩).1.old).grow t2
    go_wp2_with fail
    refine (rf_refuse H2 (by have := HC.out; first | exact Nat.le_trans this (by decide) | (simp [Rn.note, Rn.did, Rn.setA, Rn.setB, Rn.waited, Rn.goto, Rn.noted]; omega))).mono ?_
    rintro e w3 ⟨rfl, H3⟩
    go_wp2_with fail
    all_goals refine bodyPost_ret (v := .tuple #[]) (by simp [results, Try.results145, go_sem]) rfl ⟨rfl, H3⟩

/-- A try ends, if the word is as it was. -/
def Rn.swapped (s : Rn) (x y : Int) (g : Rn → Rn) (note : Int) : Rn :=
  if casB s.L 0 x y then (g (s.did (doA s.L ⟨5, 0, x, y, 0⟩))).ends false [note] else (s.did (doA s.L ⟨5, 0, x, y, 0⟩)).goto 0

set_option maxHeartbeats 800000 in
theorem rf_swap {S0 : List Nat} {w0 w : World} {m a r : Nat} {rs : List Res} {s : Rn} (H : RunHas S0 w0 m a r rs s w) (hc : s.notes.length ≤ 900) (fid : FuncId) (cap : Array Value) (g : Rn → Rn) (hg : ∀ s, (g s).notes.length ≤ s.notes.length + 1) (eg : ∀ args w, (callFunc fid args).run Try.prog w = .ok (.enter fid args) w) (x y note : Int) (hx : 0 ≤ x ∧ x < 4294967296) (hy : 0 ≤ y ∧ y < 4294967296)
    (hF : ∀ W s', s'.notes = s.notes → RunHas S0 w0 m a r rs s' W → Calls Try.prog fid cap W fun e W' => e = .returned (.tuple #[]) ∧ RunHas S0 w0 m a r rs (g s') W') :
    Calls Try.prog 147 #[.pointer (some ⟨r, 0, none⟩), .int .u32 x, .int .u32 y, .func (.func fid) #[] cap, .int .i64 note] w fun e w' => e = .returned (.tuple #[]) ∧ RunHas S0 w0 m a r rs (s.swapped x y g note) w' := by
  have HC := Lib.hid hc
  have HF := Lib.hid hF
  have HH := Lib.hid H
  have HX := Lib.hid hx
  have HY := Lib.hid hy
  clear hc H hF hx hy
  unfold Rn.swapped
  have hcas := fun W (H : RunHas S0 w0 m a r rs s W) => rn_cas H 0 x y HX.out HY.out
  cases hb : casB s.L 0 x y with
  | true =>
    rw [hb] at hcas
    simp only [if_true]
    have HCAS := Lib.hid hcas
    clear hcas hb
    go_enter Try.func147, Try.ntmps147
    go_wp2_with fail
    refine (HCAS.out _ HH.out).mono ?_
    rintro e w1 ⟨rfl, H1⟩
    go_wp2_with fail
    refine (HF.out _ (s.did (doA s.L ⟨5, 0, x, y, 0⟩)) rfl H1).mono ?_
    rintro e w2 ⟨rfl, H2⟩
    go_wp2_with fail
    refine (rf_end (l := [note]) (H2.box rfl _ _) rfl (by have := hg (s.did (doA s.L ⟨5, 0, x, y, 0⟩)); have h2 := HC.out; have h3 : (s.did (doA s.L ⟨5, 0, x, y, 0⟩)).notes = s.notes := rfl; rw [h3] at this; simp only [List.length_cons, List.length_nil]; omega) false).mono ?_
    rintro e w3 ⟨rfl, H3⟩
    go_wp2_with fail
    go_end0
    exact ⟨rfl, H3.unbox⟩
  | false =>
    rw [hb] at hcas
    simp only [Bool.false_eq_true, if_false]
    have HCAS := Lib.hid hcas
    clear hcas hb
    go_enter Try.func147, Try.ntmps147
    go_wp2_with fail
    refine (HCAS.out _ HH.out).mono ?_
    rintro e w1 ⟨rfl, H1⟩
    go_wp2_with fail
    refine (rn_go H1 0).mono ?_
    rintro e w2 ⟨rfl, H2⟩
    go_wp2_with fail
    refine bodyPost_ret (v := .tuple #[]) (by simp [results, Try.results147, go_sem]) rfl ⟨rfl, H2⟩

end Go.Proofs.Ytlndihdlodempaa.Z

/- Package rf: its lines. Written by genrf2.py. -/
set_option linter.unusedVariables false
set_option linter.unusedSimpArgs false
namespace Go.Proofs.Ytlndihdlodempaa.Z
open Go.RowKit

attribute [local go_sem ↓] Go.wp_at_zero Go.wp_at_succ

def rf10 (s : Rn) : Rn :=
  let s1 := ((s.did (doA s.L ⟨3, 0, 1, 0, 0⟩)).setA (doA s.L ⟨3, 0, 1, 0, 0⟩).1.old).note 2 1
  if rfIn (doA s.L ⟨3, 0, 1, 0, 0⟩).1.old then s1.goto 1 else s1.ends false [4]

set_option maxHeartbeats 800000 in
theorem rf_10 {S0 : List Nat} {w0 w : World} {m a r : Nat} {rs : List Res} {s : Rn} (H : RunHas S0 w0 m a r rs s w) (hop : s.f.op = 1) (hl : s.f.line = 0) (hn : I64 s.n) (hc : s.notes.length ≤ 900) :
    Calls Try.prog 34 #[.pointer (some ⟨r, 0, none⟩)] w fun e w' => e = .returned (.tuple #[]) ∧ RunHas S0 w0 m a r rs (rf10 s) w' := by
  obtain ⟨z0, z2, z4, z5, z6, z7⟩ := H.facts hop hl rfl rfl
  have HC := Lib.hid hc
  have HH := Lib.hid H
  have HN := Lib.hid hn
  clear hc H hn
  unfold rf10
  cases hb : rfIn (doA s.L ⟨3, 0, 1, 0, 0⟩).1.old with
  | true =>
    simp only [if_true]
    go_enter Try.func34, Try.ntmps34
    go_wp2_with fail
    go_quiet (fail)
    have HW := HH.out.drewN nq
    clear z0 z2 z4 z5 z6 z7
    generalize w.drewN nq = W at HW ⊢
    obtain ⟨z0, z2, z4, z5, z6, z7⟩ := HW.facts hop hl rfl rfl
    go_wp2_with fail
    refine (rn_add HW 0 1 (by decide)).mono ?_
    rintro e w1 ⟨rfl, H1⟩
    obtain ⟨x0, x2, x4, x5, x6, x7⟩ := H1.facts hop hl rfl rfl
    go_wp2_with fail
    refine (run_note (H1.setA (doA s.L ⟨3, 0, 1, 0, 0⟩).1.old) (by have := HC.out; first | exact Nat.le_trans this (by decide) | (simp [Rn.note, Rn.did, Rn.setA, Rn.setB, Rn.waited, Rn.goto, Rn.noted]; omega)) 2 1).mono ?_
    rintro e w2 ⟨rfl, H2⟩
    obtain ⟨x0, x2, x4, x5, x6, x7⟩ := H2.facts hop hl (x := (doA s.L ⟨3, 0, 1, 0, 0⟩).1.old) rfl rfl
    go_wp2_with fail
    refine (rf_in _ _).mono ?_
    rw [hb]
    rintro e w9 ⟨rfl, rfl⟩
    go_wp2_with fail
    refine (rn_go H2 1).mono ?_
    rintro e w3 ⟨rfl, H3⟩
    go_wp2_with fail
    go_end0
    exact ⟨rfl, H3⟩
  | false =>
    simp only [Bool.false_eq_true, if_false]
    go_enter Try.func34, Try.ntmps34
    go_wp2_with fail
    go_quiet (fail)
    have HW := HH.out.drewN nq
    clear z0 z2 z4 z5 z6 z7
    generalize w.drewN nq = W at HW ⊢
    obtain ⟨z0, z2, z4, z5, z6, z7⟩ := HW.facts hop hl rfl rfl
    go_wp2_with fail
    refine (rn_add HW 0 1 (by decide)).mono ?_
    rintro e w1 ⟨rfl, H1⟩
    obtain ⟨x0, x2, x4, x5, x6, x7⟩ := H1.facts hop hl rfl rfl
    go_wp2_with fail
    refine (run_note (H1.setA (doA s.L ⟨3, 0, 1, 0, 0⟩).1.old) (by have := HC.out; first | exact Nat.le_trans this (by decide) | (simp [Rn.note, Rn.did, Rn.setA, Rn.setB, Rn.waited, Rn.goto, Rn.noted]; omega)) 2 1).mono ?_
    rintro e w2 ⟨rfl, H2⟩
    obtain ⟨x0, x2, x4, x5, x6, x7⟩ := H2.facts hop hl (x := (doA s.L ⟨3, 0, 1, 0, 0⟩).1.old) rfl rfl
    go_wp2_with fail
    refine (rf_in _ _).mono ?_
    rw [hb]
    rintro e w9 ⟨rfl, rfl⟩
    go_wp2_with fail
    refine (rf_end (l := [4]) (H2.box rfl _ _) rfl (by have := HC.out; simp [Rn.note, Rn.did, Rn.setA, Rn.setB, Rn.waited, Rn.goto]; omega) false).mono ?_
    rintro e w3 ⟨rfl, H3⟩
    go_wp2_with fail
    go_end0
    exact ⟨rfl, H3.unbox⟩

def rf11 (s : Rn) : Rn :=
  let s1 := s.waited (waitA s.L s.n s.mode s.task s.f.st 0 (fun v => !rfIn v))
  let s2 := if (waitA s.L s.n s.mode s.task s.f.st 0 (fun v => !rfIn v)).seen then s1.note 4 0 else s1
  if (waitA s.L s.n s.mode s.task s.f.st 0 (fun v => !rfIn v)).done then s2.fin true else s2

set_option maxHeartbeats 800000 in
theorem rf_11 {S0 : List Nat} {w0 w : World} {m a r : Nat} {rs : List Res} {s : Rn} (H : RunHas S0 w0 m a r rs s w) (hop : s.f.op = 1) (hl : s.f.line = 1) (hn : I64 s.n) (hc : s.notes.length ≤ 900) :
    Calls Try.prog 34 #[.pointer (some ⟨r, 0, none⟩)] w fun e w' => e = .returned (.tuple #[]) ∧ RunHas S0 w0 m a r rs (rf11 s) w' := by
  obtain ⟨z0, z2, z4, z5, z6, z7⟩ := H.facts hop hl rfl rfl
  have HC := Lib.hid hc
  have HH := Lib.hid H
  have HN := Lib.hid hn
  clear hc H hn
  unfold rf11
  have hwt := fun (V : World) W (H : RunHas S0 w0 m a r rs s W) => rn_wait H HN.out 0 90 #[] #[] (fun v => !rfIn v) (enters_of Try.func90 (by kernel_rfl) rfl) (fun W v _ _ _ => rf_free v W)
  cases hs : (waitA s.L s.n s.mode s.task s.f.st 0 (fun v => !rfIn v)).seen <;> cases hd : (waitA s.L s.n s.mode s.task s.f.st 0 (fun v => !rfIn v)).done <;> rw [hs, hd] at hwt <;> simp only [if_true, Bool.false_eq_true, if_false] <;> (have HWT := Lib.hid hwt) <;> clear hwt hs hd
  · go_enter Try.func34, Try.ntmps34
    go_wp2_with fail
    go_quiet (fail)
    have HW := HH.out.drewN nq
    clear z0 z2 z4 z5 z6 z7
    generalize w.drewN nq = W at HW ⊢
    obtain ⟨z0, z2, z4, z5, z6, z7⟩ := HW.facts hop hl rfl rfl
    go_wp2_with fail
    refine (HWT.out W _ HW).mono ?_
    rintro e w1 ⟨rfl, H1⟩
    obtain ⟨x0, x2, x4, x5, x6, x7⟩ := H1.facts hop hl rfl rfl
    go_wp2_with fail
    go_end0
    exact ⟨rfl, H1⟩
  · go_enter Try.func34, Try.ntmps34
    go_wp2_with fail
    go_quiet (fail)
    have HW := HH.out.drewN nq
    clear z0 z2 z4 z5 z6 z7
    generalize w.drewN nq = W at HW ⊢
    obtain ⟨z0, z2, z4, z5, z6, z7⟩ := HW.facts hop hl rfl rfl
    go_wp2_with fail
    refine (HWT.out W _ HW).mono ?_
    rintro e w1 ⟨rfl, H1⟩
    obtain ⟨x0, x2, x4, x5, x6, x7⟩ := H1.facts hop hl rfl rfl
    go_wp2_with fail
    refine (rn_end H1 true).mono ?_
    rintro e w2 ⟨rfl, H2⟩
    go_wp2_with fail
    go_end0
    exact ⟨rfl, H2⟩
  · go_enter Try.func34, Try.ntmps34
    go_wp2_with fail
    go_quiet (fail)
    have HW := HH.out.drewN nq
    clear z0 z2 z4 z5 z6 z7
    generalize w.drewN nq = W at HW ⊢
    obtain ⟨z0, z2, z4, z5, z6, z7⟩ := HW.facts hop hl rfl rfl
    go_wp2_with fail
    refine (HWT.out W _ HW).mono ?_
    rintro e w1 ⟨rfl, H1⟩
    obtain ⟨x0, x2, x4, x5, x6, x7⟩ := H1.facts hop hl rfl rfl
    go_wp2_with fail
    refine (run_note H1 (by have := HC.out; first | exact Nat.le_trans this (by decide) | (simp [Rn.note, Rn.did, Rn.setA, Rn.setB, Rn.waited, Rn.goto, Rn.noted]; omega)) 4 0).mono ?_
    rintro e w2 ⟨rfl, H2⟩
    obtain ⟨x0, x2, x4, x5, x6, x7⟩ := H2.facts hop hl rfl rfl
    go_wp2_with fail
    go_end0
    exact ⟨rfl, H2⟩
  · go_enter Try.func34, Try.ntmps34
    go_wp2_with fail
    go_quiet (fail)
    have HW := HH.out.drewN nq
    clear z0 z2 z4 z5 z6 z7
    generalize w.drewN nq = W at HW ⊢
    obtain ⟨z0, z2, z4, z5, z6, z7⟩ := HW.facts hop hl rfl rfl
    go_wp2_with fail
    refine (HWT.out W _ HW).mono ?_
    rintro e w1 ⟨rfl, H1⟩
    obtain ⟨x0, x2, x4, x5, x6, x7⟩ := H1.facts hop hl rfl rfl
    go_wp2_with fail
    refine (run_note H1 (by have := HC.out; first | exact Nat.le_trans this (by decide) | (simp [Rn.note, Rn.did, Rn.setA, Rn.setB, Rn.waited, Rn.goto, Rn.noted]; omega)) 4 0).mono ?_
    rintro e w2 ⟨rfl, H2⟩
    obtain ⟨x0, x2, x4, x5, x6, x7⟩ := H2.facts hop hl rfl rfl
    go_wp2_with fail
    refine (rn_end H2 true).mono ?_
    rintro e w3 ⟨rfl, H3⟩
    go_wp2_with fail
    go_end0
    exact ⟨rfl, H3⟩

def rf20 (s : Rn) : Rn :=
  (s.did (doA s.L ⟨3, 0, 4294967295, 0, 0⟩)).ends true [6]

set_option maxHeartbeats 800000 in
theorem rf_20 {S0 : List Nat} {w0 w : World} {m a r : Nat} {rs : List Res} {s : Rn} (H : RunHas S0 w0 m a r rs s w) (hop : s.f.op = 2) (hl : s.f.line = 0) (hn : I64 s.n) (hc : s.notes.length ≤ 900) :
    Calls Try.prog 34 #[.pointer (some ⟨r, 0, none⟩)] w fun e w' => e = .returned (.tuple #[]) ∧ RunHas S0 w0 m a r rs (rf20 s) w' := by
  obtain ⟨z0, z2, z4, z5, z6, z7⟩ := H.facts hop hl rfl rfl
  have HC := Lib.hid hc
  have HH := Lib.hid H
  have HN := Lib.hid hn
  clear hc H hn
  unfold rf20
  go_enter Try.func34, Try.ntmps34
  go_wp2_with fail
  go_quiet (fail)
  have HW := HH.out.drewN nq
  clear z0 z2 z4 z5 z6 z7
  generalize w.drewN nq = W at HW ⊢
  obtain ⟨z0, z2, z4, z5, z6, z7⟩ := HW.facts hop hl rfl rfl
  go_wp2_with fail
  refine (rn_add HW 0 4294967295 (by decide)).mono ?_
  rintro e w1 ⟨rfl, H1⟩
  obtain ⟨x0, x2, x4, x5, x6, x7⟩ := H1.facts hop hl rfl rfl
  go_wp2_with fail
  refine (rf_end (l := [6]) (H1.box rfl _ _) rfl (by have := HC.out; simp [Rn.note, Rn.did, Rn.setA, Rn.setB, Rn.waited, Rn.goto]; omega) true).mono ?_
  rintro e w2 ⟨rfl, H2⟩
  go_wp2_with fail
  go_end0
  exact ⟨rfl, H2.unbox⟩

def rf30 (s : Rn) : Rn :=
  let s1 := (((s.did (doA s.L ⟨1, 0, 0, 0, 0⟩)).setA (doA s.L ⟨1, 0, 0, 0, 0⟩).1.old).note 2 2).goto 2
  if (doA s.L ⟨1, 0, 0, 0, 0⟩).1.old = 0 then s1.goto 1 else s1

set_option maxHeartbeats 800000 in
theorem rf_30 {S0 : List Nat} {w0 w : World} {m a r : Nat} {rs : List Res} {s : Rn} (H : RunHas S0 w0 m a r rs s w) (hop : s.f.op = 3) (hl : s.f.line = 0) (hn : I64 s.n) (hc : s.notes.length ≤ 900) :
    Calls Try.prog 34 #[.pointer (some ⟨r, 0, none⟩)] w fun e w' => e = .returned (.tuple #[]) ∧ RunHas S0 w0 m a r rs (rf30 s) w' := by
  obtain ⟨z0, z2, z4, z5, z6, z7⟩ := H.facts hop hl rfl rfl
  have HC := Lib.hid hc
  have HH := Lib.hid H
  have HN := Lib.hid hn
  clear hc H hn
  unfold rf30
  by_cases hv : (doA s.L ⟨1, 0, 0, 0, 0⟩).1.old = 0
  · simp only [if_pos hv]
    have HV := Lib.hid hv
    clear hv
    go_enter Try.func34, Try.ntmps34
    go_wp2_with fail
    go_quiet (fail)
    have HW := HH.out.drewN nq
    clear z0 z2 z4 z5 z6 z7
    generalize w.drewN nq = W at HW ⊢
    obtain ⟨z0, z2, z4, z5, z6, z7⟩ := HW.facts hop hl rfl rfl
    go_wp2_with fail
    refine (rn_load HW 0).mono ?_
    rintro e w1 ⟨rfl, H1⟩
    obtain ⟨x0, x2, x4, x5, x6, x7⟩ := H1.facts hop hl rfl rfl
    go_wp2_with fail
    refine (run_note (H1.setA (doA s.L ⟨1, 0, 0, 0, 0⟩).1.old) (by have := HC.out; first | exact Nat.le_trans this (by decide) | (simp [Rn.note, Rn.did, Rn.setA, Rn.setB, Rn.waited, Rn.goto, Rn.noted]; omega)) 2 2).mono ?_
    rintro e w2 ⟨rfl, H2⟩
    obtain ⟨x0, x2, x4, x5, x6, x7⟩ := H2.facts hop hl (x := (doA s.L ⟨1, 0, 0, 0, 0⟩).1.old) rfl rfl
    go_wp2_with fail
    refine (rn_go H2 2).mono ?_
    rintro e w3 ⟨rfl, H3⟩
    obtain ⟨x0, x2, x4, x5, x6, x7⟩ := H3.facts hop (l := 2) rfl (x := (doA s.L ⟨1, 0, 0, 0, 0⟩).1.old) rfl rfl
    rw [HV.out] at x6
    go_wp2_with fail
    refine (rn_go H3 1).mono ?_
    rintro e w4 ⟨rfl, H4⟩
    go_wp2_with fail
    go_end0
    exact ⟨rfl, H4⟩
  · simp only [if_neg hv]
    have HV := Lib.hid hv
    clear hv
    go_enter Try.func34, Try.ntmps34
    go_wp2_with fail
    go_quiet (fail)
    have HW := HH.out.drewN nq
    clear z0 z2 z4 z5 z6 z7
    generalize w.drewN nq = W at HW ⊢
    obtain ⟨z0, z2, z4, z5, z6, z7⟩ := HW.facts hop hl rfl rfl
    go_wp2_with fail
    refine (rn_load HW 0).mono ?_
    rintro e w1 ⟨rfl, H1⟩
    obtain ⟨x0, x2, x4, x5, x6, x7⟩ := H1.facts hop hl rfl rfl
    go_wp2_with fail
    refine (run_note (H1.setA (doA s.L ⟨1, 0, 0, 0, 0⟩).1.old) (by have := HC.out; first | exact Nat.le_trans this (by decide) | (simp [Rn.note, Rn.did, Rn.setA, Rn.setB, Rn.waited, Rn.goto, Rn.noted]; omega)) 2 2).mono ?_
    rintro e w2 ⟨rfl, H2⟩
    obtain ⟨x0, x2, x4, x5, x6, x7⟩ := H2.facts hop hl (x := (doA s.L ⟨1, 0, 0, 0, 0⟩).1.old) rfl rfl
    go_wp2_with fail
    refine (rn_go H2 2).mono ?_
    rintro e w3 ⟨rfl, H3⟩
    obtain ⟨x0, x2, x4, x5, x6, x7⟩ := H3.facts hop (l := 2) rfl (x := (doA s.L ⟨1, 0, 0, 0, 0⟩).1.old) rfl rfl
    have hne : ((doA s.L ⟨1, 0, 0, 0, 0⟩).1.old == 0) = false := by simpa using HV.out
    go_wp2_with fail
    go_end0
    exact ⟨rfl, H3⟩

def rf31 (s : Rn) : Rn :=
  let s1 := s.did (doA s.L ⟨5, 0, 0, 65536, 0⟩)
  if casB s.L 0 0 65536 then s1.ends false [4] else s1.goto 2

set_option maxHeartbeats 800000 in
theorem rf_31 {S0 : List Nat} {w0 w : World} {m a r : Nat} {rs : List Res} {s : Rn} (H : RunHas S0 w0 m a r rs s w) (hop : s.f.op = 3) (hl : s.f.line = 1) (hn : I64 s.n) (hc : s.notes.length ≤ 900) :
    Calls Try.prog 34 #[.pointer (some ⟨r, 0, none⟩)] w fun e w' => e = .returned (.tuple #[]) ∧ RunHas S0 w0 m a r rs (rf31 s) w' := by
  obtain ⟨z0, z2, z4, z5, z6, z7⟩ := H.facts hop hl rfl rfl
  have HC := Lib.hid hc
  have HH := Lib.hid H
  have HN := Lib.hid hn
  clear hc H hn
  unfold rf31
  have hcas := fun W (H : RunHas S0 w0 m a r rs s W) => rn_cas H 0 0 65536 (by decide) (by decide)
  cases hb : casB s.L 0 0 65536 with
  | true =>
    rw [hb] at hcas
    have HCAS := Lib.hid hcas
    clear hcas
    simp only [if_true]
    go_enter Try.func34, Try.ntmps34
    go_wp2_with fail
    go_quiet (fail)
    have HW := HH.out.drewN nq
    clear z0 z2 z4 z5 z6 z7
    generalize w.drewN nq = W at HW ⊢
    obtain ⟨z0, z2, z4, z5, z6, z7⟩ := HW.facts hop hl rfl rfl
    go_wp2_with fail
    refine (HCAS.out _ HW).mono ?_
    rintro e w1 ⟨rfl, H1⟩
    obtain ⟨x0, x2, x4, x5, x6, x7⟩ := H1.facts hop hl rfl rfl
    go_wp2_with fail
    refine (rf_end (l := [4]) (H1.box rfl _ _) rfl (by have := HC.out; simp [Rn.note, Rn.did, Rn.setA, Rn.setB, Rn.waited, Rn.goto]; omega) false).mono ?_
    rintro e w2 ⟨rfl, H2⟩
    go_wp2_with fail
    go_end0
    exact ⟨rfl, H2.unbox⟩
  | false =>
    rw [hb] at hcas
    have HCAS := Lib.hid hcas
    clear hcas
    simp only [Bool.false_eq_true, if_false]
    go_enter Try.func34, Try.ntmps34
    go_wp2_with fail
    go_quiet (fail)
    have HW := HH.out.drewN nq
    clear z0 z2 z4 z5 z6 z7
    generalize w.drewN nq = W at HW ⊢
    obtain ⟨z0, z2, z4, z5, z6, z7⟩ := HW.facts hop hl rfl rfl
    go_wp2_with fail
    refine (HCAS.out _ HW).mono ?_
    rintro e w1 ⟨rfl, H1⟩
    obtain ⟨x0, x2, x4, x5, x6, x7⟩ := H1.facts hop hl rfl rfl
    go_wp2_with fail
    refine (rn_go H1 2).mono ?_
    rintro e w2 ⟨rfl, H2⟩
    go_wp2_with fail
    go_end0
    exact ⟨rfl, H2⟩

def rf32 (s : Rn) : Rn :=
  let s1 := s.waited (waitA s.L s.n s.mode s.task s.f.st 0 (fun v => v == 0))
  if (waitA s.L s.n s.mode s.task s.f.st 0 (fun v => v == 0)).done then s1.goto 1 else s1

set_option maxHeartbeats 800000 in
theorem rf_32 {S0 : List Nat} {w0 w : World} {m a r : Nat} {rs : List Res} {s : Rn} (H : RunHas S0 w0 m a r rs s w) (hop : s.f.op = 3) (hl : s.f.line = 2) (hn : I64 s.n) (hc : s.notes.length ≤ 900) :
    Calls Try.prog 34 #[.pointer (some ⟨r, 0, none⟩)] w fun e w' => e = .returned (.tuple #[]) ∧ RunHas S0 w0 m a r rs (rf32 s) w' := by
  obtain ⟨z0, z2, z4, z5, z6, z7⟩ := H.facts hop hl rfl rfl
  have HC := Lib.hid hc
  have HH := Lib.hid H
  have HN := Lib.hid hn
  clear hc H hn
  unfold rf32
  have hwt := fun (V : World) W (H : RunHas S0 w0 m a r (.blk V.heap.size #[.int .u32 0] :: rs) s W) => rn_wait H HN.out 0 144 #[] #[.pointer (some ⟨V.heap.size, 0, none⟩)] (fun v => v == 0) (enters_of Try.func144 (by kernel_rfl) rfl) (fun W v _ _ H => rf_is1 0 v W H.first)
  cases hs : (waitA s.L s.n s.mode s.task s.f.st 0 (fun v => v == 0)).seen <;> cases hd : (waitA s.L s.n s.mode s.task s.f.st 0 (fun v => v == 0)).done <;> rw [hs, hd] at hwt <;> simp only [if_true, Bool.false_eq_true, if_false] <;> (have HWT := Lib.hid hwt) <;> clear hwt hs hd
  · go_enter Try.func34, Try.ntmps34
    go_wp2_with fail
    go_quiet (fail)
    have HW := HH.out.drewN nq
    clear z0 z2 z4 z5 z6 z7
    generalize w.drewN nq = W at HW ⊢
    obtain ⟨z0, z2, z4, z5, z6, z7⟩ := HW.facts hop hl rfl rfl
    go_wp2_with fail
    refine (rf_is 0 _).mono ?_
    rintro e w9 ⟨rfl, rfl⟩
    go_wp2_with fail
    refine (HWT.out W _ (HW.box rfl _ _)).mono ?_
    rintro e w1 ⟨rfl, H1⟩
    obtain ⟨x0, x2, x4, x5, x6, x7⟩ := H1.facts hop hl rfl rfl
    go_wp2_with fail
    go_end0
    exact ⟨rfl, H1.unbox⟩
  · go_enter Try.func34, Try.ntmps34
    go_wp2_with fail
    go_quiet (fail)
    have HW := HH.out.drewN nq
    clear z0 z2 z4 z5 z6 z7
    generalize w.drewN nq = W at HW ⊢
    obtain ⟨z0, z2, z4, z5, z6, z7⟩ := HW.facts hop hl rfl rfl
    go_wp2_with fail
    refine (rf_is 0 _).mono ?_
    rintro e w9 ⟨rfl, rfl⟩
    go_wp2_with fail
    refine (HWT.out W _ (HW.box rfl _ _)).mono ?_
    rintro e w1 ⟨rfl, H1⟩
    obtain ⟨x0, x2, x4, x5, x6, x7⟩ := H1.facts hop hl rfl rfl
    go_wp2_with fail
    refine (rn_go H1 1).mono ?_
    rintro e w2 ⟨rfl, H2⟩
    go_wp2_with fail
    go_end0
    exact ⟨rfl, H2.unbox⟩
  · go_enter Try.func34, Try.ntmps34
    go_wp2_with fail
    go_quiet (fail)
    have HW := HH.out.drewN nq
    clear z0 z2 z4 z5 z6 z7
    generalize w.drewN nq = W at HW ⊢
    obtain ⟨z0, z2, z4, z5, z6, z7⟩ := HW.facts hop hl rfl rfl
    go_wp2_with fail
    refine (rf_is 0 _).mono ?_
    rintro e w9 ⟨rfl, rfl⟩
    go_wp2_with fail
    refine (HWT.out W _ (HW.box rfl _ _)).mono ?_
    rintro e w1 ⟨rfl, H1⟩
    obtain ⟨x0, x2, x4, x5, x6, x7⟩ := H1.facts hop hl rfl rfl
    go_wp2_with fail
    go_end0
    exact ⟨rfl, H1.unbox⟩
  · go_enter Try.func34, Try.ntmps34
    go_wp2_with fail
    go_quiet (fail)
    have HW := HH.out.drewN nq
    clear z0 z2 z4 z5 z6 z7
    generalize w.drewN nq = W at HW ⊢
    obtain ⟨z0, z2, z4, z5, z6, z7⟩ := HW.facts hop hl rfl rfl
    go_wp2_with fail
    refine (rf_is 0 _).mono ?_
    rintro e w9 ⟨rfl, rfl⟩
    go_wp2_with fail
    refine (HWT.out W _ (HW.box rfl _ _)).mono ?_
    rintro e w1 ⟨rfl, H1⟩
    obtain ⟨x0, x2, x4, x5, x6, x7⟩ := H1.facts hop hl rfl rfl
    go_wp2_with fail
    refine (rn_go H1 1).mono ?_
    rintro e w2 ⟨rfl, H2⟩
    go_wp2_with fail
    go_end0
    exact ⟨rfl, H2.unbox⟩

def rf40 (s : Rn) : Rn :=
  (s.did (doA s.L ⟨3, 0, 4294901760, 0, 0⟩)).ends true [7, 8]

set_option maxHeartbeats 800000 in
theorem rf_40 {S0 : List Nat} {w0 w : World} {m a r : Nat} {rs : List Res} {s : Rn} (H : RunHas S0 w0 m a r rs s w) (hop : s.f.op = 4) (hl : s.f.line = 0) (hn : I64 s.n) (hc : s.notes.length ≤ 900) :
    Calls Try.prog 34 #[.pointer (some ⟨r, 0, none⟩)] w fun e w' => e = .returned (.tuple #[]) ∧ RunHas S0 w0 m a r rs (rf40 s) w' := by
  obtain ⟨z0, z2, z4, z5, z6, z7⟩ := H.facts hop hl rfl rfl
  have HC := Lib.hid hc
  have HH := Lib.hid H
  have HN := Lib.hid hn
  clear hc H hn
  unfold rf40
  go_enter Try.func34, Try.ntmps34
  go_wp2_with fail
  go_quiet (fail)
  have HW := HH.out.drewN nq
  clear z0 z2 z4 z5 z6 z7
  generalize w.drewN nq = W at HW ⊢
  obtain ⟨z0, z2, z4, z5, z6, z7⟩ := HW.facts hop hl rfl rfl
  go_wp2_with fail
  refine (rn_add HW 0 4294901760 (by decide)).mono ?_
  rintro e w1 ⟨rfl, H1⟩
  obtain ⟨x0, x2, x4, x5, x6, x7⟩ := H1.facts hop hl rfl rfl
  go_wp2_with fail
  refine (rf_end (l := [7, 8]) (H1.box rfl _ _) rfl (by have := HC.out; simp [Rn.note, Rn.did, Rn.setA, Rn.setB, Rn.waited, Rn.goto]; omega) true).mono ?_
  rintro e w2 ⟨rfl, H2⟩
  go_wp2_with fail
  go_end0
  exact ⟨rfl, H2.unbox⟩

def rf80 (s : Rn) : Rn :=
  (s.did (doA s.L ⟨3, 0, 4294901761, 0, 0⟩)).ends true [10]

set_option maxHeartbeats 800000 in
theorem rf_80 {S0 : List Nat} {w0 w : World} {m a r : Nat} {rs : List Res} {s : Rn} (H : RunHas S0 w0 m a r rs s w) (hop : s.f.op = 8) (hl : s.f.line = 0) (hn : I64 s.n) (hc : s.notes.length ≤ 900) :
    Calls Try.prog 34 #[.pointer (some ⟨r, 0, none⟩)] w fun e w' => e = .returned (.tuple #[]) ∧ RunHas S0 w0 m a r rs (rf80 s) w' := by
  obtain ⟨z0, z2, z4, z5, z6, z7⟩ := H.facts hop hl rfl rfl
  have HC := Lib.hid hc
  have HH := Lib.hid H
  have HN := Lib.hid hn
  clear hc H hn
  unfold rf80
  go_enter Try.func34, Try.ntmps34
  go_wp2_with fail
  go_quiet (fail)
  have HW := HH.out.drewN nq
  clear z0 z2 z4 z5 z6 z7
  generalize w.drewN nq = W at HW ⊢
  obtain ⟨z0, z2, z4, z5, z6, z7⟩ := HW.facts hop hl rfl rfl
  go_wp2_with fail
  refine (rn_add HW 0 4294901761 (by decide)).mono ?_
  rintro e w1 ⟨rfl, H1⟩
  obtain ⟨x0, x2, x4, x5, x6, x7⟩ := H1.facts hop hl rfl rfl
  go_wp2_with fail
  refine (rf_end (l := [10]) (H1.box rfl _ _) rfl (by have := HC.out; simp [Rn.note, Rn.did, Rn.setA, Rn.setB, Rn.waited, Rn.goto]; omega) true).mono ?_
  rintro e w2 ⟨rfl, H2⟩
  go_wp2_with fail
  go_end0
  exact ⟨rfl, H2.unbox⟩

end Go.Proofs.Ytlndihdlodempaa.Z

/- Package rf: a try's lines. Written by genrf3.py. -/
set_option linter.unusedVariables false
set_option linter.unusedSimpArgs false
namespace Go.Proofs.Ytlndihdlodempaa.Z
open Go.RowKit

attribute [local go_sem ↓] Go.wp_at_zero Go.wp_at_succ
theorem rfKeep {w : World} {b : Nat} {cs : Array Value} (h : Blk w b cs) : Blk w b cs ∧ (∀ i, w.cell? ⟨b, i, none⟩ = cs[i]?) := ⟨h, h.cell⟩
theorem rf_first2 {S0 : List Nat} {w0 w : World} {m a r tb : Nat} {rs : List Res} {s : Rn} (H : RunHas S0 w0 m a r (.blk tb #[.pointer (some ⟨r, 0, none⟩)] :: rs) s w) (hc : s.notes.length ≤ 1000) :
    Calls Try.prog 148 #[.pointer (some ⟨tb, 0, none⟩)] w fun e w' => e = .returned (.tuple #[]) ∧ RunHas S0 w0 m a r (.blk tb #[.pointer (some ⟨r, 0, none⟩)] :: rs) (s.note 2 1) w' := by
  obtain ⟨u0, u1, u2⟩ := H.first.own
  go_enter Try.func148, Try.ntmps148
  go_wp2_with fail
  refine (run_note H hc 2 1).mono ?_
  rintro e w1 ⟨rfl, H1⟩
  go_wp2_with fail
  go_end0
  exact ⟨rfl, H1⟩
theorem rf_first3 {S0 : List Nat} {w0 w : World} {m a r tb : Nat} {rs : List Res} {s : Rn} (H : RunHas S0 w0 m a r (.blk tb #[.pointer (some ⟨r, 0, none⟩)] :: rs) s w) (hc : s.notes.length ≤ 1000) :
    Calls Try.prog 149 #[.pointer (some ⟨tb, 0, none⟩)] w fun e w' => e = .returned (.tuple #[]) ∧ RunHas S0 w0 m a r (.blk tb #[.pointer (some ⟨r, 0, none⟩)] :: rs) (s.note 2 2) w' := by
  obtain ⟨u0, u1, u2⟩ := H.first.own
  go_enter Try.func149, Try.ntmps149
  go_wp2_with fail
  refine (run_note H hc 2 2).mono ?_
  rintro e w1 ⟨rfl, H1⟩
  go_wp2_with fail
  go_end0
  exact ⟨rfl, H1⟩
theorem rf_first4 {S0 : List Nat} {w0 w : World} {m a r : Nat} {rs : List Res} {s : Rn} (H : RunHas S0 w0 m a r rs s w) :
    Calls Try.prog 150 #[] w fun e w' => e = .returned (.tuple #[]) ∧ RunHas S0 w0 m a r rs s w' := by
  go_enter Try.func150, Try.ntmps150
  go_wp2_with fail
  go_end0
  exact ⟨rfl, H⟩


def rf50 (s : Rn) : Rn :=
  s.chosen (fun v => !rfIn v)

set_option maxHeartbeats 1600000 in
set_option maxRecDepth 100000 in
theorem rf_50 {S0 : List Nat} {w0 w : World} {m a r : Nat} {rs : List Res} {s : Rn} (H : RunHas S0 w0 m a r rs s w) (hop : s.f.op = 5) (hl : s.f.line = 0) (hc : s.notes.length ≤ 900) :
    Calls Try.prog 92 #[.pointer (some ⟨r, 0, none⟩)] w fun e w' => e = .returned (.tuple #[]) ∧ RunHas S0 w0 m a r rs (rf50 s) w' := by
  have H0 := H.box rfl #[.pointer (some ⟨r, 0, none⟩)] 36
  have HC := Lib.hid hc
  obtain ⟨z0, z2, z4, z5, z6, z7⟩ := H.facts hop hl rfl rfl
  have HH := Lib.hid H0
  clear hc H H0
  go_enter Try.func92, Try.ntmps92
  go_wp2_with fail
  go_quiet (fail)
  have HW := HH.out.drewN nq
  clear z0 z2 z4 z5 z6 z7
  generalize w.heap.size = tb at HW ⊢
  generalize (World.drewN _ nq) = W at HW ⊢
  obtain ⟨z0, z2, z4, z5, z6, z7⟩ := HW.facts hop hl rfl rfl
  obtain ⟨u0, u1, u2⟩ := HW.first.own
  go_wp2_with fail
  refine (rf_choose HW HC.out hop hl 146 #[] #[] (fun v => !rfIn v) (enters_of Try.func146 (by kernel_rfl) rfl) (fun W v s' _ => rf_free' v W)).mono ?_
  rintro e w1 ⟨rfl, H1⟩
  go_wp2_with fail
  go_end0
  exact ⟨rfl, H1.unbox⟩

def rf60 (s : Rn) : Rn :=
  s.chosen (fun v => v == 0)

set_option maxHeartbeats 1600000 in
set_option maxRecDepth 100000 in
theorem rf_60 {S0 : List Nat} {w0 w : World} {m a r : Nat} {rs : List Res} {s : Rn} (H : RunHas S0 w0 m a r rs s w) (hop : s.f.op = 6) (hl : s.f.line = 0) (hc : s.notes.length ≤ 900) :
    Calls Try.prog 92 #[.pointer (some ⟨r, 0, none⟩)] w fun e w' => e = .returned (.tuple #[]) ∧ RunHas S0 w0 m a r rs (rf60 s) w' := by
  have H0 := H.box rfl #[.pointer (some ⟨r, 0, none⟩)] 36
  have HC := Lib.hid hc
  obtain ⟨z0, z2, z4, z5, z6, z7⟩ := H.facts hop hl rfl rfl
  have HH := Lib.hid H0
  clear hc H H0
  go_enter Try.func92, Try.ntmps92
  go_wp2_with fail
  go_quiet (fail)
  have HW := HH.out.drewN nq
  clear z0 z2 z4 z5 z6 z7
  generalize w.heap.size = tb at HW ⊢
  generalize (World.drewN _ nq) = W at HW ⊢
  obtain ⟨z0, z2, z4, z5, z6, z7⟩ := HW.facts hop hl rfl rfl
  obtain ⟨u0, u1, u2⟩ := HW.first.own
  go_wp2_with fail
  have hch := fun W2 (H : RunHas S0 w0 m a r (.blk W.heap.size #[.int .u32 0] :: .blk tb #[.pointer (some ⟨r, 0, none⟩)] :: rs) s W2) => rf_choose H HC.out hop hl 144 #[] #[.pointer (some ⟨W.heap.size, 0, none⟩)] (fun v => v == 0) (enters_of Try.func144 (by kernel_rfl) rfl) (fun W v s' H => rf_is1 0 v W H.first)
  have HCH := Lib.hid hch
  clear hch
  have HB := Lib.hid (HW.box rfl #[.int .u32 0] 23).drew
  have HB1 : Blk (W.alloc (.cells #[.int .u32 0] 23)).drew tb _ := HW.first.alloc _
  have HB0 : Blk W.drew tb _ := HW.drew.first
  go_region_held3 (fun w' => Blk w' tb #[.pointer (some ⟨r, 0, none⟩)] ∧ (∀ i, w'.cell? ⟨tb, i, none⟩ = #[Value.pointer (some ⟨r, 0, none⟩)][i]?))
    (first | (go_split_ands; refine rfKeep ?_; first | with_reducible assumption | with_reducible exact HB2))
    (first
      | (go_at_call 91; refine (rf_is 0 _).mono ?_; rintro e w1 ⟨rfl, rfl⟩)
      | (go_at_call 145; with_reducible refine (HCH.out _ HB.out).mono ?_; rintro e w2 ⟨rfl, H2⟩; have HB2 := H2.unbox.first))
  go_wp2_with fail
  go_end0
  exact ⟨rfl, H2.unbox.unbox⟩

def rf70 (s : Rn) : Rn :=
  s.chosen (fun v => v == 1)

set_option maxHeartbeats 1600000 in
set_option maxRecDepth 100000 in
theorem rf_70 {S0 : List Nat} {w0 w : World} {m a r : Nat} {rs : List Res} {s : Rn} (H : RunHas S0 w0 m a r rs s w) (hop : s.f.op = 7) (hl : s.f.line = 0) (hc : s.notes.length ≤ 900) :
    Calls Try.prog 92 #[.pointer (some ⟨r, 0, none⟩)] w fun e w' => e = .returned (.tuple #[]) ∧ RunHas S0 w0 m a r rs (rf70 s) w' := by
  have H0 := H.box rfl #[.pointer (some ⟨r, 0, none⟩)] 36
  have HC := Lib.hid hc
  obtain ⟨z0, z2, z4, z5, z6, z7⟩ := H.facts hop hl rfl rfl
  have HH := Lib.hid H0
  clear hc H H0
  go_enter Try.func92, Try.ntmps92
  go_wp2_with fail
  go_quiet (fail)
  have HW := HH.out.drewN nq
  clear z0 z2 z4 z5 z6 z7
  generalize w.heap.size = tb at HW ⊢
  generalize (World.drewN _ nq) = W at HW ⊢
  obtain ⟨z0, z2, z4, z5, z6, z7⟩ := HW.facts hop hl rfl rfl
  obtain ⟨u0, u1, u2⟩ := HW.first.own
  go_wp2_with fail
  have hch := fun W2 (H : RunHas S0 w0 m a r (.blk W.heap.size #[.int .u32 1] :: .blk tb #[.pointer (some ⟨r, 0, none⟩)] :: rs) s W2) => rf_choose H HC.out hop hl 144 #[] #[.pointer (some ⟨W.heap.size, 0, none⟩)] (fun v => v == 1) (enters_of Try.func144 (by kernel_rfl) rfl) (fun W v s' H => rf_is1 1 v W H.first)
  have HCH := Lib.hid hch
  clear hch
  have HB := Lib.hid (HW.box rfl #[.int .u32 1] 23).drew
  have HB1 : Blk (W.alloc (.cells #[.int .u32 1] 23)).drew tb _ := HW.first.alloc _
  have HB0 : Blk W.drew tb _ := HW.drew.first
  go_region_held3 (fun w' => Blk w' tb #[.pointer (some ⟨r, 0, none⟩)] ∧ (∀ i, w'.cell? ⟨tb, i, none⟩ = #[Value.pointer (some ⟨r, 0, none⟩)][i]?))
    (first | (go_split_ands; refine rfKeep ?_; first | with_reducible assumption | with_reducible exact HB2))
    (first
      | (go_at_call 91; refine (rf_is 1 _).mono ?_; rintro e w1 ⟨rfl, rfl⟩)
      | (go_at_call 145; with_reducible refine (HCH.out _ HB.out).mono ?_; rintro e w2 ⟨rfl, H2⟩; have HB2 := H2.unbox.first))
  go_wp2_with fail
  go_end0
  exact ⟨rfl, H2.unbox.unbox⟩

def rf51 (s : Rn) : Rn :=
  s.swapped s.f.a ((s.f.a + 1) % 4294967296) (fun s => s.note 2 1) 4

set_option maxHeartbeats 1600000 in
set_option maxRecDepth 100000 in
theorem rf_51 {S0 : List Nat} {w0 w : World} {m a r : Nat} {rs : List Res} {s : Rn} (H : RunHas S0 w0 m a r rs s w) (hop : s.f.op = 5) (hl : s.f.line = 1) (ha : 0 ≤ s.f.a ∧ s.f.a < 4294967296) (hc : s.notes.length ≤ 900) :
    Calls Try.prog 92 #[.pointer (some ⟨r, 0, none⟩)] w fun e w' => e = .returned (.tuple #[]) ∧ RunHas S0 w0 m a r rs (rf51 s) w' := by
  have H0 := H.box rfl #[.pointer (some ⟨r, 0, none⟩)] 36
  have HC := Lib.hid hc
  obtain ⟨z0, z2, z4, z5, z6, z7⟩ := H.facts hop hl rfl rfl
  have HH := Lib.hid H0
  clear hc H H0
  go_enter Try.func92, Try.ntmps92
  go_wp2_with fail
  go_quiet (fail)
  have HW := HH.out.drewN nq
  clear z0 z2 z4 z5 z6 z7
  generalize w.heap.size = tb at HW ⊢
  generalize (World.drewN _ nq) = W at HW ⊢
  obtain ⟨z0, z2, z4, z5, z6, z7⟩ := HW.facts hop hl rfl rfl
  obtain ⟨u0, u1, u2⟩ := HW.first.own
  go_wp2_with fail
  refine region_flat (by kernel_rfl) (by kernel_rfl) ?_
  simp only [probed, probes, List.nil_append, List.cons_append, probe]
  go_wp2_with fail
  refine (rf_swap HW.drew HC.out 148 #[.pointer (some ⟨tb, 0, none⟩)] (fun s => s.note 2 1) (fun s => by simp [Rn.note]) (enters_of Try.func148 (by kernel_rfl) rfl) s.f.a ((s.f.a + 1) % 4294967296) 4 ha (by omega) (fun W s' hs H => rf_first2 H (by rw [hs]; exact Nat.le_trans HC.out (by decide)))).mono ?_
  rintro e w1 ⟨rfl, H1⟩
  go_wp2_with fail
  rw [only_normal]
  first
    | (rename_i hK; refine hK _ _ ?_; go_wp2_with fail; go_end0; exact ⟨rfl, H1.unbox⟩)
    | (rename_i hK; simp only [Exit.inBlock, Exit.then]; refine hK _ _ ?_; go_wp2_with fail; go_end0; exact ⟨rfl, H1.unbox⟩)
    | (simp only [Exit.inBlock, Exit.then]; go_end0; exact ⟨rfl, H1.unbox⟩)
    | (trace_state; fail)

def rf61 (s : Rn) : Rn :=
  s.swapped 0 65536 (fun s => s.note 2 2) 4

set_option maxHeartbeats 1600000 in
set_option maxRecDepth 100000 in
theorem rf_61 {S0 : List Nat} {w0 w : World} {m a r : Nat} {rs : List Res} {s : Rn} (H : RunHas S0 w0 m a r rs s w) (hop : s.f.op = 6) (hl : s.f.line = 1) (hc : s.notes.length ≤ 900) :
    Calls Try.prog 92 #[.pointer (some ⟨r, 0, none⟩)] w fun e w' => e = .returned (.tuple #[]) ∧ RunHas S0 w0 m a r rs (rf61 s) w' := by
  have H0 := H.box rfl #[.pointer (some ⟨r, 0, none⟩)] 36
  have HC := Lib.hid hc
  obtain ⟨z0, z2, z4, z5, z6, z7⟩ := H.facts hop hl rfl rfl
  have HH := Lib.hid H0
  clear hc H H0
  go_enter Try.func92, Try.ntmps92
  go_wp2_with fail
  go_quiet (fail)
  have HW := HH.out.drewN nq
  clear z0 z2 z4 z5 z6 z7
  generalize w.heap.size = tb at HW ⊢
  generalize (World.drewN _ nq) = W at HW ⊢
  obtain ⟨z0, z2, z4, z5, z6, z7⟩ := HW.facts hop hl rfl rfl
  obtain ⟨u0, u1, u2⟩ := HW.first.own
  go_wp2_with fail
  refine (rf_swap HW HC.out 149 #[.pointer (some ⟨tb, 0, none⟩)] (fun s => s.note 2 2) (fun s => by simp [Rn.note]) (enters_of Try.func149 (by kernel_rfl) rfl) 0 65536 4 (by decide) (by decide) (fun W s' hs H => rf_first3 H (by rw [hs]; exact Nat.le_trans HC.out (by decide)))).mono ?_
  rintro e w1 ⟨rfl, H1⟩
  go_wp2_with fail
  go_end0
  exact ⟨rfl, H1.unbox⟩

def rf71 (s : Rn) : Rn :=
  s.swapped 1 65536 (fun s => s) 9

set_option maxHeartbeats 1600000 in
set_option maxRecDepth 100000 in
theorem rf_71 {S0 : List Nat} {w0 w : World} {m a r : Nat} {rs : List Res} {s : Rn} (H : RunHas S0 w0 m a r rs s w) (hop : s.f.op = 7) (hl : s.f.line = 1) (hc : s.notes.length ≤ 900) :
    Calls Try.prog 92 #[.pointer (some ⟨r, 0, none⟩)] w fun e w' => e = .returned (.tuple #[]) ∧ RunHas S0 w0 m a r rs (rf71 s) w' := by
  have H0 := H.box rfl #[.pointer (some ⟨r, 0, none⟩)] 36
  have HC := Lib.hid hc
  obtain ⟨z0, z2, z4, z5, z6, z7⟩ := H.facts hop hl rfl rfl
  have HH := Lib.hid H0
  clear hc H H0
  go_enter Try.func92, Try.ntmps92
  go_wp2_with fail
  go_quiet (fail)
  have HW := HH.out.drewN nq
  clear z0 z2 z4 z5 z6 z7
  generalize w.heap.size = tb at HW ⊢
  generalize (World.drewN _ nq) = W at HW ⊢
  obtain ⟨z0, z2, z4, z5, z6, z7⟩ := HW.facts hop hl rfl rfl
  obtain ⟨u0, u1, u2⟩ := HW.first.own
  go_wp2_with fail
  refine (rf_swap HW HC.out 150 #[] (fun s => s) (fun s => by simp) (enters_of Try.func150 (by kernel_rfl) rfl) 1 65536 9 (by decide) (by decide) (fun W s' hs H => rf_first4 H)).mono ?_
  rintro e w1 ⟨rfl, H1⟩
  go_wp2_with fail
  go_end0
  exact ⟨rfl, H1.unbox⟩

end Go.Proofs.Ytlndihdlodempaa.Z
