/- 3 texts of this claim, joined: what each shows stands at its own head. -/
import Derived.Test.YtbcppehpfckgoaaZM04FqExcludes
import Derived.Test.YtbcppehpfckgoaaZM01FqExcludes
import Derived.Test.YtbcppehpfckgoaaZM03FqExcludes
/- The fair queue lock: where a task is, what a step does, what holds. No program is in sight. Written by genfqlive.py. -/
set_option linter.unusedVariables false
set_option linter.unusedSimpArgs false
namespace Go.Proofs.Ytbcppehpfckgoaa.Z
open Go.RowKit

/-- Where a task is. -/
inductive FqP
  | idle (h : Int)
  | r0
  | r1
  | r2
  | r3 (a : Int)
  | r4 (a : Int)
  | r5 (a : Int)
  | r6 (a : Int)
  | r7 (a : Int)
  | r8 (a : Int)
  | r9 (a : Int)
  | q0 (a : Int)
  | q1 (a : Int)
  | q5 (a : Int)
  | q6 (a : Int)
  | q7 (a : Int)
  | q8 (a : Int)
  | q9 (a : Int)
  | w0
  | w1
  | w2
  | w3 (a : Int)
  | w4 (a : Int)
  | w5 (a : Int)
  | v0
  | v1 (a : Int)
  | v2 (a : Int)
  | v3 (a : Int)
  | t0 (a : Int)
  | t1 (a : Int)
  | t2 (a : Int)
  | t6 (a : Int)
  | t7 (a : Int)
  | t8 (a : Int)
  | t9 (a : Int)
  | x0 (a : Int)
  | x1 (a : Int)
  | x2 (a : Int)
  | x3 (a : Int)
  | x6 (a : Int)
  | x7 (a : Int)
  | x8 (a : Int)
  | x9 (a : Int)
  | u0
  | d0
  | d1 (a : Int)
  | d2 (a : Int)
  | d3 (a : Int)
  | d4 (a : Int)
def fqFr (op line a : Int) : Fr := ⟨op, line, a, 0, 0, Wk.zero, 0⟩
def fqConc : FqP → Fr × Int
  | .idle h => (Fr.zero, h)
  | .r0 => (fqFr 1 0 0, 0)
  | .r1 => (fqFr 1 1 0, 0)
  | .r2 => (fqFr 1 2 0, 0)
  | .r3 a => (fqFr 1 3 a, 0)
  | .r4 a => (fqFr 1 4 a, 0)
  | .r5 a => (fqFr 1 5 a, 0)
  | .r6 a => (fqFr 1 6 a, 0)
  | .r7 a => (fqFr 1 7 a, 0)
  | .r8 a => (fqFr 1 8 a, 0)
  | .r9 a => (fqFr 1 9 a, 0)
  | .q0 a => (fqFr 5 0 a, 0)
  | .q1 a => (fqFr 5 1 a, 0)
  | .q5 a => (fqFr 5 5 a, 0)
  | .q6 a => (fqFr 5 6 a, 0)
  | .q7 a => (fqFr 5 7 a, 0)
  | .q8 a => (fqFr 5 8 a, 0)
  | .q9 a => (fqFr 5 9 a, 0)
  | .w0 => (fqFr 3 0 0, 0)
  | .w1 => (fqFr 3 1 0, 0)
  | .w2 => (fqFr 3 2 0, 0)
  | .w3 a => (fqFr 3 3 a, 0)
  | .w4 a => (fqFr 3 4 a, 0)
  | .w5 a => (fqFr 3 5 a, 0)
  | .v0 => (fqFr 4 0 0, 0)
  | .v1 a => (fqFr 4 1 a, 0)
  | .v2 a => (fqFr 4 2 a, 0)
  | .v3 a => (fqFr 4 3 a, 0)
  | .t0 a => (fqFr 6 0 a, 0)
  | .t1 a => (fqFr 6 1 a, 0)
  | .t2 a => (fqFr 6 2 a, 0)
  | .t6 a => (fqFr 6 6 a, 0)
  | .t7 a => (fqFr 6 7 a, 0)
  | .t8 a => (fqFr 6 8 a, 0)
  | .t9 a => (fqFr 6 9 a, 0)
  | .x0 a => (fqFr 7 0 a, 1)
  | .x1 a => (fqFr 7 1 a, 1)
  | .x2 a => (fqFr 7 2 a, 1)
  | .x3 a => (fqFr 7 3 a, 1)
  | .x6 a => (fqFr 7 6 a, 1)
  | .x7 a => (fqFr 7 7 a, 1)
  | .x8 a => (fqFr 7 8 a, 1)
  | .x9 a => (fqFr 7 9 a, 1)
  | .u0 => (fqFr 2 0 0, 0)
  | .d0 => (fqFr 8 0 0, 1)
  | .d1 a => (fqFr 8 1 a, 1)
  | .d2 a => (fqFr 8 2 a, 1)
  | .d3 a => (fqFr 8 3 a, 1)
  | .d4 a => (fqFr 8 4 a, 1)
def fqWait (n t : Nat) : FqP → Option (Nat × (Int → Bool))
  | .r4 _ => some (8 + n + t, fun v => v == 0)
  | .w4 _ => some (8 + n + t, fun v => v == 0)
  | .w5 _ => some (1, fun v => v == 0)
  | .r8 _ => some (8 + t, fun v => v != 0)
  | .q8 _ => some (8 + t, fun v => v != 0)
  | .v2 _ => some (8 + t, fun v => v != 0)
  | .t8 _ => some (8 + t, fun v => v != 0)
  | .x8 _ => some (8 + t, fun v => v != 0)
  | .d3 _ => some (8 + t, fun v => v != 0)
  | _ => none
def fqPost (v : Int) : FqP → FqP
  | .r4 a => .r5 a
  | .w4 a => .w5 a
  | .w5 a => .idle 2
  | .r8 a => .r9 v
  | .q8 a => .q9 v
  | .v2 a => .v3 v
  | .t8 a => .t9 v
  | .x8 a => .x9 v
  | .d3 a => .d4 v
  | p => p
def fqKeep (v : Int) : FqP → Int
  | .r4 a => a
  | .w4 a => a
  | .w5 a => a
  | .r8 a => v
  | .q8 a => v
  | .v2 a => v
  | .t8 a => v
  | .x8 a => v
  | .d3 a => v
  | _ => 0
def fqAct (n t : Nat) (m : Nat → Int) : FqP → FqP × Option (Nat × Int) × Option Nat
  | .r0 => (.r1, some (8 + t, 0), none)
  | .r1 => (.r2, some (8 + n + t, 1), none)
  | .r2 => (if m 0 = 0 then .r5 (m 0) else .r3 (m 0), some (0, (t : Int) + 1), none)
  | .r3 a => (.r4 a, some (8 + (a - 1).toNat, (t : Int) + 1), some (8 + (a - 1).toNat))
  | .w0 => (.w1, some (8 + t, 0), none)
  | .w1 => (.w2, some (8 + n + t, 1), none)
  | .w2 => (if m 0 = 0 then .w5 (m 0) else .w3 (m 0), some (0, (t : Int) + 1), none)
  | .w3 a => (.w4 a, some (8 + (a - 1).toNat, (t : Int) + 1), some (8 + (a - 1).toNat))
  | .r5 a => (.r6 a, some (1, (m 1 + 1) % 4294967296), none)
  | .q5 a => (.q6 a, some (1, (m 1 + 1) % 4294967296), none)
  | .q0 a => (.q1 a, some (8 + t, 0), none)
  | .q1 a => if m 0 = 0 then (.q5 a, some (0, (t : Int) + 1), none) else (.idle 0, none, none)
  | .t0 a => (.t1 a, some (8 + t, 0), none)
  | .t1 a => if m 0 = 0 then (.t2 a, some (0, (t : Int) + 1), none) else (.idle 0, none, none)
  | .x0 a => (.x1 a, some (8 + t, 0), none)
  | .x1 a => if m 0 = 0 then (.x2 a, some (0, (t : Int) + 1), none) else (.idle 1, none, none)
  | .t2 a => (if m 1 = 0 then .idle 2 else .t6 (m 1), none, none)
  | .x2 a => (if m 1 = 1 then .x3 (m 1) else .x6 (m 1), none, none)
  | .x3 a => (.idle 2, some (1, (m 1 + 4294967295) % 4294967296), none)
  | .u0 => (.idle 0, some (1, (m 1 + 4294967295) % 4294967296), some 1)
  | .d0 => (.d1 0, some (1, (m 1 + 1) % 4294967296), none)
  | .r6 a => (if m (8 + t) = 0 then .r7 (m (8 + t)) else .r9 (m (8 + t)), none, none)
  | .r7 a => if m 0 = (t : Int) + 1 then (.idle 1, some (0, 0), none) else (.r8 a, none, none)
  | .r9 a => (.idle 1, some (8 + n + (a - 1).toNat, 0), some (8 + n + (a - 1).toNat))
  | .q6 a => (if m (8 + t) = 0 then .q7 (m (8 + t)) else .q9 (m (8 + t)), none, none)
  | .q7 a => if m 0 = (t : Int) + 1 then (.idle 1, some (0, 0), none) else (.q8 a, none, none)
  | .q9 a => (.idle 1, some (8 + n + (a - 1).toNat, 0), some (8 + n + (a - 1).toNat))
  | .v0 => (if m (8 + t) = 0 then .v1 (m (8 + t)) else .v3 (m (8 + t)), none, none)
  | .v1 a => if m 0 = (t : Int) + 1 then (.idle 0, some (0, 0), none) else (.v2 a, none, none)
  | .v3 a => (.idle 0, some (8 + n + (a - 1).toNat, 0), some (8 + n + (a - 1).toNat))
  | .t6 a => (if m (8 + t) = 0 then .t7 (m (8 + t)) else .t9 (m (8 + t)), none, none)
  | .t7 a => if m 0 = (t : Int) + 1 then (.idle 0, some (0, 0), none) else (.t8 a, none, none)
  | .t9 a => (.idle 0, some (8 + n + (a - 1).toNat, 0), some (8 + n + (a - 1).toNat))
  | .x6 a => (if m (8 + t) = 0 then .x7 (m (8 + t)) else .x9 (m (8 + t)), none, none)
  | .x7 a => if m 0 = (t : Int) + 1 then (.idle 1, some (0, 0), none) else (.x8 a, none, none)
  | .x9 a => (.idle 1, some (8 + n + (a - 1).toNat, 0), some (8 + n + (a - 1).toNat))
  | .d1 a => (if m (8 + t) = 0 then .d2 (m (8 + t)) else .d4 (m (8 + t)), none, none)
  | .d2 a => if m 0 = (t : Int) + 1 then (.idle 1, some (0, 0), none) else (.d3 a, none, none)
  | .d4 a => (.idle 1, some (8 + n + (a - 1).toNat, 0), some (8 + n + (a - 1).toNat))
  | p => (p, none, none)
def fqStart (op h : Int) : FqP := if op = 1 then .r0 else if op = 2 then .u0 else if op = 3 then .w0 else if op = 4 then .v0 else if op = 5 then .q0 0 else if op = 6 then .t0 0 else if op = 7 then .x0 0 else .d0
/-- Where it is with the queue. -/
def fqMk : FqP → Mk
  | .idle h => if h = 2 then .hd else .out
  | .r0 => .out
  | .r1 => .nx
  | .r2 => .nb
  | .r3 a => .e3 a
  | .r4 _ => .e4
  | .r5 _ => .hd
  | .r6 _ => .hd
  | .r7 _ => .g1
  | .r8 _ => .g2
  | .r9 a => .g3 a
  | .q0 _ => .out
  | .q1 _ => .nx
  | .q5 _ => .hd
  | .q6 _ => .hd
  | .q7 _ => .g1
  | .q8 _ => .g2
  | .q9 a => .g3 a
  | .w0 => .out
  | .w1 => .nx
  | .w2 => .nb
  | .w3 a => .e3 a
  | .w4 _ => .e4
  | .w5 _ => .hd
  | .v0 => .hd
  | .v1 _ => .g1
  | .v2 _ => .g2
  | .v3 a => .g3 a
  | .t0 _ => .out
  | .t1 _ => .nx
  | .t2 _ => .hd
  | .t6 _ => .hd
  | .t7 _ => .g1
  | .t8 _ => .g2
  | .t9 a => .g3 a
  | .x0 _ => .out
  | .x1 _ => .nx
  | .x2 _ => .hd
  | .x3 _ => .hd
  | .x6 _ => .hd
  | .x7 _ => .g1
  | .x8 _ => .g2
  | .x9 a => .g3 a
  | .u0 => .out
  | .d0 => .hd
  | .d1 _ => .hd
  | .d2 _ => .g1
  | .d3 _ => .g2
  | .d4 a => .g3 a
/-- One who reads. -/
def fqRd : FqP → Int
  | .idle h => if h = 1 then 1 else 0
  | .r6 _ => 1
  | .r7 _ => 1
  | .r8 _ => 1
  | .r9 _ => 1
  | .q6 _ => 1
  | .q7 _ => 1
  | .q8 _ => 1
  | .q9 _ => 1
  | .x0 _ => 1
  | .x1 _ => 1
  | .x2 _ => 1
  | .x3 _ => 1
  | .x6 _ => 1
  | .x7 _ => 1
  | .x8 _ => 1
  | .x9 _ => 1
  | .u0 => 1
  | .d1 _ => 1
  | .d2 _ => 1
  | .d3 _ => 1
  | .d4 _ => 1
  | _ => 0
def fqOk (n : Nat) (p : FqP) : Prop := ∀ a, (fqMk p = .e3 a ∨ fqMk p = .g3 a) → 1 ≤ a ∧ a ≤ n
def fqK (n : Nat) : LockM FqP := ⟨fqA, fqConc, fun p v => fqKeep v p, fun t p => fqWait n t p, fun p v => fqPost v p, fun t p m => fqAct n t m p, .idle, fqStart, fqOk n⟩

set_option maxHeartbeats 6400000 in
theorem fq_good (n : Nat) (mode : Int) (h1 : 1 ≤ n) (h2 : n ≤ 64) : (fqK n).Good n mode := by
  refine ⟨fun p => by cases p <;> exact ⟨rfl, rfl, rfl⟩, fun h => rfl, fun p hp => ?_, fun p hp => ?_, fun t p c pr hw => ?_, fun op h hm => ?_, fun t op h hm => ?_, fun t p c pr _ htn hw => ?_, fun t p c pr v hw hh => ?_, fun p t s hok ht hw hop hn hmd htk hf hl => ?_, fun p t c pr st s hok ht hw h0 h3 hn hmd htk hf hl => ?_, fun p t c pr v s hok ht hm2 hw hpr hn hmd htk hf hl => ?_⟩
  · cases p <;> first | rfl | (simp [fqK, fqConc, fqFr] at hp)
  · cases p <;> first | (simp [fqK, fqConc, fqFr] at hp; done) | (simp [fqK, fqConc, fqFr] at hp; rw [hp]; rfl)
  · cases p <;> simp [fqK, fqWait] at hw <;> simp [fqK, fqConc, fqFr]
  · rcases may_ops hm with ⟨rfl, rfl | rfl | rfl | rfl⟩ | ⟨rfl, rfl | rfl⟩ | ⟨_, _, rfl | rfl⟩ <;> simp [fqStart, fqK, fqConc, fqFr, frOp, fromA]
  · rcases may_ops hm with ⟨rfl, rfl | rfl | rfl | rfl⟩ | ⟨rfl, rfl | rfl⟩ | ⟨_, _, rfl | rfl⟩ <;> simp [fqK, fqStart, fqWait]
  · cases p <;> simp [fqK, fqWait] at hw <;> omega
  · cases p <;> simp [fqK, fqWait] at hw <;> simp [fqPost, fqK, fqConc, fqFr] at hh ⊢
  · obtain ⟨sn, sm, st, f, acc, notes, L⟩ := s
    simp only at hn hmd htk hf hl
    subst hn hmd htk hf
    have e0 := cell_row (n := n) (row := 0) (i := t) h1 h2 (by omega) (by omega)
    have e1 := cell_row (n := n) (row := 1) (i := t) h1 h2 (by omega) (by omega)
    simp only [Int.zero_mul, Int.add_zero, Int.one_mul] at e0 e1
    have ow : ((t : Int) + 1) % 4294967296 = t + 1 := by omega
    have c0 : (0 : Int).toNat = 0 := rfl
    have c1 : (1 : Int).toNat = 1 := rfl
    have cN : (8 + (t : Int)).toNat = 8 + t := by omega
    have cB : (8 + (n : Int) + t).toNat = 8 + n + t := by omega
    have lN := at_ld (n := n) (L := L) (c := 8 + (t : Int)) hl (by omega) (by omega)
    have sN := fun x => at_st (n := n) (L := L) (c := 8 + (t : Int)) (x := x) hl (by omega) (by omega)
    have sB := fun x => at_st (n := n) (L := L) (c := 8 + (n : Int) + t) (x := x) hl (by omega) (by omega)
    have w0 := fun x => at_sw (n := n) (L := L) (c := 0) (x := x) hl (by decide) (by omega)
    have k0 := fun x y => at_cas (n := n) (L := L) (c := 0) (x := x) (y := y) hl (by decide) (by omega)
    have b0 := fun x y => at_casB (n := n) (L := L) (c := 0) (x := x) (y := y) hl (by decide) (by omega)
    have l1 := at_ld (n := n) (L := L) (c := 1) hl (by decide) (by omega)
    have a1 := fun x => at_ad (n := n) (L := L) (c := 1) (x := x) hl (by decide) (by omega)
    simp only [c0, c1, cN, cB] at lN sN sB w0 k0 b0 l1 a1
    have gN : (1 : Nat) = 1 := rfl
    have gB : (1 : Nat) = 1 := rfl
    show ActIs (fqK n) n p (fqAct n t (mainOf n L) p) _ _
    change fqOk n p at hok
    cases p <;> simp [fqK, fqWait] at hw <;> simp [fqK, fqConc, fqFr, Fr.zero] at hop
    case r0 => constructor <;> simp [fqK, fqConc, fqFr, fqA, fqAct, fqEnter, fqTry, fqGive, fqReader, fqWriter, fqDecide, fqOthers, mxEnter, mxTry, mxGive, mxE0, mxE1, mxE2, mxE3, mxE4, mxG0, mxG1, mxG2, mxG3, mxOwn, wrap64, Rn.fresh, Rn.did, Rn.setA, Rn.setB, Rn.note, Rn.goto, Rn.noted, Rn.fin, Rn.wake, Rn.keep, writtenL, normF, behindA, wkOf, fromA, e0, e1, ow, c0, c1, cN, cB, gN, gB, lN, sN, sB, w0, k0, b0, l1, a1] <;> omega
    case r1 => constructor <;> simp [fqK, fqConc, fqFr, fqA, fqAct, fqEnter, fqTry, fqGive, fqReader, fqWriter, fqDecide, fqOthers, mxEnter, mxTry, mxGive, mxE0, mxE1, mxE2, mxE3, mxE4, mxG0, mxG1, mxG2, mxG3, mxOwn, wrap64, Rn.fresh, Rn.did, Rn.setA, Rn.setB, Rn.note, Rn.goto, Rn.noted, Rn.fin, Rn.wake, Rn.keep, writtenL, normF, behindA, wkOf, fromA, e0, e1, ow, c0, c1, cN, cB, gN, gB, lN, sN, sB, w0, k0, b0, l1, a1] <;> omega
    case r2 => by_cases q0 : mainOf n L 0 = 0 <;> constructor <;> simp [fqK, fqConc, fqFr, fqA, fqAct, fqEnter, fqTry, fqGive, fqReader, fqWriter, fqDecide, fqOthers, mxEnter, mxTry, mxGive, mxE0, mxE1, mxE2, mxE3, mxE4, mxG0, mxG1, mxG2, mxG3, mxOwn, wrap64, Rn.fresh, Rn.did, Rn.setA, Rn.setB, Rn.note, Rn.goto, Rn.noted, Rn.fin, Rn.wake, Rn.keep, writtenL, normF, behindA, wkOf, fromA, q0, e0, e1, ow, c0, c1, cN, cB, gN, gB, lN, sN, sB, w0, k0, b0, l1, a1] <;> omega
    case r3 a => obtain ⟨k, rfl⟩ : ∃ k : Nat, a = (k : Int) + 1 := ⟨(a - 1).toNat, (by have := hok a (by simp [fqMk]); omega)⟩; have ho := hok (k + 1) (by simp [fqMk]); have eA := cell_row (n := n) (row := 0) (i := k) h1 h2 (by omega) (by omega); have eT := at_st (n := n) (L := L) (c := 8 + (k : Int)) (x := (t : Int) + 1) hl (by omega) (by omega); have eZ : (8 + (k : Int)).toNat = 8 + k := (by omega); have eK : (k : Int) + 1 - 1 = k := (by omega); simp only [Int.zero_mul, Int.add_zero, Int.one_mul] at eA; rw [eZ] at eT; constructor <;> simp [fqK, fqConc, fqFr, fqA, fqAct, fqEnter, fqTry, fqGive, fqReader, fqWriter, fqDecide, fqOthers, mxEnter, mxTry, mxGive, mxE0, mxE1, mxE2, mxE3, mxE4, mxG0, mxG1, mxG2, mxG3, mxOwn, wrap64, Rn.fresh, Rn.did, Rn.setA, Rn.setB, Rn.note, Rn.goto, Rn.noted, Rn.fin, Rn.wake, Rn.keep, writtenL, normF, behindA, wkOf, fromA, eA, eT, eK, e0, e1, ow, c0, c1, cN, cB, gN, gB, lN, sN, sB, w0, k0, b0, l1, a1] <;> omega
    case r5 a => constructor <;> simp [fqK, fqConc, fqFr, fqA, fqAct, fqEnter, fqTry, fqGive, fqReader, fqWriter, fqDecide, fqOthers, mxEnter, mxTry, mxGive, mxE0, mxE1, mxE2, mxE3, mxE4, mxG0, mxG1, mxG2, mxG3, mxOwn, wrap64, Rn.fresh, Rn.did, Rn.setA, Rn.setB, Rn.note, Rn.goto, Rn.noted, Rn.fin, Rn.wake, Rn.keep, writtenL, normF, behindA, wkOf, fromA, e0, e1, ow, c0, c1, cN, cB, gN, gB, lN, sN, sB, w0, k0, b0, l1, a1] <;> omega
    case r6 a => by_cases q0 : mainOf n L (8 + t) = 0 <;> constructor <;> simp [fqK, fqConc, fqFr, fqA, fqAct, fqEnter, fqTry, fqGive, fqReader, fqWriter, fqDecide, fqOthers, mxEnter, mxTry, mxGive, mxE0, mxE1, mxE2, mxE3, mxE4, mxG0, mxG1, mxG2, mxG3, mxOwn, wrap64, Rn.fresh, Rn.did, Rn.setA, Rn.setB, Rn.note, Rn.goto, Rn.noted, Rn.fin, Rn.wake, Rn.keep, writtenL, normF, behindA, wkOf, fromA, q0, e0, e1, ow, c0, c1, cN, cB, gN, gB, lN, sN, sB, w0, k0, b0, l1, a1] <;> omega
    case r7 a => by_cases q0 : mainOf n L 0 = (t : Int) + 1 <;> constructor <;> simp [fqK, fqConc, fqFr, fqA, fqAct, fqEnter, fqTry, fqGive, fqReader, fqWriter, fqDecide, fqOthers, mxEnter, mxTry, mxGive, mxE0, mxE1, mxE2, mxE3, mxE4, mxG0, mxG1, mxG2, mxG3, mxOwn, wrap64, Rn.fresh, Rn.did, Rn.setA, Rn.setB, Rn.note, Rn.goto, Rn.noted, Rn.fin, Rn.wake, Rn.keep, writtenL, normF, behindA, wkOf, fromA, q0, e0, e1, ow, c0, c1, cN, cB, gN, gB, lN, sN, sB, w0, k0, b0, l1, a1] <;> omega
    case r9 a => obtain ⟨k, rfl⟩ : ∃ k : Nat, a = (k : Int) + 1 := ⟨(a - 1).toNat, (by have := hok a (by simp [fqMk]); omega)⟩; have ho := hok (k + 1) (by simp [fqMk]); have eA := cell_row (n := n) (row := 1) (i := k) h1 h2 (by omega) (by omega); have eT := at_st (n := n) (L := L) (c := 8 + (n : Int) + (k : Int)) (x := 0) hl (by omega) (by omega); have eZ : (8 + (n : Int) + (k : Int)).toNat = 8 + n + k := (by omega); have eK : (k : Int) + 1 - 1 = k := (by omega); simp only [Int.zero_mul, Int.add_zero, Int.one_mul] at eA; rw [eZ] at eT; constructor <;> simp [fqK, fqConc, fqFr, fqA, fqAct, fqEnter, fqTry, fqGive, fqReader, fqWriter, fqDecide, fqOthers, mxEnter, mxTry, mxGive, mxE0, mxE1, mxE2, mxE3, mxE4, mxG0, mxG1, mxG2, mxG3, mxOwn, wrap64, Rn.fresh, Rn.did, Rn.setA, Rn.setB, Rn.note, Rn.goto, Rn.noted, Rn.fin, Rn.wake, Rn.keep, writtenL, normF, behindA, wkOf, fromA, eA, eT, eK, e0, e1, ow, c0, c1, cN, cB, gN, gB, lN, sN, sB, w0, k0, b0, l1, a1] <;> omega
    case q0 a => constructor <;> simp [fqK, fqConc, fqFr, fqA, fqAct, fqEnter, fqTry, fqGive, fqReader, fqWriter, fqDecide, fqOthers, mxEnter, mxTry, mxGive, mxE0, mxE1, mxE2, mxE3, mxE4, mxG0, mxG1, mxG2, mxG3, mxOwn, wrap64, Rn.fresh, Rn.did, Rn.setA, Rn.setB, Rn.note, Rn.goto, Rn.noted, Rn.fin, Rn.wake, Rn.keep, writtenL, normF, behindA, wkOf, fromA, e0, e1, ow, c0, c1, cN, cB, gN, gB, lN, sN, sB, w0, k0, b0, l1, a1] <;> omega
    case q1 a => by_cases q0 : mainOf n L 0 = 0 <;> constructor <;> simp [fqK, fqConc, fqFr, fqA, fqAct, fqEnter, fqTry, fqGive, fqReader, fqWriter, fqDecide, fqOthers, mxEnter, mxTry, mxGive, mxE0, mxE1, mxE2, mxE3, mxE4, mxG0, mxG1, mxG2, mxG3, mxOwn, wrap64, Rn.fresh, Rn.did, Rn.setA, Rn.setB, Rn.note, Rn.goto, Rn.noted, Rn.fin, Rn.wake, Rn.keep, writtenL, normF, behindA, wkOf, fromA, q0, e0, e1, ow, c0, c1, cN, cB, gN, gB, lN, sN, sB, w0, k0, b0, l1, a1] <;> omega
    case q5 a => constructor <;> simp [fqK, fqConc, fqFr, fqA, fqAct, fqEnter, fqTry, fqGive, fqReader, fqWriter, fqDecide, fqOthers, mxEnter, mxTry, mxGive, mxE0, mxE1, mxE2, mxE3, mxE4, mxG0, mxG1, mxG2, mxG3, mxOwn, wrap64, Rn.fresh, Rn.did, Rn.setA, Rn.setB, Rn.note, Rn.goto, Rn.noted, Rn.fin, Rn.wake, Rn.keep, writtenL, normF, behindA, wkOf, fromA, e0, e1, ow, c0, c1, cN, cB, gN, gB, lN, sN, sB, w0, k0, b0, l1, a1] <;> omega
    case q6 a => by_cases q0 : mainOf n L (8 + t) = 0 <;> constructor <;> simp [fqK, fqConc, fqFr, fqA, fqAct, fqEnter, fqTry, fqGive, fqReader, fqWriter, fqDecide, fqOthers, mxEnter, mxTry, mxGive, mxE0, mxE1, mxE2, mxE3, mxE4, mxG0, mxG1, mxG2, mxG3, mxOwn, wrap64, Rn.fresh, Rn.did, Rn.setA, Rn.setB, Rn.note, Rn.goto, Rn.noted, Rn.fin, Rn.wake, Rn.keep, writtenL, normF, behindA, wkOf, fromA, q0, e0, e1, ow, c0, c1, cN, cB, gN, gB, lN, sN, sB, w0, k0, b0, l1, a1] <;> omega
    case q7 a => by_cases q0 : mainOf n L 0 = (t : Int) + 1 <;> constructor <;> simp [fqK, fqConc, fqFr, fqA, fqAct, fqEnter, fqTry, fqGive, fqReader, fqWriter, fqDecide, fqOthers, mxEnter, mxTry, mxGive, mxE0, mxE1, mxE2, mxE3, mxE4, mxG0, mxG1, mxG2, mxG3, mxOwn, wrap64, Rn.fresh, Rn.did, Rn.setA, Rn.setB, Rn.note, Rn.goto, Rn.noted, Rn.fin, Rn.wake, Rn.keep, writtenL, normF, behindA, wkOf, fromA, q0, e0, e1, ow, c0, c1, cN, cB, gN, gB, lN, sN, sB, w0, k0, b0, l1, a1] <;> omega
    case q9 a => obtain ⟨k, rfl⟩ : ∃ k : Nat, a = (k : Int) + 1 := ⟨(a - 1).toNat, (by have := hok a (by simp [fqMk]); omega)⟩; have ho := hok (k + 1) (by simp [fqMk]); have eA := cell_row (n := n) (row := 1) (i := k) h1 h2 (by omega) (by omega); have eT := at_st (n := n) (L := L) (c := 8 + (n : Int) + (k : Int)) (x := 0) hl (by omega) (by omega); have eZ : (8 + (n : Int) + (k : Int)).toNat = 8 + n + k := (by omega); have eK : (k : Int) + 1 - 1 = k := (by omega); simp only [Int.zero_mul, Int.add_zero, Int.one_mul] at eA; rw [eZ] at eT; constructor <;> simp [fqK, fqConc, fqFr, fqA, fqAct, fqEnter, fqTry, fqGive, fqReader, fqWriter, fqDecide, fqOthers, mxEnter, mxTry, mxGive, mxE0, mxE1, mxE2, mxE3, mxE4, mxG0, mxG1, mxG2, mxG3, mxOwn, wrap64, Rn.fresh, Rn.did, Rn.setA, Rn.setB, Rn.note, Rn.goto, Rn.noted, Rn.fin, Rn.wake, Rn.keep, writtenL, normF, behindA, wkOf, fromA, eA, eT, eK, e0, e1, ow, c0, c1, cN, cB, gN, gB, lN, sN, sB, w0, k0, b0, l1, a1] <;> omega
    case w0 => constructor <;> simp [fqK, fqConc, fqFr, fqA, fqAct, fqEnter, fqTry, fqGive, fqReader, fqWriter, fqDecide, fqOthers, mxEnter, mxTry, mxGive, mxE0, mxE1, mxE2, mxE3, mxE4, mxG0, mxG1, mxG2, mxG3, mxOwn, wrap64, Rn.fresh, Rn.did, Rn.setA, Rn.setB, Rn.note, Rn.goto, Rn.noted, Rn.fin, Rn.wake, Rn.keep, writtenL, normF, behindA, wkOf, fromA, e0, e1, ow, c0, c1, cN, cB, gN, gB, lN, sN, sB, w0, k0, b0, l1, a1] <;> omega
    case w1 => constructor <;> simp [fqK, fqConc, fqFr, fqA, fqAct, fqEnter, fqTry, fqGive, fqReader, fqWriter, fqDecide, fqOthers, mxEnter, mxTry, mxGive, mxE0, mxE1, mxE2, mxE3, mxE4, mxG0, mxG1, mxG2, mxG3, mxOwn, wrap64, Rn.fresh, Rn.did, Rn.setA, Rn.setB, Rn.note, Rn.goto, Rn.noted, Rn.fin, Rn.wake, Rn.keep, writtenL, normF, behindA, wkOf, fromA, e0, e1, ow, c0, c1, cN, cB, gN, gB, lN, sN, sB, w0, k0, b0, l1, a1] <;> omega
    case w2 => by_cases q0 : mainOf n L 0 = 0 <;> constructor <;> simp [fqK, fqConc, fqFr, fqA, fqAct, fqEnter, fqTry, fqGive, fqReader, fqWriter, fqDecide, fqOthers, mxEnter, mxTry, mxGive, mxE0, mxE1, mxE2, mxE3, mxE4, mxG0, mxG1, mxG2, mxG3, mxOwn, wrap64, Rn.fresh, Rn.did, Rn.setA, Rn.setB, Rn.note, Rn.goto, Rn.noted, Rn.fin, Rn.wake, Rn.keep, writtenL, normF, behindA, wkOf, fromA, q0, e0, e1, ow, c0, c1, cN, cB, gN, gB, lN, sN, sB, w0, k0, b0, l1, a1] <;> omega
    case w3 a => obtain ⟨k, rfl⟩ : ∃ k : Nat, a = (k : Int) + 1 := ⟨(a - 1).toNat, (by have := hok a (by simp [fqMk]); omega)⟩; have ho := hok (k + 1) (by simp [fqMk]); have eA := cell_row (n := n) (row := 0) (i := k) h1 h2 (by omega) (by omega); have eT := at_st (n := n) (L := L) (c := 8 + (k : Int)) (x := (t : Int) + 1) hl (by omega) (by omega); have eZ : (8 + (k : Int)).toNat = 8 + k := (by omega); have eK : (k : Int) + 1 - 1 = k := (by omega); simp only [Int.zero_mul, Int.add_zero, Int.one_mul] at eA; rw [eZ] at eT; constructor <;> simp [fqK, fqConc, fqFr, fqA, fqAct, fqEnter, fqTry, fqGive, fqReader, fqWriter, fqDecide, fqOthers, mxEnter, mxTry, mxGive, mxE0, mxE1, mxE2, mxE3, mxE4, mxG0, mxG1, mxG2, mxG3, mxOwn, wrap64, Rn.fresh, Rn.did, Rn.setA, Rn.setB, Rn.note, Rn.goto, Rn.noted, Rn.fin, Rn.wake, Rn.keep, writtenL, normF, behindA, wkOf, fromA, eA, eT, eK, e0, e1, ow, c0, c1, cN, cB, gN, gB, lN, sN, sB, w0, k0, b0, l1, a1] <;> omega
    case v0 => by_cases q0 : mainOf n L (8 + t) = 0 <;> constructor <;> simp [fqK, fqConc, fqFr, fqA, fqAct, fqEnter, fqTry, fqGive, fqReader, fqWriter, fqDecide, fqOthers, mxEnter, mxTry, mxGive, mxE0, mxE1, mxE2, mxE3, mxE4, mxG0, mxG1, mxG2, mxG3, mxOwn, wrap64, Rn.fresh, Rn.did, Rn.setA, Rn.setB, Rn.note, Rn.goto, Rn.noted, Rn.fin, Rn.wake, Rn.keep, writtenL, normF, behindA, wkOf, fromA, q0, e0, e1, ow, c0, c1, cN, cB, gN, gB, lN, sN, sB, w0, k0, b0, l1, a1] <;> omega
    case v1 a => by_cases q0 : mainOf n L 0 = (t : Int) + 1 <;> constructor <;> simp [fqK, fqConc, fqFr, fqA, fqAct, fqEnter, fqTry, fqGive, fqReader, fqWriter, fqDecide, fqOthers, mxEnter, mxTry, mxGive, mxE0, mxE1, mxE2, mxE3, mxE4, mxG0, mxG1, mxG2, mxG3, mxOwn, wrap64, Rn.fresh, Rn.did, Rn.setA, Rn.setB, Rn.note, Rn.goto, Rn.noted, Rn.fin, Rn.wake, Rn.keep, writtenL, normF, behindA, wkOf, fromA, q0, e0, e1, ow, c0, c1, cN, cB, gN, gB, lN, sN, sB, w0, k0, b0, l1, a1] <;> omega
    case v3 a => obtain ⟨k, rfl⟩ : ∃ k : Nat, a = (k : Int) + 1 := ⟨(a - 1).toNat, (by have := hok a (by simp [fqMk]); omega)⟩; have ho := hok (k + 1) (by simp [fqMk]); have eA := cell_row (n := n) (row := 1) (i := k) h1 h2 (by omega) (by omega); have eT := at_st (n := n) (L := L) (c := 8 + (n : Int) + (k : Int)) (x := 0) hl (by omega) (by omega); have eZ : (8 + (n : Int) + (k : Int)).toNat = 8 + n + k := (by omega); have eK : (k : Int) + 1 - 1 = k := (by omega); simp only [Int.zero_mul, Int.add_zero, Int.one_mul] at eA; rw [eZ] at eT; constructor <;> simp [fqK, fqConc, fqFr, fqA, fqAct, fqEnter, fqTry, fqGive, fqReader, fqWriter, fqDecide, fqOthers, mxEnter, mxTry, mxGive, mxE0, mxE1, mxE2, mxE3, mxE4, mxG0, mxG1, mxG2, mxG3, mxOwn, wrap64, Rn.fresh, Rn.did, Rn.setA, Rn.setB, Rn.note, Rn.goto, Rn.noted, Rn.fin, Rn.wake, Rn.keep, writtenL, normF, behindA, wkOf, fromA, eA, eT, eK, e0, e1, ow, c0, c1, cN, cB, gN, gB, lN, sN, sB, w0, k0, b0, l1, a1] <;> omega
    case t0 a => constructor <;> simp [fqK, fqConc, fqFr, fqA, fqAct, fqEnter, fqTry, fqGive, fqReader, fqWriter, fqDecide, fqOthers, mxEnter, mxTry, mxGive, mxE0, mxE1, mxE2, mxE3, mxE4, mxG0, mxG1, mxG2, mxG3, mxOwn, wrap64, Rn.fresh, Rn.did, Rn.setA, Rn.setB, Rn.note, Rn.goto, Rn.noted, Rn.fin, Rn.wake, Rn.keep, writtenL, normF, behindA, wkOf, fromA, e0, e1, ow, c0, c1, cN, cB, gN, gB, lN, sN, sB, w0, k0, b0, l1, a1] <;> omega
    case t1 a => by_cases q0 : mainOf n L 0 = 0 <;> constructor <;> simp [fqK, fqConc, fqFr, fqA, fqAct, fqEnter, fqTry, fqGive, fqReader, fqWriter, fqDecide, fqOthers, mxEnter, mxTry, mxGive, mxE0, mxE1, mxE2, mxE3, mxE4, mxG0, mxG1, mxG2, mxG3, mxOwn, wrap64, Rn.fresh, Rn.did, Rn.setA, Rn.setB, Rn.note, Rn.goto, Rn.noted, Rn.fin, Rn.wake, Rn.keep, writtenL, normF, behindA, wkOf, fromA, q0, e0, e1, ow, c0, c1, cN, cB, gN, gB, lN, sN, sB, w0, k0, b0, l1, a1] <;> omega
    case t2 a => by_cases q0 : mainOf n L 1 = 0 <;> constructor <;> simp [fqK, fqConc, fqFr, fqA, fqAct, fqEnter, fqTry, fqGive, fqReader, fqWriter, fqDecide, fqOthers, mxEnter, mxTry, mxGive, mxE0, mxE1, mxE2, mxE3, mxE4, mxG0, mxG1, mxG2, mxG3, mxOwn, wrap64, Rn.fresh, Rn.did, Rn.setA, Rn.setB, Rn.note, Rn.goto, Rn.noted, Rn.fin, Rn.wake, Rn.keep, writtenL, normF, behindA, wkOf, fromA, q0, e0, e1, ow, c0, c1, cN, cB, gN, gB, lN, sN, sB, w0, k0, b0, l1, a1] <;> omega
    case t6 a => by_cases q0 : mainOf n L (8 + t) = 0 <;> constructor <;> simp [fqK, fqConc, fqFr, fqA, fqAct, fqEnter, fqTry, fqGive, fqReader, fqWriter, fqDecide, fqOthers, mxEnter, mxTry, mxGive, mxE0, mxE1, mxE2, mxE3, mxE4, mxG0, mxG1, mxG2, mxG3, mxOwn, wrap64, Rn.fresh, Rn.did, Rn.setA, Rn.setB, Rn.note, Rn.goto, Rn.noted, Rn.fin, Rn.wake, Rn.keep, writtenL, normF, behindA, wkOf, fromA, q0, e0, e1, ow, c0, c1, cN, cB, gN, gB, lN, sN, sB, w0, k0, b0, l1, a1] <;> omega
    case t7 a => by_cases q0 : mainOf n L 0 = (t : Int) + 1 <;> constructor <;> simp [fqK, fqConc, fqFr, fqA, fqAct, fqEnter, fqTry, fqGive, fqReader, fqWriter, fqDecide, fqOthers, mxEnter, mxTry, mxGive, mxE0, mxE1, mxE2, mxE3, mxE4, mxG0, mxG1, mxG2, mxG3, mxOwn, wrap64, Rn.fresh, Rn.did, Rn.setA, Rn.setB, Rn.note, Rn.goto, Rn.noted, Rn.fin, Rn.wake, Rn.keep, writtenL, normF, behindA, wkOf, fromA, q0, e0, e1, ow, c0, c1, cN, cB, gN, gB, lN, sN, sB, w0, k0, b0, l1, a1] <;> omega
    case t9 a => obtain ⟨k, rfl⟩ : ∃ k : Nat, a = (k : Int) + 1 := ⟨(a - 1).toNat, (by have := hok a (by simp [fqMk]); omega)⟩; have ho := hok (k + 1) (by simp [fqMk]); have eA := cell_row (n := n) (row := 1) (i := k) h1 h2 (by omega) (by omega); have eT := at_st (n := n) (L := L) (c := 8 + (n : Int) + (k : Int)) (x := 0) hl (by omega) (by omega); have eZ : (8 + (n : Int) + (k : Int)).toNat = 8 + n + k := (by omega); have eK : (k : Int) + 1 - 1 = k := (by omega); simp only [Int.zero_mul, Int.add_zero, Int.one_mul] at eA; rw [eZ] at eT; constructor <;> simp [fqK, fqConc, fqFr, fqA, fqAct, fqEnter, fqTry, fqGive, fqReader, fqWriter, fqDecide, fqOthers, mxEnter, mxTry, mxGive, mxE0, mxE1, mxE2, mxE3, mxE4, mxG0, mxG1, mxG2, mxG3, mxOwn, wrap64, Rn.fresh, Rn.did, Rn.setA, Rn.setB, Rn.note, Rn.goto, Rn.noted, Rn.fin, Rn.wake, Rn.keep, writtenL, normF, behindA, wkOf, fromA, eA, eT, eK, e0, e1, ow, c0, c1, cN, cB, gN, gB, lN, sN, sB, w0, k0, b0, l1, a1] <;> omega
    case x0 a => constructor <;> simp [fqK, fqConc, fqFr, fqA, fqAct, fqEnter, fqTry, fqGive, fqReader, fqWriter, fqDecide, fqOthers, mxEnter, mxTry, mxGive, mxE0, mxE1, mxE2, mxE3, mxE4, mxG0, mxG1, mxG2, mxG3, mxOwn, wrap64, Rn.fresh, Rn.did, Rn.setA, Rn.setB, Rn.note, Rn.goto, Rn.noted, Rn.fin, Rn.wake, Rn.keep, writtenL, normF, behindA, wkOf, fromA, e0, e1, ow, c0, c1, cN, cB, gN, gB, lN, sN, sB, w0, k0, b0, l1, a1] <;> omega
    case x1 a => by_cases q0 : mainOf n L 0 = 0 <;> constructor <;> simp [fqK, fqConc, fqFr, fqA, fqAct, fqEnter, fqTry, fqGive, fqReader, fqWriter, fqDecide, fqOthers, mxEnter, mxTry, mxGive, mxE0, mxE1, mxE2, mxE3, mxE4, mxG0, mxG1, mxG2, mxG3, mxOwn, wrap64, Rn.fresh, Rn.did, Rn.setA, Rn.setB, Rn.note, Rn.goto, Rn.noted, Rn.fin, Rn.wake, Rn.keep, writtenL, normF, behindA, wkOf, fromA, q0, e0, e1, ow, c0, c1, cN, cB, gN, gB, lN, sN, sB, w0, k0, b0, l1, a1] <;> omega
    case x2 a => by_cases q0 : mainOf n L 1 = 1 <;> constructor <;> simp [fqK, fqConc, fqFr, fqA, fqAct, fqEnter, fqTry, fqGive, fqReader, fqWriter, fqDecide, fqOthers, mxEnter, mxTry, mxGive, mxE0, mxE1, mxE2, mxE3, mxE4, mxG0, mxG1, mxG2, mxG3, mxOwn, wrap64, Rn.fresh, Rn.did, Rn.setA, Rn.setB, Rn.note, Rn.goto, Rn.noted, Rn.fin, Rn.wake, Rn.keep, writtenL, normF, behindA, wkOf, fromA, q0, e0, e1, ow, c0, c1, cN, cB, gN, gB, lN, sN, sB, w0, k0, b0, l1, a1] <;> omega
    case x3 a => constructor <;> simp [fqK, fqConc, fqFr, fqA, fqAct, fqEnter, fqTry, fqGive, fqReader, fqWriter, fqDecide, fqOthers, mxEnter, mxTry, mxGive, mxE0, mxE1, mxE2, mxE3, mxE4, mxG0, mxG1, mxG2, mxG3, mxOwn, wrap64, Rn.fresh, Rn.did, Rn.setA, Rn.setB, Rn.note, Rn.goto, Rn.noted, Rn.fin, Rn.wake, Rn.keep, writtenL, normF, behindA, wkOf, fromA, e0, e1, ow, c0, c1, cN, cB, gN, gB, lN, sN, sB, w0, k0, b0, l1, a1] <;> omega
    case x6 a => by_cases q0 : mainOf n L (8 + t) = 0 <;> constructor <;> simp [fqK, fqConc, fqFr, fqA, fqAct, fqEnter, fqTry, fqGive, fqReader, fqWriter, fqDecide, fqOthers, mxEnter, mxTry, mxGive, mxE0, mxE1, mxE2, mxE3, mxE4, mxG0, mxG1, mxG2, mxG3, mxOwn, wrap64, Rn.fresh, Rn.did, Rn.setA, Rn.setB, Rn.note, Rn.goto, Rn.noted, Rn.fin, Rn.wake, Rn.keep, writtenL, normF, behindA, wkOf, fromA, q0, e0, e1, ow, c0, c1, cN, cB, gN, gB, lN, sN, sB, w0, k0, b0, l1, a1] <;> omega
    case x7 a => by_cases q0 : mainOf n L 0 = (t : Int) + 1 <;> constructor <;> simp [fqK, fqConc, fqFr, fqA, fqAct, fqEnter, fqTry, fqGive, fqReader, fqWriter, fqDecide, fqOthers, mxEnter, mxTry, mxGive, mxE0, mxE1, mxE2, mxE3, mxE4, mxG0, mxG1, mxG2, mxG3, mxOwn, wrap64, Rn.fresh, Rn.did, Rn.setA, Rn.setB, Rn.note, Rn.goto, Rn.noted, Rn.fin, Rn.wake, Rn.keep, writtenL, normF, behindA, wkOf, fromA, q0, e0, e1, ow, c0, c1, cN, cB, gN, gB, lN, sN, sB, w0, k0, b0, l1, a1] <;> omega
    case x9 a => obtain ⟨k, rfl⟩ : ∃ k : Nat, a = (k : Int) + 1 := ⟨(a - 1).toNat, (by have := hok a (by simp [fqMk]); omega)⟩; have ho := hok (k + 1) (by simp [fqMk]); have eA := cell_row (n := n) (row := 1) (i := k) h1 h2 (by omega) (by omega); have eT := at_st (n := n) (L := L) (c := 8 + (n : Int) + (k : Int)) (x := 0) hl (by omega) (by omega); have eZ : (8 + (n : Int) + (k : Int)).toNat = 8 + n + k := (by omega); have eK : (k : Int) + 1 - 1 = k := (by omega); simp only [Int.zero_mul, Int.add_zero, Int.one_mul] at eA; rw [eZ] at eT; constructor <;> simp [fqK, fqConc, fqFr, fqA, fqAct, fqEnter, fqTry, fqGive, fqReader, fqWriter, fqDecide, fqOthers, mxEnter, mxTry, mxGive, mxE0, mxE1, mxE2, mxE3, mxE4, mxG0, mxG1, mxG2, mxG3, mxOwn, wrap64, Rn.fresh, Rn.did, Rn.setA, Rn.setB, Rn.note, Rn.goto, Rn.noted, Rn.fin, Rn.wake, Rn.keep, writtenL, normF, behindA, wkOf, fromA, eA, eT, eK, e0, e1, ow, c0, c1, cN, cB, gN, gB, lN, sN, sB, w0, k0, b0, l1, a1] <;> omega
    case u0 => constructor <;> simp [fqK, fqConc, fqFr, fqA, fqAct, fqEnter, fqTry, fqGive, fqReader, fqWriter, fqDecide, fqOthers, mxEnter, mxTry, mxGive, mxE0, mxE1, mxE2, mxE3, mxE4, mxG0, mxG1, mxG2, mxG3, mxOwn, wrap64, Rn.fresh, Rn.did, Rn.setA, Rn.setB, Rn.note, Rn.goto, Rn.noted, Rn.fin, Rn.wake, Rn.keep, writtenL, normF, behindA, wkOf, fromA, e0, e1, ow, c0, c1, cN, cB, gN, gB, lN, sN, sB, w0, k0, b0, l1, a1] <;> omega
    case d0 => constructor <;> simp [fqK, fqConc, fqFr, fqA, fqAct, fqEnter, fqTry, fqGive, fqReader, fqWriter, fqDecide, fqOthers, mxEnter, mxTry, mxGive, mxE0, mxE1, mxE2, mxE3, mxE4, mxG0, mxG1, mxG2, mxG3, mxOwn, wrap64, Rn.fresh, Rn.did, Rn.setA, Rn.setB, Rn.note, Rn.goto, Rn.noted, Rn.fin, Rn.wake, Rn.keep, writtenL, normF, behindA, wkOf, fromA, e0, e1, ow, c0, c1, cN, cB, gN, gB, lN, sN, sB, w0, k0, b0, l1, a1] <;> omega
    case d1 a => by_cases q0 : mainOf n L (8 + t) = 0 <;> constructor <;> simp [fqK, fqConc, fqFr, fqA, fqAct, fqEnter, fqTry, fqGive, fqReader, fqWriter, fqDecide, fqOthers, mxEnter, mxTry, mxGive, mxE0, mxE1, mxE2, mxE3, mxE4, mxG0, mxG1, mxG2, mxG3, mxOwn, wrap64, Rn.fresh, Rn.did, Rn.setA, Rn.setB, Rn.note, Rn.goto, Rn.noted, Rn.fin, Rn.wake, Rn.keep, writtenL, normF, behindA, wkOf, fromA, q0, e0, e1, ow, c0, c1, cN, cB, gN, gB, lN, sN, sB, w0, k0, b0, l1, a1] <;> omega
    case d2 a => by_cases q0 : mainOf n L 0 = (t : Int) + 1 <;> constructor <;> simp [fqK, fqConc, fqFr, fqA, fqAct, fqEnter, fqTry, fqGive, fqReader, fqWriter, fqDecide, fqOthers, mxEnter, mxTry, mxGive, mxE0, mxE1, mxE2, mxE3, mxE4, mxG0, mxG1, mxG2, mxG3, mxOwn, wrap64, Rn.fresh, Rn.did, Rn.setA, Rn.setB, Rn.note, Rn.goto, Rn.noted, Rn.fin, Rn.wake, Rn.keep, writtenL, normF, behindA, wkOf, fromA, q0, e0, e1, ow, c0, c1, cN, cB, gN, gB, lN, sN, sB, w0, k0, b0, l1, a1] <;> omega
    case d4 a => obtain ⟨k, rfl⟩ : ∃ k : Nat, a = (k : Int) + 1 := ⟨(a - 1).toNat, (by have := hok a (by simp [fqMk]); omega)⟩; have ho := hok (k + 1) (by simp [fqMk]); have eA := cell_row (n := n) (row := 1) (i := k) h1 h2 (by omega) (by omega); have eT := at_st (n := n) (L := L) (c := 8 + (n : Int) + (k : Int)) (x := 0) hl (by omega) (by omega); have eZ : (8 + (n : Int) + (k : Int)).toNat = 8 + n + k := (by omega); have eK : (k : Int) + 1 - 1 = k := (by omega); simp only [Int.zero_mul, Int.add_zero, Int.one_mul] at eA; rw [eZ] at eT; constructor <;> simp [fqK, fqConc, fqFr, fqA, fqAct, fqEnter, fqTry, fqGive, fqReader, fqWriter, fqDecide, fqOthers, mxEnter, mxTry, mxGive, mxE0, mxE1, mxE2, mxE3, mxE4, mxG0, mxG1, mxG2, mxG3, mxOwn, wrap64, Rn.fresh, Rn.did, Rn.setA, Rn.setB, Rn.note, Rn.goto, Rn.noted, Rn.fin, Rn.wake, Rn.keep, writtenL, normF, behindA, wkOf, fromA, eA, eT, eK, e0, e1, ow, c0, c1, cN, cB, gN, gB, lN, sN, sB, w0, k0, b0, l1, a1] <;> omega
  · obtain ⟨sn, sm, stk, f, acc, notes, L⟩ := s
    simp only at hn hmd htk hf hl
    subst hn hmd htk hf
    have e0 := cell_row (n := n) (row := 0) (i := t) h1 h2 (by omega) (by omega)
    have e1 := cell_row (n := n) (row := 1) (i := t) h1 h2 (by omega) (by omega)
    simp only [Int.zero_mul, Int.add_zero, Int.one_mul] at e0 e1
    cases p <;> simp [fqK, fqWait] at hw
    case r4 a =>
      obtain ⟨rfl, rfl⟩ := hw
      have hd := fun h => wait_done (L := L) (n := n) (mode := sm) (task := t) (st := st) (c := (8 + (n : Int) + t)) (p := fun v => v == 0) h
      have hs := fun h => wait_ds (L := L) (n := n) (mode := sm) (task := t) (st := st) (c := (8 + (n : Int) + t)) (p := fun v => v == 0) h0 h3 h
      have hc : ((8 + n + t : Nat) : Int) = 8 + (n : Int) + t := by omega
      simp [fqK, fqConc, fqFr, fqA, fqAct, fqEnter, fqTry, fqGive, fqReader, fqWriter, fqDecide, fqOthers, mxEnter, mxTry, mxGive, mxE0, mxE1, mxE2, mxE3, mxE4, mxG0, mxG1, mxG2, mxG3, mxOwn, wrap64, Rn.fresh, Rn.did, Rn.setA, Rn.setB, Rn.note, Rn.goto, Rn.noted, Rn.fin, Rn.wake, Rn.keep, writtenL, normF, behindA, wkOf, fromA, Rn.waited, fqKeep, fqPost, e0, e1, hc]
      generalize waitA L n sm t st (8 + (n : Int) + t) (fun v => v == 0) = R at hd hs ⊢
      obtain ⟨rs, ra, rsn, rd, rw_⟩ := R
      cases rsn <;> cases rd <;> simp [Rn.note, Rn.fin, Rn.goto, Rn.setA, normF, behindA] at hd hs ⊢ <;> simp [hd, Wk.zero]
    case w4 a =>
      obtain ⟨rfl, rfl⟩ := hw
      have hd := fun h => wait_done (L := L) (n := n) (mode := sm) (task := t) (st := st) (c := (8 + (n : Int) + t)) (p := fun v => v == 0) h
      have hs := fun h => wait_ds (L := L) (n := n) (mode := sm) (task := t) (st := st) (c := (8 + (n : Int) + t)) (p := fun v => v == 0) h0 h3 h
      have hc : ((8 + n + t : Nat) : Int) = 8 + (n : Int) + t := by omega
      simp [fqK, fqConc, fqFr, fqA, fqAct, fqEnter, fqTry, fqGive, fqReader, fqWriter, fqDecide, fqOthers, mxEnter, mxTry, mxGive, mxE0, mxE1, mxE2, mxE3, mxE4, mxG0, mxG1, mxG2, mxG3, mxOwn, wrap64, Rn.fresh, Rn.did, Rn.setA, Rn.setB, Rn.note, Rn.goto, Rn.noted, Rn.fin, Rn.wake, Rn.keep, writtenL, normF, behindA, wkOf, fromA, Rn.waited, fqKeep, fqPost, e0, e1, hc]
      generalize waitA L n sm t st (8 + (n : Int) + t) (fun v => v == 0) = R at hd hs ⊢
      obtain ⟨rs, ra, rsn, rd, rw_⟩ := R
      cases rsn <;> cases rd <;> simp [Rn.note, Rn.fin, Rn.goto, Rn.setA, normF, behindA] at hd hs ⊢ <;> simp [hd, Wk.zero]
    case w5 a =>
      obtain ⟨rfl, rfl⟩ := hw
      have hd := fun h => wait_done (L := L) (n := n) (mode := sm) (task := t) (st := st) (c := (1 : Int)) (p := fun v => v == 0) h
      have hs := fun h => wait_ds (L := L) (n := n) (mode := sm) (task := t) (st := st) (c := (1 : Int)) (p := fun v => v == 0) h0 h3 h
      
      simp [fqK, fqConc, fqFr, fqA, fqAct, fqEnter, fqTry, fqGive, fqReader, fqWriter, fqDecide, fqOthers, mxEnter, mxTry, mxGive, mxE0, mxE1, mxE2, mxE3, mxE4, mxG0, mxG1, mxG2, mxG3, mxOwn, wrap64, Rn.fresh, Rn.did, Rn.setA, Rn.setB, Rn.note, Rn.goto, Rn.noted, Rn.fin, Rn.wake, Rn.keep, writtenL, normF, behindA, wkOf, fromA, Rn.waited, fqKeep, fqPost, e0, e1]
      generalize waitA L n sm t st (1 : Int) (fun v => v == 0) = R at hd hs ⊢
      obtain ⟨rs, ra, rsn, rd, rw_⟩ := R
      cases rsn <;> cases rd <;> simp [Rn.note, Rn.fin, Rn.goto, Rn.setA, normF, behindA] at hd hs ⊢ <;> simp [hd, Wk.zero]
    case r8 a =>
      obtain ⟨rfl, rfl⟩ := hw
      have hd := fun h => wait_done (L := L) (n := n) (mode := sm) (task := t) (st := st) (c := (8 + (t : Int))) (p := fun v => v != 0) h
      have hs := fun h => wait_ds (L := L) (n := n) (mode := sm) (task := t) (st := st) (c := (8 + (t : Int))) (p := fun v => v != 0) h0 h3 h
      have hc : ((8 + t : Nat) : Int) = 8 + (t : Int) := by omega
      simp [fqK, fqConc, fqFr, fqA, fqAct, fqEnter, fqTry, fqGive, fqReader, fqWriter, fqDecide, fqOthers, mxEnter, mxTry, mxGive, mxE0, mxE1, mxE2, mxE3, mxE4, mxG0, mxG1, mxG2, mxG3, mxOwn, wrap64, Rn.fresh, Rn.did, Rn.setA, Rn.setB, Rn.note, Rn.goto, Rn.noted, Rn.fin, Rn.wake, Rn.keep, writtenL, normF, behindA, wkOf, fromA, Rn.waited, fqKeep, fqPost, e0, e1, hc]
      generalize waitA L n sm t st (8 + (t : Int)) (fun v => v != 0) = R at hd hs ⊢
      obtain ⟨rs, ra, rsn, rd, rw_⟩ := R
      cases rsn <;> cases rd <;> simp [Rn.note, Rn.fin, Rn.goto, Rn.setA, normF, behindA] at hd hs ⊢ <;> simp [hd, Wk.zero]
    case q8 a =>
      obtain ⟨rfl, rfl⟩ := hw
      have hd := fun h => wait_done (L := L) (n := n) (mode := sm) (task := t) (st := st) (c := (8 + (t : Int))) (p := fun v => v != 0) h
      have hs := fun h => wait_ds (L := L) (n := n) (mode := sm) (task := t) (st := st) (c := (8 + (t : Int))) (p := fun v => v != 0) h0 h3 h
      have hc : ((8 + t : Nat) : Int) = 8 + (t : Int) := by omega
      simp [fqK, fqConc, fqFr, fqA, fqAct, fqEnter, fqTry, fqGive, fqReader, fqWriter, fqDecide, fqOthers, mxEnter, mxTry, mxGive, mxE0, mxE1, mxE2, mxE3, mxE4, mxG0, mxG1, mxG2, mxG3, mxOwn, wrap64, Rn.fresh, Rn.did, Rn.setA, Rn.setB, Rn.note, Rn.goto, Rn.noted, Rn.fin, Rn.wake, Rn.keep, writtenL, normF, behindA, wkOf, fromA, Rn.waited, fqKeep, fqPost, e0, e1, hc]
      generalize waitA L n sm t st (8 + (t : Int)) (fun v => v != 0) = R at hd hs ⊢
      obtain ⟨rs, ra, rsn, rd, rw_⟩ := R
      cases rsn <;> cases rd <;> simp [Rn.note, Rn.fin, Rn.goto, Rn.setA, normF, behindA] at hd hs ⊢ <;> simp [hd, Wk.zero]
    case v2 a =>
      obtain ⟨rfl, rfl⟩ := hw
      have hd := fun h => wait_done (L := L) (n := n) (mode := sm) (task := t) (st := st) (c := (8 + (t : Int))) (p := fun v => v != 0) h
      have hs := fun h => wait_ds (L := L) (n := n) (mode := sm) (task := t) (st := st) (c := (8 + (t : Int))) (p := fun v => v != 0) h0 h3 h
      have hc : ((8 + t : Nat) : Int) = 8 + (t : Int) := by omega
      simp [fqK, fqConc, fqFr, fqA, fqAct, fqEnter, fqTry, fqGive, fqReader, fqWriter, fqDecide, fqOthers, mxEnter, mxTry, mxGive, mxE0, mxE1, mxE2, mxE3, mxE4, mxG0, mxG1, mxG2, mxG3, mxOwn, wrap64, Rn.fresh, Rn.did, Rn.setA, Rn.setB, Rn.note, Rn.goto, Rn.noted, Rn.fin, Rn.wake, Rn.keep, writtenL, normF, behindA, wkOf, fromA, Rn.waited, fqKeep, fqPost, e0, e1, hc]
      generalize waitA L n sm t st (8 + (t : Int)) (fun v => v != 0) = R at hd hs ⊢
      obtain ⟨rs, ra, rsn, rd, rw_⟩ := R
      cases rsn <;> cases rd <;> simp [Rn.note, Rn.fin, Rn.goto, Rn.setA, normF, behindA] at hd hs ⊢ <;> simp [hd, Wk.zero]
    case t8 a =>
      obtain ⟨rfl, rfl⟩ := hw
      have hd := fun h => wait_done (L := L) (n := n) (mode := sm) (task := t) (st := st) (c := (8 + (t : Int))) (p := fun v => v != 0) h
      have hs := fun h => wait_ds (L := L) (n := n) (mode := sm) (task := t) (st := st) (c := (8 + (t : Int))) (p := fun v => v != 0) h0 h3 h
      have hc : ((8 + t : Nat) : Int) = 8 + (t : Int) := by omega
      simp [fqK, fqConc, fqFr, fqA, fqAct, fqEnter, fqTry, fqGive, fqReader, fqWriter, fqDecide, fqOthers, mxEnter, mxTry, mxGive, mxE0, mxE1, mxE2, mxE3, mxE4, mxG0, mxG1, mxG2, mxG3, mxOwn, wrap64, Rn.fresh, Rn.did, Rn.setA, Rn.setB, Rn.note, Rn.goto, Rn.noted, Rn.fin, Rn.wake, Rn.keep, writtenL, normF, behindA, wkOf, fromA, Rn.waited, fqKeep, fqPost, e0, e1, hc]
      generalize waitA L n sm t st (8 + (t : Int)) (fun v => v != 0) = R at hd hs ⊢
      obtain ⟨rs, ra, rsn, rd, rw_⟩ := R
      cases rsn <;> cases rd <;> simp [Rn.note, Rn.fin, Rn.goto, Rn.setA, normF, behindA] at hd hs ⊢ <;> simp [hd, Wk.zero]
    case x8 a =>
      obtain ⟨rfl, rfl⟩ := hw
      have hd := fun h => wait_done (L := L) (n := n) (mode := sm) (task := t) (st := st) (c := (8 + (t : Int))) (p := fun v => v != 0) h
      have hs := fun h => wait_ds (L := L) (n := n) (mode := sm) (task := t) (st := st) (c := (8 + (t : Int))) (p := fun v => v != 0) h0 h3 h
      have hc : ((8 + t : Nat) : Int) = 8 + (t : Int) := by omega
      simp [fqK, fqConc, fqFr, fqA, fqAct, fqEnter, fqTry, fqGive, fqReader, fqWriter, fqDecide, fqOthers, mxEnter, mxTry, mxGive, mxE0, mxE1, mxE2, mxE3, mxE4, mxG0, mxG1, mxG2, mxG3, mxOwn, wrap64, Rn.fresh, Rn.did, Rn.setA, Rn.setB, Rn.note, Rn.goto, Rn.noted, Rn.fin, Rn.wake, Rn.keep, writtenL, normF, behindA, wkOf, fromA, Rn.waited, fqKeep, fqPost, e0, e1, hc]
      generalize waitA L n sm t st (8 + (t : Int)) (fun v => v != 0) = R at hd hs ⊢
      obtain ⟨rs, ra, rsn, rd, rw_⟩ := R
      cases rsn <;> cases rd <;> simp [Rn.note, Rn.fin, Rn.goto, Rn.setA, normF, behindA] at hd hs ⊢ <;> simp [hd, Wk.zero]
    case d3 a =>
      obtain ⟨rfl, rfl⟩ := hw
      have hd := fun h => wait_done (L := L) (n := n) (mode := sm) (task := t) (st := st) (c := (8 + (t : Int))) (p := fun v => v != 0) h
      have hs := fun h => wait_ds (L := L) (n := n) (mode := sm) (task := t) (st := st) (c := (8 + (t : Int))) (p := fun v => v != 0) h0 h3 h
      have hc : ((8 + t : Nat) : Int) = 8 + (t : Int) := by omega
      simp [fqK, fqConc, fqFr, fqA, fqAct, fqEnter, fqTry, fqGive, fqReader, fqWriter, fqDecide, fqOthers, mxEnter, mxTry, mxGive, mxE0, mxE1, mxE2, mxE3, mxE4, mxG0, mxG1, mxG2, mxG3, mxOwn, wrap64, Rn.fresh, Rn.did, Rn.setA, Rn.setB, Rn.note, Rn.goto, Rn.noted, Rn.fin, Rn.wake, Rn.keep, writtenL, normF, behindA, wkOf, fromA, Rn.waited, fqKeep, fqPost, e0, e1, hc]
      generalize waitA L n sm t st (8 + (t : Int)) (fun v => v != 0) = R at hd hs ⊢
      obtain ⟨rs, ra, rsn, rd, rw_⟩ := R
      cases rsn <;> cases rd <;> simp [Rn.note, Rn.fin, Rn.goto, Rn.setA, normF, behindA] at hd hs ⊢ <;> simp [hd, Wk.zero]
  · obtain ⟨sn, sm, stk, f, acc, notes, L⟩ := s
    simp only at hn hmd htk hf hl
    subst hn hmd htk hf
    have e0 := cell_row (n := n) (row := 0) (i := t) h1 h2 (by omega) (by omega)
    have e1 := cell_row (n := n) (row := 1) (i := t) h1 h2 (by omega) (by omega)
    simp only [Int.zero_mul, Int.add_zero, Int.one_mul] at e0 e1
    cases p <;> simp [fqK, fqWait] at hw
    case r4 a =>
      obtain ⟨rfl, rfl⟩ := hw
      have hd := wait4_done (L := L) (n := n) (task := t) (c := (8 + (n : Int) + t)) (p := fun v => v == 0) hm2
      have hs := wait4_seen (L := L) (n := n) (task := t) (c := (8 + (n : Int) + t)) (p := fun v => v == 0) hm2
      have hc : ((8 + n + t : Nat) : Int) = 8 + (n : Int) + t := by omega
      simp [fqK, fqConc, fqFr, fqA, fqAct, fqEnter, fqTry, fqGive, fqReader, fqWriter, fqDecide, fqOthers, mxEnter, mxTry, mxGive, mxE0, mxE1, mxE2, mxE3, mxE4, mxG0, mxG1, mxG2, mxG3, mxOwn, wrap64, Rn.fresh, Rn.did, Rn.setA, Rn.setB, Rn.note, Rn.goto, Rn.noted, Rn.fin, Rn.wake, Rn.keep, writtenL, normF, behindA, wkOf, fromA, Rn.waited, fqKeep, fqPost, e0, e1, hc]
      generalize waitA L n sm t 4 (8 + (n : Int) + t) (fun v => v == 0) = R at hd hs ⊢
      obtain ⟨rs, ra, rsn, rd, rw_⟩ := R
      obtain ⟨rfl, rfl⟩ := hd
      obtain rfl := hs
      simp [Rn.note, Rn.fin, Rn.goto, Rn.setA, normF, behindA, Wk.zero]
    case w4 a =>
      obtain ⟨rfl, rfl⟩ := hw
      have hd := wait4_done (L := L) (n := n) (task := t) (c := (8 + (n : Int) + t)) (p := fun v => v == 0) hm2
      have hs := wait4_seen (L := L) (n := n) (task := t) (c := (8 + (n : Int) + t)) (p := fun v => v == 0) hm2
      have hc : ((8 + n + t : Nat) : Int) = 8 + (n : Int) + t := by omega
      simp [fqK, fqConc, fqFr, fqA, fqAct, fqEnter, fqTry, fqGive, fqReader, fqWriter, fqDecide, fqOthers, mxEnter, mxTry, mxGive, mxE0, mxE1, mxE2, mxE3, mxE4, mxG0, mxG1, mxG2, mxG3, mxOwn, wrap64, Rn.fresh, Rn.did, Rn.setA, Rn.setB, Rn.note, Rn.goto, Rn.noted, Rn.fin, Rn.wake, Rn.keep, writtenL, normF, behindA, wkOf, fromA, Rn.waited, fqKeep, fqPost, e0, e1, hc]
      generalize waitA L n sm t 4 (8 + (n : Int) + t) (fun v => v == 0) = R at hd hs ⊢
      obtain ⟨rs, ra, rsn, rd, rw_⟩ := R
      obtain ⟨rfl, rfl⟩ := hd
      obtain rfl := hs
      simp [Rn.note, Rn.fin, Rn.goto, Rn.setA, normF, behindA, Wk.zero]
    case w5 a =>
      obtain ⟨rfl, rfl⟩ := hw
      have hd := wait4_done (L := L) (n := n) (task := t) (c := (1 : Int)) (p := fun v => v == 0) hm2
      have hs := wait4_seen (L := L) (n := n) (task := t) (c := (1 : Int)) (p := fun v => v == 0) hm2
      
      simp [fqK, fqConc, fqFr, fqA, fqAct, fqEnter, fqTry, fqGive, fqReader, fqWriter, fqDecide, fqOthers, mxEnter, mxTry, mxGive, mxE0, mxE1, mxE2, mxE3, mxE4, mxG0, mxG1, mxG2, mxG3, mxOwn, wrap64, Rn.fresh, Rn.did, Rn.setA, Rn.setB, Rn.note, Rn.goto, Rn.noted, Rn.fin, Rn.wake, Rn.keep, writtenL, normF, behindA, wkOf, fromA, Rn.waited, fqKeep, fqPost, e0, e1]
      generalize waitA L n sm t 4 (1 : Int) (fun v => v == 0) = R at hd hs ⊢
      obtain ⟨rs, ra, rsn, rd, rw_⟩ := R
      obtain ⟨rfl, rfl⟩ := hd
      obtain rfl := hs
      simp [Rn.note, Rn.fin, Rn.goto, Rn.setA, normF, behindA, Wk.zero]
    case r8 a =>
      obtain ⟨rfl, rfl⟩ := hw
      have hd := wait4_done (L := L) (n := n) (task := t) (c := (8 + (t : Int))) (p := fun v => v != 0) hm2
      have hs := wait4_seen (L := L) (n := n) (task := t) (c := (8 + (t : Int))) (p := fun v => v != 0) hm2
      have hc : ((8 + t : Nat) : Int) = 8 + (t : Int) := by omega
      simp [fqK, fqConc, fqFr, fqA, fqAct, fqEnter, fqTry, fqGive, fqReader, fqWriter, fqDecide, fqOthers, mxEnter, mxTry, mxGive, mxE0, mxE1, mxE2, mxE3, mxE4, mxG0, mxG1, mxG2, mxG3, mxOwn, wrap64, Rn.fresh, Rn.did, Rn.setA, Rn.setB, Rn.note, Rn.goto, Rn.noted, Rn.fin, Rn.wake, Rn.keep, writtenL, normF, behindA, wkOf, fromA, Rn.waited, fqKeep, fqPost, e0, e1, hc]
      generalize waitA L n sm t 4 (8 + (t : Int)) (fun v => v != 0) = R at hd hs ⊢
      obtain ⟨rs, ra, rsn, rd, rw_⟩ := R
      obtain ⟨rfl, rfl⟩ := hd
      obtain rfl := hs
      simp [Rn.note, Rn.fin, Rn.goto, Rn.setA, normF, behindA, Wk.zero]
    case q8 a =>
      obtain ⟨rfl, rfl⟩ := hw
      have hd := wait4_done (L := L) (n := n) (task := t) (c := (8 + (t : Int))) (p := fun v => v != 0) hm2
      have hs := wait4_seen (L := L) (n := n) (task := t) (c := (8 + (t : Int))) (p := fun v => v != 0) hm2
      have hc : ((8 + t : Nat) : Int) = 8 + (t : Int) := by omega
      simp [fqK, fqConc, fqFr, fqA, fqAct, fqEnter, fqTry, fqGive, fqReader, fqWriter, fqDecide, fqOthers, mxEnter, mxTry, mxGive, mxE0, mxE1, mxE2, mxE3, mxE4, mxG0, mxG1, mxG2, mxG3, mxOwn, wrap64, Rn.fresh, Rn.did, Rn.setA, Rn.setB, Rn.note, Rn.goto, Rn.noted, Rn.fin, Rn.wake, Rn.keep, writtenL, normF, behindA, wkOf, fromA, Rn.waited, fqKeep, fqPost, e0, e1, hc]
      generalize waitA L n sm t 4 (8 + (t : Int)) (fun v => v != 0) = R at hd hs ⊢
      obtain ⟨rs, ra, rsn, rd, rw_⟩ := R
      obtain ⟨rfl, rfl⟩ := hd
      obtain rfl := hs
      simp [Rn.note, Rn.fin, Rn.goto, Rn.setA, normF, behindA, Wk.zero]
    case v2 a =>
      obtain ⟨rfl, rfl⟩ := hw
      have hd := wait4_done (L := L) (n := n) (task := t) (c := (8 + (t : Int))) (p := fun v => v != 0) hm2
      have hs := wait4_seen (L := L) (n := n) (task := t) (c := (8 + (t : Int))) (p := fun v => v != 0) hm2
      have hc : ((8 + t : Nat) : Int) = 8 + (t : Int) := by omega
      simp [fqK, fqConc, fqFr, fqA, fqAct, fqEnter, fqTry, fqGive, fqReader, fqWriter, fqDecide, fqOthers, mxEnter, mxTry, mxGive, mxE0, mxE1, mxE2, mxE3, mxE4, mxG0, mxG1, mxG2, mxG3, mxOwn, wrap64, Rn.fresh, Rn.did, Rn.setA, Rn.setB, Rn.note, Rn.goto, Rn.noted, Rn.fin, Rn.wake, Rn.keep, writtenL, normF, behindA, wkOf, fromA, Rn.waited, fqKeep, fqPost, e0, e1, hc]
      generalize waitA L n sm t 4 (8 + (t : Int)) (fun v => v != 0) = R at hd hs ⊢
      obtain ⟨rs, ra, rsn, rd, rw_⟩ := R
      obtain ⟨rfl, rfl⟩ := hd
      obtain rfl := hs
      simp [Rn.note, Rn.fin, Rn.goto, Rn.setA, normF, behindA, Wk.zero]
    case t8 a =>
      obtain ⟨rfl, rfl⟩ := hw
      have hd := wait4_done (L := L) (n := n) (task := t) (c := (8 + (t : Int))) (p := fun v => v != 0) hm2
      have hs := wait4_seen (L := L) (n := n) (task := t) (c := (8 + (t : Int))) (p := fun v => v != 0) hm2
      have hc : ((8 + t : Nat) : Int) = 8 + (t : Int) := by omega
      simp [fqK, fqConc, fqFr, fqA, fqAct, fqEnter, fqTry, fqGive, fqReader, fqWriter, fqDecide, fqOthers, mxEnter, mxTry, mxGive, mxE0, mxE1, mxE2, mxE3, mxE4, mxG0, mxG1, mxG2, mxG3, mxOwn, wrap64, Rn.fresh, Rn.did, Rn.setA, Rn.setB, Rn.note, Rn.goto, Rn.noted, Rn.fin, Rn.wake, Rn.keep, writtenL, normF, behindA, wkOf, fromA, Rn.waited, fqKeep, fqPost, e0, e1, hc]
      generalize waitA L n sm t 4 (8 + (t : Int)) (fun v => v != 0) = R at hd hs ⊢
      obtain ⟨rs, ra, rsn, rd, rw_⟩ := R
      obtain ⟨rfl, rfl⟩ := hd
      obtain rfl := hs
      simp [Rn.note, Rn.fin, Rn.goto, Rn.setA, normF, behindA, Wk.zero]
    case x8 a =>
      obtain ⟨rfl, rfl⟩ := hw
      have hd := wait4_done (L := L) (n := n) (task := t) (c := (8 + (t : Int))) (p := fun v => v != 0) hm2
      have hs := wait4_seen (L := L) (n := n) (task := t) (c := (8 + (t : Int))) (p := fun v => v != 0) hm2
      have hc : ((8 + t : Nat) : Int) = 8 + (t : Int) := by omega
      simp [fqK, fqConc, fqFr, fqA, fqAct, fqEnter, fqTry, fqGive, fqReader, fqWriter, fqDecide, fqOthers, mxEnter, mxTry, mxGive, mxE0, mxE1, mxE2, mxE3, mxE4, mxG0, mxG1, mxG2, mxG3, mxOwn, wrap64, Rn.fresh, Rn.did, Rn.setA, Rn.setB, Rn.note, Rn.goto, Rn.noted, Rn.fin, Rn.wake, Rn.keep, writtenL, normF, behindA, wkOf, fromA, Rn.waited, fqKeep, fqPost, e0, e1, hc]
      generalize waitA L n sm t 4 (8 + (t : Int)) (fun v => v != 0) = R at hd hs ⊢
      obtain ⟨rs, ra, rsn, rd, rw_⟩ := R
      obtain ⟨rfl, rfl⟩ := hd
      obtain rfl := hs
      simp [Rn.note, Rn.fin, Rn.goto, Rn.setA, normF, behindA, Wk.zero]
    case d3 a =>
      obtain ⟨rfl, rfl⟩ := hw
      have hd := wait4_done (L := L) (n := n) (task := t) (c := (8 + (t : Int))) (p := fun v => v != 0) hm2
      have hs := wait4_seen (L := L) (n := n) (task := t) (c := (8 + (t : Int))) (p := fun v => v != 0) hm2
      have hc : ((8 + t : Nat) : Int) = 8 + (t : Int) := by omega
      simp [fqK, fqConc, fqFr, fqA, fqAct, fqEnter, fqTry, fqGive, fqReader, fqWriter, fqDecide, fqOthers, mxEnter, mxTry, mxGive, mxE0, mxE1, mxE2, mxE3, mxE4, mxG0, mxG1, mxG2, mxG3, mxOwn, wrap64, Rn.fresh, Rn.did, Rn.setA, Rn.setB, Rn.note, Rn.goto, Rn.noted, Rn.fin, Rn.wake, Rn.keep, writtenL, normF, behindA, wkOf, fromA, Rn.waited, fqKeep, fqPost, e0, e1, hc]
      generalize waitA L n sm t 4 (8 + (t : Int)) (fun v => v != 0) = R at hd hs ⊢
      obtain ⟨rs, ra, rsn, rd, rw_⟩ := R
      obtain ⟨rfl, rfl⟩ := hd
      obtain rfl := hs
      simp [Rn.note, Rn.fin, Rn.goto, Rn.setA, normF, behindA, Wk.zero]

end Go.Proofs.Ytbcppehpfckgoaa.Z

/- The fair queue lock: what holds, and that all come to rest. No program is in sight. Written by genfqlive.py. -/
set_option linter.unusedVariables false
set_option linter.unusedSimpArgs false
namespace Go.Proofs.Ytbcppehpfckgoaa.Z
open Go.RowKit

theorem fqRd_01 : ∀ x, 0 ≤ fqRd x := by intro x; cases x <;> simp [fqRd]; split <;> omega
theorem fqRd_1 : ∀ x, fqRd x ≤ 1 := by intro x; cases x <;> simp [fqRd]; split <;> omega
/-- What is so of a task, by how many read. -/
def fqAt (R : Int) : FqP → Prop
  | .idle h => h = 0 ∨ h = 1 ∨ (h = 2 ∧ R = 0)
  | .d0 => R = 0
  | .x3 _ => R = 1
  | _ => True
def fqI (n b : Nat) (ps : List FqP) (m : Nat → Int) : Prop := 1 ≤ n ∧ n ≤ 64 ∧ ps.length = n ∧ QI n 0 fqMk (.idle 0) ps m ∧ m 1 = ws fqRd ps ∧ ∀ j, j < n → fqAt (m 1) (ps.getD j (.idle 0))
section
variable {n b : Nat} {ps : List FqP} {m m' : Nat → Int} {i : Nat} {p p' : FqP}
theorem fq_mk (H : fqI n b ps m) (hi : i < n) (hp : ps.getD i (.idle 0) = p) (HQ : QI n 0 fqMk (.idle 0) (ps.set i p') m') (hr : m' 1 = m 1 - fqRd p + fqRd p') (hat : fqAt (m' 1) p') (ho : m' 1 = m 1 ∨ (fqMk p).turn = true ∨ (m' 1 = m 1 - 1 ∧ fqRd p = 1)) : fqI n b (ps.set i p') m' := by
  obtain ⟨h1, h2, hl, H0, hR, ha⟩ := H
  have s1 := ws_set (f := fqRd) (d := .idle 0) (x := p') (l := ps) (i := i) (by omega)
  rw [hp] at s1
  refine ⟨h1, h2, by simpa using hl, HQ, by omega, fun j hj => ?_⟩
  rw [getDsetG (by omega)]
  split
  · exact hat
  · rename_i hij
    have hj2 := ha j hj
    have hone := H0.one (i := i) (j := j) hi hj
    have htwo := ws_two (d := FqP.idle 0) fqRd_01 (l := ps) (i := i) (j := j) (by omega) (by omega) hij
    have hnn := ws_one (d := FqP.idle 0) fqRd_01 (l := ps) (i := i) (by omega)
    rw [hp] at hone htwo hnn
    rw [← hR] at htwo hnn
    generalize ps.getD j (.idle 0) = q at hj2 hone htwo
    cases q <;> simp only [fqAt] at hj2 ⊢
    case idle h =>
      rcases hj2 with h0 | h0 | ⟨h0, h3⟩
      · exact Or.inl h0
      · exact Or.inr (Or.inl h0)
      · refine Or.inr (Or.inr ⟨h0, ?_⟩)
        rcases ho with e | e | ⟨e, e2⟩
        · omega
        · exact absurd (hone e (by subst h0; rfl)) hij
        · omega
    case d0 =>
      rcases ho with e | e | ⟨e, e2⟩
      · omega
      · exact absurd (hone e rfl) hij
      · omega
    case x3 a =>
      have e3 : fqRd (.x3 a) = 1 := rfl
      rcases ho with e | e | ⟨e, e2⟩
      · omega
      · exact absurd (hone e rfl) hij
      · omega
theorem fqI.few (H : fqI n b ps m) : 0 ≤ m 1 ∧ m 1 ≤ 64 := by
  obtain ⟨h1, h2, hl, H0, hR, ha⟩ := H
  have a1 := ws_nonneg fqRd_01 ps
  have a2 := ws_len fqRd_1 ps
  omega
end
theorem written_at {m : Nat → Int} {c : Nat} {v : Int} : written m (some (c, v)) c = v := by simp [written, upd]
theorem written_far {m : Nat → Int} {c j : Nat} {v : Int} (h : j ≠ c) : written m (some (c, v)) j = m j := by simp [written, upd, h]
theorem same_of {n tc c : Nat} {m : Nat → Int} {v : Int} (h1 : c < 8) (h2 : c ≠ tc) (ht : tc < 8) : SameQ n tc m (written m (some (c, v))) :=
  ⟨written_far (Ne.symm h2), fun j _ => ⟨written_far (by omega), written_far (by omega)⟩⟩


/-- The kinds of waits. -/
theorem fq_kinds {n t c : Nat} {p : FqP} {pr : Int → Bool} (h : fqWait n t p = some (c, pr)) : (c = 8 + t ∧ pr = fun v => v != 0) ∨ (c = 8 + n + t ∧ pr = fun v => v == 0) ∨ (c = 1 ∧ (pr = fun v => v == 0) ∧ (fqMk p).turn = true) := by
  cases p <;> simp [fqWait] at h <;> obtain ⟨rfl, rfl⟩ := h <;> simp [fqMk, Mk.turn]
set_option maxHeartbeats 3200000 in
theorem fq_kept (n : Nat) : (fqK n).Keeps n (fqI n) := by
  refine ⟨fun b ps m H => H, fun b ps m i H hi hl => ?_, fun b ps m i op h H hi hl hp hm => ?_, fun b ps m i H hi hl hw hop => ?_, fun b ps m i c pr H hi hl hw hpr => ?_, fun b ps m i j c pr H hi hj hij hl hw hop hwj hpr => ?_⟩
  · intro a ha
    exact H.2.2.2.1.ok3 hi rfl ha
  · have hai := H.2.2.2.2.2 i hi
    have HQ := H.2.2.2.1
    change ps.getD i (.idle 0) = .idle h at hp
    rw [hp] at hai
    have hai : h = 0 ∨ h = 1 ∨ (h = 2 ∧ m 1 = 0) := hai
    show fqI n (b + 1) (ps.set i (fqStart op h)) m
    have key : fqRd (fqStart op h) = fqRd (.idle h) ∧ fqAt (m 1) (fqStart op h) := by
      rcases may_ops hm with ⟨rfl, rfl | rfl | rfl | rfl⟩ | ⟨rfl, rfl | rfl⟩ | ⟨g1, g2, rfl | rfl⟩ <;> simp [fqStart, fqRd, fqAt] <;> omega
    refine fq_mk (m' := m) H hi hp ?_ (by omega) key.2 (Or.inl rfl)
    rcases may_ops hm with ⟨rfl, hh⟩ | ⟨rfl, hh⟩ | ⟨g1, g2, hh⟩
    · refine HQ.outs hl hi hp rfl ?_ ⟨rfl, fun j hj hji => ⟨rfl, rfl⟩⟩ ?_ <;> rcases hh with rfl | rfl | rfl | rfl <;> simp [fqStart, fqMk, Mk.inq]
    · refine HQ.outs hl hi hp rfl ?_ ⟨rfl, fun j hj hji => ⟨rfl, rfl⟩⟩ ?_ <;> rcases hh with rfl | rfl <;> simp [fqStart, fqMk, Mk.inq]
    · obtain rfl : h = 2 := by omega
      refine HQ.heads hl hi hp (Or.inl rfl) (Or.inl ?_) SameQ.refl
      rcases hh with rfl | rfl <;> rfl
  · have hai := H.2.2.2.2.2 i hi
    have HQ := H.2.2.2.1
    have hfew := H.few
    have hR := H.2.2.2.2.1
    have h1 := H.1
    have h2 := H.2.1
    change fqWait n i (ps.getD i (.idle 0)) = none at hw
    change (fqConc (ps.getD i (.idle 0))).1.op ≠ 0 at hop
    change fqI n (b + 1) (ps.set i (fqAct n i m (ps.getD i (.idle 0))).1) (written m (fqAct n i m (ps.getD i (.idle 0))).2.1)
    have d1 := ws_one (d := FqP.idle 0) fqRd_01 (l := ps) (i := i) (by omega)
    rw [← hR] at d1
    obtain ⟨p, hp⟩ : ∃ p, ps.getD i (.idle 0) = p := ⟨_, rfl⟩
    rw [hp] at hai hw hop d1 ⊢
    have hgo : ∀ p' w, QI n 0 fqMk (.idle 0) (ps.set i p') (written m w) → written m w 1 = m 1 - fqRd p + fqRd p' → fqAt (written m w 1) p' → (written m w 1 = m 1 ∨ (fqMk p).turn = true ∨ (written m w 1 = m 1 - 1 ∧ fqRd p = 1)) → fqI n (b + 1) (ps.set i p') (written m w) := fun p' w g1 g2 g3 g4 => fq_mk H hi hp g1 g2 g3 g4
    clear H hR
    cases p <;> simp [fqWait] at hw <;> simp [fqConc, fqFr, Fr.zero] at hop <;> simp only [fqAct]
    case r0 =>
      refine hgo _ _ (HQ.outs hl hi hp rfl rfl ⟨written_far (by omega), fun j hj hji => ⟨written_far (by omega), written_far (by omega)⟩⟩ ⟨fun _ => written_at, fun h => by cases h⟩) (by rw [written_far (by omega)]; simp [fqRd]) (by rw [written_far (by omega)]; exact trivial) (Or.inl (written_far (by omega)))
    case r1 =>
      have hpre := (HQ.pre hi hp).1 (Or.inl rfl)
      refine hgo _ _ (HQ.outs hl hi hp rfl rfl ⟨written_far (by omega), fun j hj hji => ⟨written_far (by omega), written_far (by omega)⟩⟩ ⟨fun _ => by rw [written_far (by omega)]; exact hpre, fun _ => written_at⟩) (by rw [written_far (by omega)]; simp [fqRd]) (by rw [written_far (by omega)]; exact trivial) (Or.inl (written_far (by omega)))
    case r2 =>
      split
      · rename_i hz
        refine hgo _ _ (HQ.comes hl hi hp (Or.inr rfl) hz rfl written_at (fun j hj => ⟨written_far (by omega), written_far (by omega)⟩)) (by rw [written_far (by omega)]; simp [fqRd]) (by rw [written_far (by omega)]; exact trivial) (Or.inl (written_far (by omega)))
      · rename_i hz
        refine hgo _ _ (HQ.behind hl hi hp rfl hz rfl written_at (fun j hj => ⟨written_far (by omega), written_far (by omega)⟩)) (by rw [written_far (by omega)]; simp [fqRd]) (by rw [written_far (by omega)]; exact trivial) (Or.inl (written_far (by omega)))
    case r3 a =>
      have ho := HQ.ok3 hi hp (a := a) (Or.inl rfl)
      refine hgo _ _ (HQ.link hl hi hp (a := a) rfl rfl (written_far (by omega)) (fun j hj => ⟨fun e => ?_, fun e => written_far (by omega), written_far (by omega)⟩)) (by rw [written_far (by omega)]; simp [fqRd]) (by rw [written_far (by omega)]; exact trivial) (Or.inl (written_far (by omega)))
      rw [show 8 + j = 8 + (a - 1).toNat by omega, written_at]
    case r5 a =>
      have hw1 : written m (some (1, (m 1 + 1) % 4294967296)) 1 = m 1 + 1 := by rw [written_at]; omega
      refine hgo _ _ (HQ.heads hl hi hp (Or.inl rfl) (Or.inl rfl) (same_of (by decide) (by decide) (by decide))) (by rw [hw1]; simp [fqRd]) (by exact trivial) (Or.inr (Or.inl rfl))
    case r6 a =>
      split
      · refine hgo _ none (HQ.heads hl hi hp (Or.inl rfl) (Or.inr (Or.inl rfl)) SameQ.refl) (by simp [written, fqRd]) trivial (Or.inl rfl)
      · rename_i hz
        refine hgo _ none (HQ.heads hl hi hp (Or.inl rfl) (Or.inr (Or.inr (Or.inr ⟨_, rfl, rfl, hz⟩))) SameQ.refl) (by simp [written, fqRd]) trivial (Or.inl rfl)
    case r7 a =>
      split
      · rename_i hz
        refine hgo _ _ (HQ.leaves hl hi hp rfl hz rfl written_at (fun j hj => ⟨written_far (by omega), written_far (by omega)⟩)) (by rw [written_far (by omega)]; simp [fqRd]) (Or.inr (Or.inl rfl)) (Or.inl (written_far (by omega)))
      · rename_i hz
        refine hgo _ none (HQ.heads hl hi hp (Or.inl rfl) (Or.inr (Or.inr (Or.inl ⟨rfl, rfl, hz⟩))) SameQ.refl) (by simp [written, fqRd]) trivial (Or.inl rfl)
    case r9 a =>
      have ho := HQ.ok3 hi hp (a := a) (Or.inr rfl)
      refine hgo _ _ (HQ.gives hl hi hp (a := a) rfl rfl (written_far (by omega)) (fun j hj => ⟨fun e => ?_, fun e => written_far (by omega), written_far (by omega)⟩)) (by rw [written_far (by omega)]; simp [fqRd]) (Or.inr (Or.inl rfl)) (Or.inl (written_far (by omega)))
      rw [show 8 + n + j = 8 + n + (a - 1).toNat by omega, written_at]
    case q0 a =>
      refine hgo _ _ (HQ.outs hl hi hp rfl rfl ⟨written_far (by omega), fun j hj hji => ⟨written_far (by omega), written_far (by omega)⟩⟩ ⟨fun _ => written_at, fun h => by cases h⟩) (by rw [written_far (by omega)]; simp [fqRd]) (by rw [written_far (by omega)]; exact trivial) (Or.inl (written_far (by omega)))
    case q1 a =>
      split
      · rename_i hz
        refine hgo _ _ (HQ.comes hl hi hp (Or.inl rfl) hz rfl written_at (fun j hj => ⟨written_far (by omega), written_far (by omega)⟩)) (by rw [written_far (by omega)]; simp [fqRd]) (by rw [written_far (by omega)]; exact trivial) (Or.inl (written_far (by omega)))
      · refine hgo _ none (HQ.outs hl hi hp rfl rfl ⟨rfl, fun j hj hji => ⟨rfl, rfl⟩⟩ ⟨(fun h => by rcases h with h | h <;> cases h), (fun h => by cases h)⟩) (by simp [written, fqRd]) (Or.inl rfl) (Or.inl rfl)
    case q5 a =>
      have hw1 : written m (some (1, (m 1 + 1) % 4294967296)) 1 = m 1 + 1 := by rw [written_at]; omega
      refine hgo _ _ (HQ.heads hl hi hp (Or.inl rfl) (Or.inl rfl) (same_of (by decide) (by decide) (by decide))) (by rw [hw1]; simp [fqRd]) (by exact trivial) (Or.inr (Or.inl rfl))
    case q6 a =>
      split
      · refine hgo _ none (HQ.heads hl hi hp (Or.inl rfl) (Or.inr (Or.inl rfl)) SameQ.refl) (by simp [written, fqRd]) trivial (Or.inl rfl)
      · rename_i hz
        refine hgo _ none (HQ.heads hl hi hp (Or.inl rfl) (Or.inr (Or.inr (Or.inr ⟨_, rfl, rfl, hz⟩))) SameQ.refl) (by simp [written, fqRd]) trivial (Or.inl rfl)
    case q7 a =>
      split
      · rename_i hz
        refine hgo _ _ (HQ.leaves hl hi hp rfl hz rfl written_at (fun j hj => ⟨written_far (by omega), written_far (by omega)⟩)) (by rw [written_far (by omega)]; simp [fqRd]) (Or.inr (Or.inl rfl)) (Or.inl (written_far (by omega)))
      · rename_i hz
        refine hgo _ none (HQ.heads hl hi hp (Or.inl rfl) (Or.inr (Or.inr (Or.inl ⟨rfl, rfl, hz⟩))) SameQ.refl) (by simp [written, fqRd]) trivial (Or.inl rfl)
    case q9 a =>
      have ho := HQ.ok3 hi hp (a := a) (Or.inr rfl)
      refine hgo _ _ (HQ.gives hl hi hp (a := a) rfl rfl (written_far (by omega)) (fun j hj => ⟨fun e => ?_, fun e => written_far (by omega), written_far (by omega)⟩)) (by rw [written_far (by omega)]; simp [fqRd]) (Or.inr (Or.inl rfl)) (Or.inl (written_far (by omega)))
      rw [show 8 + n + j = 8 + n + (a - 1).toNat by omega, written_at]
    case w0 =>
      refine hgo _ _ (HQ.outs hl hi hp rfl rfl ⟨written_far (by omega), fun j hj hji => ⟨written_far (by omega), written_far (by omega)⟩⟩ ⟨fun _ => written_at, fun h => by cases h⟩) (by rw [written_far (by omega)]; simp [fqRd]) (by rw [written_far (by omega)]; exact trivial) (Or.inl (written_far (by omega)))
    case w1 =>
      have hpre := (HQ.pre hi hp).1 (Or.inl rfl)
      refine hgo _ _ (HQ.outs hl hi hp rfl rfl ⟨written_far (by omega), fun j hj hji => ⟨written_far (by omega), written_far (by omega)⟩⟩ ⟨fun _ => by rw [written_far (by omega)]; exact hpre, fun _ => written_at⟩) (by rw [written_far (by omega)]; simp [fqRd]) (by rw [written_far (by omega)]; exact trivial) (Or.inl (written_far (by omega)))
    case w2 =>
      split
      · rename_i hz
        refine hgo _ _ (HQ.comes hl hi hp (Or.inr rfl) hz rfl written_at (fun j hj => ⟨written_far (by omega), written_far (by omega)⟩)) (by rw [written_far (by omega)]; simp [fqRd]) (by rw [written_far (by omega)]; exact trivial) (Or.inl (written_far (by omega)))
      · rename_i hz
        refine hgo _ _ (HQ.behind hl hi hp rfl hz rfl written_at (fun j hj => ⟨written_far (by omega), written_far (by omega)⟩)) (by rw [written_far (by omega)]; simp [fqRd]) (by rw [written_far (by omega)]; exact trivial) (Or.inl (written_far (by omega)))
    case w3 a =>
      have ho := HQ.ok3 hi hp (a := a) (Or.inl rfl)
      refine hgo _ _ (HQ.link hl hi hp (a := a) rfl rfl (written_far (by omega)) (fun j hj => ⟨fun e => ?_, fun e => written_far (by omega), written_far (by omega)⟩)) (by rw [written_far (by omega)]; simp [fqRd]) (by rw [written_far (by omega)]; exact trivial) (Or.inl (written_far (by omega)))
      rw [show 8 + j = 8 + (a - 1).toNat by omega, written_at]
    case v0 =>
      split
      · refine hgo _ none (HQ.heads hl hi hp (Or.inl rfl) (Or.inr (Or.inl rfl)) SameQ.refl) (by simp [written, fqRd]) trivial (Or.inl rfl)
      · rename_i hz
        refine hgo _ none (HQ.heads hl hi hp (Or.inl rfl) (Or.inr (Or.inr (Or.inr ⟨_, rfl, rfl, hz⟩))) SameQ.refl) (by simp [written, fqRd]) trivial (Or.inl rfl)
    case v1 a =>
      split
      · rename_i hz
        refine hgo _ _ (HQ.leaves hl hi hp rfl hz rfl written_at (fun j hj => ⟨written_far (by omega), written_far (by omega)⟩)) (by rw [written_far (by omega)]; simp [fqRd]) (Or.inl rfl) (Or.inl (written_far (by omega)))
      · rename_i hz
        refine hgo _ none (HQ.heads hl hi hp (Or.inl rfl) (Or.inr (Or.inr (Or.inl ⟨rfl, rfl, hz⟩))) SameQ.refl) (by simp [written, fqRd]) trivial (Or.inl rfl)
    case v3 a =>
      have ho := HQ.ok3 hi hp (a := a) (Or.inr rfl)
      refine hgo _ _ (HQ.gives hl hi hp (a := a) rfl rfl (written_far (by omega)) (fun j hj => ⟨fun e => ?_, fun e => written_far (by omega), written_far (by omega)⟩)) (by rw [written_far (by omega)]; simp [fqRd]) (Or.inl rfl) (Or.inl (written_far (by omega)))
      rw [show 8 + n + j = 8 + n + (a - 1).toNat by omega, written_at]
    case t0 a =>
      refine hgo _ _ (HQ.outs hl hi hp rfl rfl ⟨written_far (by omega), fun j hj hji => ⟨written_far (by omega), written_far (by omega)⟩⟩ ⟨fun _ => written_at, fun h => by cases h⟩) (by rw [written_far (by omega)]; simp [fqRd]) (by rw [written_far (by omega)]; exact trivial) (Or.inl (written_far (by omega)))
    case t1 a =>
      split
      · rename_i hz
        refine hgo _ _ (HQ.comes hl hi hp (Or.inl rfl) hz rfl written_at (fun j hj => ⟨written_far (by omega), written_far (by omega)⟩)) (by rw [written_far (by omega)]; simp [fqRd]) (by rw [written_far (by omega)]; exact trivial) (Or.inl (written_far (by omega)))
      · refine hgo _ none (HQ.outs hl hi hp rfl rfl ⟨rfl, fun j hj hji => ⟨rfl, rfl⟩⟩ ⟨(fun h => by rcases h with h | h <;> cases h), (fun h => by cases h)⟩) (by simp [written, fqRd]) (Or.inl rfl) (Or.inl rfl)
    case t2 a =>
      split
      · rename_i hz
        refine hgo _ none (HQ.heads hl hi hp (Or.inl rfl) (Or.inl rfl) SameQ.refl) (by simp [written, fqRd]) (Or.inr (Or.inr ⟨rfl, hz⟩)) (Or.inl rfl)
      · refine hgo _ none (HQ.heads hl hi hp (Or.inl rfl) (Or.inl rfl) SameQ.refl) (by simp [written, fqRd]) trivial (Or.inl rfl)
    case t6 a =>
      split
      · refine hgo _ none (HQ.heads hl hi hp (Or.inl rfl) (Or.inr (Or.inl rfl)) SameQ.refl) (by simp [written, fqRd]) trivial (Or.inl rfl)
      · rename_i hz
        refine hgo _ none (HQ.heads hl hi hp (Or.inl rfl) (Or.inr (Or.inr (Or.inr ⟨_, rfl, rfl, hz⟩))) SameQ.refl) (by simp [written, fqRd]) trivial (Or.inl rfl)
    case t7 a =>
      split
      · rename_i hz
        refine hgo _ _ (HQ.leaves hl hi hp rfl hz rfl written_at (fun j hj => ⟨written_far (by omega), written_far (by omega)⟩)) (by rw [written_far (by omega)]; simp [fqRd]) (Or.inl rfl) (Or.inl (written_far (by omega)))
      · rename_i hz
        refine hgo _ none (HQ.heads hl hi hp (Or.inl rfl) (Or.inr (Or.inr (Or.inl ⟨rfl, rfl, hz⟩))) SameQ.refl) (by simp [written, fqRd]) trivial (Or.inl rfl)
    case t9 a =>
      have ho := HQ.ok3 hi hp (a := a) (Or.inr rfl)
      refine hgo _ _ (HQ.gives hl hi hp (a := a) rfl rfl (written_far (by omega)) (fun j hj => ⟨fun e => ?_, fun e => written_far (by omega), written_far (by omega)⟩)) (by rw [written_far (by omega)]; simp [fqRd]) (Or.inl rfl) (Or.inl (written_far (by omega)))
      rw [show 8 + n + j = 8 + n + (a - 1).toNat by omega, written_at]
    case x0 a =>
      refine hgo _ _ (HQ.outs hl hi hp rfl rfl ⟨written_far (by omega), fun j hj hji => ⟨written_far (by omega), written_far (by omega)⟩⟩ ⟨fun _ => written_at, fun h => by cases h⟩) (by rw [written_far (by omega)]; simp [fqRd]) (by rw [written_far (by omega)]; exact trivial) (Or.inl (written_far (by omega)))
    case x1 a =>
      split
      · rename_i hz
        refine hgo _ _ (HQ.comes hl hi hp (Or.inl rfl) hz rfl written_at (fun j hj => ⟨written_far (by omega), written_far (by omega)⟩)) (by rw [written_far (by omega)]; simp [fqRd]) (by rw [written_far (by omega)]; exact trivial) (Or.inl (written_far (by omega)))
      · refine hgo _ none (HQ.outs hl hi hp rfl rfl ⟨rfl, fun j hj hji => ⟨rfl, rfl⟩⟩ ⟨(fun h => by rcases h with h | h <;> cases h), (fun h => by cases h)⟩) (by simp [written, fqRd]) (Or.inr (Or.inl rfl)) (Or.inl rfl)
    case x2 a =>
      split
      · rename_i hz
        refine hgo _ none (HQ.heads hl hi hp (Or.inl rfl) (Or.inl rfl) SameQ.refl) (by simp [written, fqRd]) (hz) (Or.inl rfl)
      · refine hgo _ none (HQ.heads hl hi hp (Or.inl rfl) (Or.inl rfl) SameQ.refl) (by simp [written, fqRd]) trivial (Or.inl rfl)
    case x3 a =>
      have hw1 : written m (some (1, (m 1 + 4294967295) % 4294967296)) 1 = m 1 - 1 := by rw [written_at]; simp [fqRd] at d1; omega
      have hx : m 1 = 1 := hai
      refine hgo _ _ (HQ.heads hl hi hp (Or.inl rfl) (Or.inl rfl) (same_of (by decide) (by decide) (by decide))) (by rw [hw1]; simp [fqRd]) (Or.inr (Or.inr ⟨rfl, by rw [hw1]; omega⟩)) (Or.inr (Or.inl rfl))
    case x6 a =>
      split
      · refine hgo _ none (HQ.heads hl hi hp (Or.inl rfl) (Or.inr (Or.inl rfl)) SameQ.refl) (by simp [written, fqRd]) trivial (Or.inl rfl)
      · rename_i hz
        refine hgo _ none (HQ.heads hl hi hp (Or.inl rfl) (Or.inr (Or.inr (Or.inr ⟨_, rfl, rfl, hz⟩))) SameQ.refl) (by simp [written, fqRd]) trivial (Or.inl rfl)
    case x7 a =>
      split
      · rename_i hz
        refine hgo _ _ (HQ.leaves hl hi hp rfl hz rfl written_at (fun j hj => ⟨written_far (by omega), written_far (by omega)⟩)) (by rw [written_far (by omega)]; simp [fqRd]) (Or.inr (Or.inl rfl)) (Or.inl (written_far (by omega)))
      · rename_i hz
        refine hgo _ none (HQ.heads hl hi hp (Or.inl rfl) (Or.inr (Or.inr (Or.inl ⟨rfl, rfl, hz⟩))) SameQ.refl) (by simp [written, fqRd]) trivial (Or.inl rfl)
    case x9 a =>
      have ho := HQ.ok3 hi hp (a := a) (Or.inr rfl)
      refine hgo _ _ (HQ.gives hl hi hp (a := a) rfl rfl (written_far (by omega)) (fun j hj => ⟨fun e => ?_, fun e => written_far (by omega), written_far (by omega)⟩)) (by rw [written_far (by omega)]; simp [fqRd]) (Or.inr (Or.inl rfl)) (Or.inl (written_far (by omega)))
      rw [show 8 + n + j = 8 + n + (a - 1).toNat by omega, written_at]
    case u0 =>
      have hw1 : written m (some (1, (m 1 + 4294967295) % 4294967296)) 1 = m 1 - 1 := by rw [written_at]; simp [fqRd] at d1; omega
      refine hgo _ _ (HQ.outs hl hi hp rfl rfl ⟨written_far (by omega), fun j hj hji => ⟨written_far (by omega), written_far (by omega)⟩⟩ ⟨(fun h => by rcases h with h | h <;> cases h), (fun h => by cases h)⟩) (by rw [hw1]; simp [fqRd]) (Or.inl rfl) (Or.inr (Or.inr ⟨hw1, rfl⟩))
    case d0 =>
      have hw1 : written m (some (1, (m 1 + 1) % 4294967296)) 1 = m 1 + 1 := by rw [written_at]; omega
      refine hgo _ _ (HQ.heads hl hi hp (Or.inl rfl) (Or.inl rfl) (same_of (by decide) (by decide) (by decide))) (by rw [hw1]; simp [fqRd]) (by exact trivial) (Or.inr (Or.inl rfl))
    case d1 a =>
      split
      · refine hgo _ none (HQ.heads hl hi hp (Or.inl rfl) (Or.inr (Or.inl rfl)) SameQ.refl) (by simp [written, fqRd]) trivial (Or.inl rfl)
      · rename_i hz
        refine hgo _ none (HQ.heads hl hi hp (Or.inl rfl) (Or.inr (Or.inr (Or.inr ⟨_, rfl, rfl, hz⟩))) SameQ.refl) (by simp [written, fqRd]) trivial (Or.inl rfl)
    case d2 a =>
      split
      · rename_i hz
        refine hgo _ _ (HQ.leaves hl hi hp rfl hz rfl written_at (fun j hj => ⟨written_far (by omega), written_far (by omega)⟩)) (by rw [written_far (by omega)]; simp [fqRd]) (Or.inr (Or.inl rfl)) (Or.inl (written_far (by omega)))
      · rename_i hz
        refine hgo _ none (HQ.heads hl hi hp (Or.inl rfl) (Or.inr (Or.inr (Or.inl ⟨rfl, rfl, hz⟩))) SameQ.refl) (by simp [written, fqRd]) trivial (Or.inl rfl)
    case d4 a =>
      have ho := HQ.ok3 hi hp (a := a) (Or.inr rfl)
      refine hgo _ _ (HQ.gives hl hi hp (a := a) rfl rfl (written_far (by omega)) (fun j hj => ⟨fun e => ?_, fun e => written_far (by omega), written_far (by omega)⟩)) (by rw [written_far (by omega)]; simp [fqRd]) (Or.inr (Or.inl rfl)) (Or.inl (written_far (by omega)))
      rw [show 8 + n + j = 8 + n + (a - 1).toNat by omega, written_at]
  · have HQ := H.2.2.2.1
    change fqWait n i (ps.getD i (.idle 0)) = some (c, pr) at hw
    change fqI n (b + 1) (ps.set i (fqPost (m c) (ps.getD i (.idle 0)))) m
    obtain ⟨p, hp⟩ : ∃ p, ps.getD i (.idle 0) = p := ⟨_, rfl⟩
    rw [hp] at hw ⊢
    have hgo : ∀ p', QI n 0 fqMk (.idle 0) (ps.set i p') m → fqRd p' = fqRd p → fqAt (m 1) p' → fqI n (b + 1) (ps.set i p') m := fun p' g1 g2 g3 => fq_mk (m' := m) H hi hp g1 (by omega) g3 (Or.inl rfl)
    clear H
    cases p <;> simp [fqWait] at hw
    case r4 a =>
      obtain ⟨rfl, rfl⟩ := hw
      refine hgo _ (HQ.heads hl hi hp (Or.inr ⟨rfl, by simpa using hpr⟩) (Or.inl rfl) SameQ.refl) (by simp [fqRd, fqPost]) trivial
    case w4 a =>
      obtain ⟨rfl, rfl⟩ := hw
      refine hgo _ (HQ.heads hl hi hp (Or.inr ⟨rfl, by simpa using hpr⟩) (Or.inl rfl) SameQ.refl) (by simp [fqRd, fqPost]) trivial
    case w5 a =>
      obtain ⟨rfl, rfl⟩ := hw
      refine hgo _ (HQ.heads hl hi hp (Or.inl rfl) (Or.inl rfl) SameQ.refl) (by simp [fqRd, fqPost]) (Or.inr (Or.inr ⟨rfl, by simpa using hpr⟩))
    case r8 a =>
      obtain ⟨rfl, rfl⟩ := hw
      refine hgo _ (HQ.heads hl hi hp (Or.inl rfl) (Or.inr (Or.inr (Or.inr ⟨_, rfl, rfl, by simpa using hpr⟩))) SameQ.refl) (by simp [fqRd, fqPost]) trivial
    case q8 a =>
      obtain ⟨rfl, rfl⟩ := hw
      refine hgo _ (HQ.heads hl hi hp (Or.inl rfl) (Or.inr (Or.inr (Or.inr ⟨_, rfl, rfl, by simpa using hpr⟩))) SameQ.refl) (by simp [fqRd, fqPost]) trivial
    case v2 a =>
      obtain ⟨rfl, rfl⟩ := hw
      refine hgo _ (HQ.heads hl hi hp (Or.inl rfl) (Or.inr (Or.inr (Or.inr ⟨_, rfl, rfl, by simpa using hpr⟩))) SameQ.refl) (by simp [fqRd, fqPost]) trivial
    case t8 a =>
      obtain ⟨rfl, rfl⟩ := hw
      refine hgo _ (HQ.heads hl hi hp (Or.inl rfl) (Or.inr (Or.inr (Or.inr ⟨_, rfl, rfl, by simpa using hpr⟩))) SameQ.refl) (by simp [fqRd, fqPost]) trivial
    case x8 a =>
      obtain ⟨rfl, rfl⟩ := hw
      refine hgo _ (HQ.heads hl hi hp (Or.inl rfl) (Or.inr (Or.inr (Or.inr ⟨_, rfl, rfl, by simpa using hpr⟩))) SameQ.refl) (by simp [fqRd, fqPost]) trivial
    case d3 a =>
      obtain ⟨rfl, rfl⟩ := hw
      refine hgo _ (HQ.heads hl hi hp (Or.inl rfl) (Or.inr (Or.inr (Or.inr ⟨_, rfl, rfl, by simpa using hpr⟩))) SameQ.refl) (by simp [fqRd, fqPost]) trivial
  · have HQ := H.2.2.2.1
    have hfew := H.few
    have hai := H.2.2.2.2.2 i hi
    have h2 := H.2.1
    change fqWait n i (ps.getD i (.idle 0)) = none at hw
    change (fqConc (ps.getD i (.idle 0))).1.op ≠ 0 at hop
    change fqWait n j (ps.getD j (.idle 0)) = some (c, pr) at hwj
    change pr (written m (fqAct n i m (ps.getD i (.idle 0))).2.1 c) = true at hpr
    change _ ∨ (fqAct n i m (ps.getD i (.idle 0))).2.2 = some c
    have hone := HQ.one (i := i) (j := j) hi hj
    have hok : ∀ a, (fqMk (ps.getD i (.idle 0)) = .e3 a ∨ fqMk (ps.getD i (.idle 0)) = .g3 a) → 1 ≤ a ∧ a ≤ n := fun a h => HQ.ok3 hi rfl h
    have hk := fq_kinds hwj
    generalize ps.getD j (.idle 0) = q at hwj hk hone
    clear H HQ hwj
    have fin : ∀ w : Option (Nat × Int), (∀ v, w ≠ some (c, v)) → pr (written m w c) = true → pr (m c) = true := fun w g1 g2 => by
      cases w with
      | none => exact g2
      | some x =>
        obtain ⟨c', v'⟩ := x
        rw [written_far (fun e => g1 v' (by rw [e]))] at g2
        exact g2
    generalize ps.getD i (.idle 0) = p at hw hop hpr hone hok hai ⊢
    rcases hk with ⟨rfl, rfl⟩ | ⟨rfl, rfl⟩ | ⟨rfl, rfl, ht⟩
    · cases p <;> simp [fqWait] at hw <;> simp [fqConc, fqFr, Fr.zero] at hop <;> simp only [fqAct] at hpr ⊢
      case r0 =>
        refine Or.inl (fin _ (fun v h => ?_) hpr); simp at h <;> omega
      case r1 =>
        refine Or.inl (fin _ (fun v h => ?_) hpr); simp at h <;> omega
      case r2 =>
        refine Or.inl (fin _ (fun v h => ?_) hpr); simp at h <;> omega
      case r3 a =>
        have ho := hok a (Or.inl rfl); rcases Decidable.em (8 + (a - 1).toNat = 8 + j) with e | e
        · exact Or.inr (by rw [e])
        · exact Or.inl (fin _ (fun v h => by simp at h <;> omega) hpr)
      case r5 a =>
        refine Or.inl (fin _ (fun v h => ?_) hpr); simp at h <;> omega
      case r6 a =>
        refine Or.inl (fin none (fun v h => by cases h) hpr)
      case r7 a =>
        split at hpr
        · rename_i hz; refine Or.inl (fin _ (fun v h => ?_) hpr); simp at h <;> omega
        · exact Or.inl (fin none (fun v h => by cases h) hpr)
      case r9 a =>
        have ho := hok a (Or.inr rfl); refine Or.inl (fin _ (fun v h => ?_) hpr); simp at h <;> omega
      case q0 a =>
        refine Or.inl (fin _ (fun v h => ?_) hpr); simp at h <;> omega
      case q1 a =>
        split at hpr
        · rename_i hz; refine Or.inl (fin _ (fun v h => ?_) hpr); simp at h <;> omega
        · exact Or.inl (fin none (fun v h => by cases h) hpr)
      case q5 a =>
        refine Or.inl (fin _ (fun v h => ?_) hpr); simp at h <;> omega
      case q6 a =>
        refine Or.inl (fin none (fun v h => by cases h) hpr)
      case q7 a =>
        split at hpr
        · rename_i hz; refine Or.inl (fin _ (fun v h => ?_) hpr); simp at h <;> omega
        · exact Or.inl (fin none (fun v h => by cases h) hpr)
      case q9 a =>
        have ho := hok a (Or.inr rfl); refine Or.inl (fin _ (fun v h => ?_) hpr); simp at h <;> omega
      case w0 =>
        refine Or.inl (fin _ (fun v h => ?_) hpr); simp at h <;> omega
      case w1 =>
        refine Or.inl (fin _ (fun v h => ?_) hpr); simp at h <;> omega
      case w2 =>
        refine Or.inl (fin _ (fun v h => ?_) hpr); simp at h <;> omega
      case w3 a =>
        have ho := hok a (Or.inl rfl); rcases Decidable.em (8 + (a - 1).toNat = 8 + j) with e | e
        · exact Or.inr (by rw [e])
        · exact Or.inl (fin _ (fun v h => by simp at h <;> omega) hpr)
      case v0 =>
        refine Or.inl (fin none (fun v h => by cases h) hpr)
      case v1 a =>
        split at hpr
        · rename_i hz; refine Or.inl (fin _ (fun v h => ?_) hpr); simp at h <;> omega
        · exact Or.inl (fin none (fun v h => by cases h) hpr)
      case v3 a =>
        have ho := hok a (Or.inr rfl); refine Or.inl (fin _ (fun v h => ?_) hpr); simp at h <;> omega
      case t0 a =>
        refine Or.inl (fin _ (fun v h => ?_) hpr); simp at h <;> omega
      case t1 a =>
        split at hpr
        · rename_i hz; refine Or.inl (fin _ (fun v h => ?_) hpr); simp at h <;> omega
        · exact Or.inl (fin none (fun v h => by cases h) hpr)
      case t2 a =>
        refine Or.inl (fin none (fun v h => by cases h) hpr)
      case t6 a =>
        refine Or.inl (fin none (fun v h => by cases h) hpr)
      case t7 a =>
        split at hpr
        · rename_i hz; refine Or.inl (fin _ (fun v h => ?_) hpr); simp at h <;> omega
        · exact Or.inl (fin none (fun v h => by cases h) hpr)
      case t9 a =>
        have ho := hok a (Or.inr rfl); refine Or.inl (fin _ (fun v h => ?_) hpr); simp at h <;> omega
      case x0 a =>
        refine Or.inl (fin _ (fun v h => ?_) hpr); simp at h <;> omega
      case x1 a =>
        split at hpr
        · rename_i hz; refine Or.inl (fin _ (fun v h => ?_) hpr); simp at h <;> omega
        · exact Or.inl (fin none (fun v h => by cases h) hpr)
      case x2 a =>
        refine Or.inl (fin none (fun v h => by cases h) hpr)
      case x3 a =>
        refine Or.inl (fin _ (fun v h => ?_) hpr); simp at h <;> omega
      case x6 a =>
        refine Or.inl (fin none (fun v h => by cases h) hpr)
      case x7 a =>
        split at hpr
        · rename_i hz; refine Or.inl (fin _ (fun v h => ?_) hpr); simp at h <;> omega
        · exact Or.inl (fin none (fun v h => by cases h) hpr)
      case x9 a =>
        have ho := hok a (Or.inr rfl); refine Or.inl (fin _ (fun v h => ?_) hpr); simp at h <;> omega
      case u0 =>
        refine Or.inl (fin _ (fun v h => ?_) hpr); simp at h <;> omega
      case d0 =>
        refine Or.inl (fin _ (fun v h => ?_) hpr); simp at h <;> omega
      case d1 a =>
        refine Or.inl (fin none (fun v h => by cases h) hpr)
      case d2 a =>
        split at hpr
        · rename_i hz; refine Or.inl (fin _ (fun v h => ?_) hpr); simp at h <;> omega
        · exact Or.inl (fin none (fun v h => by cases h) hpr)
      case d4 a =>
        have ho := hok a (Or.inr rfl); refine Or.inl (fin _ (fun v h => ?_) hpr); simp at h <;> omega
    · cases p <;> simp [fqWait] at hw <;> simp [fqConc, fqFr, Fr.zero] at hop <;> simp only [fqAct] at hpr ⊢
      case r0 =>
        refine Or.inl (fin _ (fun v h => ?_) hpr); simp at h <;> omega
      case r1 =>
        refine Or.inl (fin _ (fun v h => ?_) hpr); simp at h <;> omega
      case r2 =>
        refine Or.inl (fin _ (fun v h => ?_) hpr); simp at h <;> omega
      case r3 a =>
        have ho := hok a (Or.inl rfl); refine Or.inl (fin _ (fun v h => ?_) hpr); simp at h <;> omega
      case r5 a =>
        refine Or.inl (fin _ (fun v h => ?_) hpr); simp at h <;> omega
      case r6 a =>
        refine Or.inl (fin none (fun v h => by cases h) hpr)
      case r7 a =>
        split at hpr
        · rename_i hz; refine Or.inl (fin _ (fun v h => ?_) hpr); simp at h <;> omega
        · exact Or.inl (fin none (fun v h => by cases h) hpr)
      case r9 a =>
        have ho := hok a (Or.inr rfl); rcases Decidable.em (8 + n + (a - 1).toNat = 8 + n + j) with e | e
        · exact Or.inr (by rw [e])
        · exact Or.inl (fin _ (fun v h => by simp at h <;> omega) hpr)
      case q0 a =>
        refine Or.inl (fin _ (fun v h => ?_) hpr); simp at h <;> omega
      case q1 a =>
        split at hpr
        · rename_i hz; refine Or.inl (fin _ (fun v h => ?_) hpr); simp at h <;> omega
        · exact Or.inl (fin none (fun v h => by cases h) hpr)
      case q5 a =>
        refine Or.inl (fin _ (fun v h => ?_) hpr); simp at h <;> omega
      case q6 a =>
        refine Or.inl (fin none (fun v h => by cases h) hpr)
      case q7 a =>
        split at hpr
        · rename_i hz; refine Or.inl (fin _ (fun v h => ?_) hpr); simp at h <;> omega
        · exact Or.inl (fin none (fun v h => by cases h) hpr)
      case q9 a =>
        have ho := hok a (Or.inr rfl); rcases Decidable.em (8 + n + (a - 1).toNat = 8 + n + j) with e | e
        · exact Or.inr (by rw [e])
        · exact Or.inl (fin _ (fun v h => by simp at h <;> omega) hpr)
      case w0 =>
        refine Or.inl (fin _ (fun v h => ?_) hpr); simp at h <;> omega
      case w1 =>
        refine Or.inl (fin _ (fun v h => ?_) hpr); simp at h <;> omega
      case w2 =>
        refine Or.inl (fin _ (fun v h => ?_) hpr); simp at h <;> omega
      case w3 a =>
        have ho := hok a (Or.inl rfl); refine Or.inl (fin _ (fun v h => ?_) hpr); simp at h <;> omega
      case v0 =>
        refine Or.inl (fin none (fun v h => by cases h) hpr)
      case v1 a =>
        split at hpr
        · rename_i hz; refine Or.inl (fin _ (fun v h => ?_) hpr); simp at h <;> omega
        · exact Or.inl (fin none (fun v h => by cases h) hpr)
      case v3 a =>
        have ho := hok a (Or.inr rfl); rcases Decidable.em (8 + n + (a - 1).toNat = 8 + n + j) with e | e
        · exact Or.inr (by rw [e])
        · exact Or.inl (fin _ (fun v h => by simp at h <;> omega) hpr)
      case t0 a =>
        refine Or.inl (fin _ (fun v h => ?_) hpr); simp at h <;> omega
      case t1 a =>
        split at hpr
        · rename_i hz; refine Or.inl (fin _ (fun v h => ?_) hpr); simp at h <;> omega
        · exact Or.inl (fin none (fun v h => by cases h) hpr)
      case t2 a =>
        refine Or.inl (fin none (fun v h => by cases h) hpr)
      case t6 a =>
        refine Or.inl (fin none (fun v h => by cases h) hpr)
      case t7 a =>
        split at hpr
        · rename_i hz; refine Or.inl (fin _ (fun v h => ?_) hpr); simp at h <;> omega
        · exact Or.inl (fin none (fun v h => by cases h) hpr)
      case t9 a =>
        have ho := hok a (Or.inr rfl); rcases Decidable.em (8 + n + (a - 1).toNat = 8 + n + j) with e | e
        · exact Or.inr (by rw [e])
        · exact Or.inl (fin _ (fun v h => by simp at h <;> omega) hpr)
      case x0 a =>
        refine Or.inl (fin _ (fun v h => ?_) hpr); simp at h <;> omega
      case x1 a =>
        split at hpr
        · rename_i hz; refine Or.inl (fin _ (fun v h => ?_) hpr); simp at h <;> omega
        · exact Or.inl (fin none (fun v h => by cases h) hpr)
      case x2 a =>
        refine Or.inl (fin none (fun v h => by cases h) hpr)
      case x3 a =>
        refine Or.inl (fin _ (fun v h => ?_) hpr); simp at h <;> omega
      case x6 a =>
        refine Or.inl (fin none (fun v h => by cases h) hpr)
      case x7 a =>
        split at hpr
        · rename_i hz; refine Or.inl (fin _ (fun v h => ?_) hpr); simp at h <;> omega
        · exact Or.inl (fin none (fun v h => by cases h) hpr)
      case x9 a =>
        have ho := hok a (Or.inr rfl); rcases Decidable.em (8 + n + (a - 1).toNat = 8 + n + j) with e | e
        · exact Or.inr (by rw [e])
        · exact Or.inl (fin _ (fun v h => by simp at h <;> omega) hpr)
      case u0 =>
        refine Or.inl (fin _ (fun v h => ?_) hpr); simp at h <;> omega
      case d0 =>
        refine Or.inl (fin _ (fun v h => ?_) hpr); simp at h <;> omega
      case d1 a =>
        refine Or.inl (fin none (fun v h => by cases h) hpr)
      case d2 a =>
        split at hpr
        · rename_i hz; refine Or.inl (fin _ (fun v h => ?_) hpr); simp at h <;> omega
        · exact Or.inl (fin none (fun v h => by cases h) hpr)
      case d4 a =>
        have ho := hok a (Or.inr rfl); rcases Decidable.em (8 + n + (a - 1).toNat = 8 + n + j) with e | e
        · exact Or.inr (by rw [e])
        · exact Or.inl (fin _ (fun v h => by simp at h <;> omega) hpr)
    · cases p <;> simp [fqWait] at hw <;> simp [fqConc, fqFr, Fr.zero] at hop <;> simp only [fqAct] at hpr ⊢
      case r0 =>
        refine Or.inl (fin _ (fun v h => ?_) hpr); simp at h <;> omega
      case r1 =>
        refine Or.inl (fin _ (fun v h => ?_) hpr); simp at h <;> omega
      case r2 =>
        refine Or.inl (fin _ (fun v h => ?_) hpr); simp at h <;> omega
      case r3 a =>
        have ho := hok a (Or.inl rfl); refine Or.inl (fin _ (fun v h => ?_) hpr); simp at h <;> omega
      case r5 a =>
        rw [written_at] at hpr; simp at hpr; omega
      case r6 a =>
        refine Or.inl (fin none (fun v h => by cases h) hpr)
      case r7 a =>
        split at hpr
        · rename_i hz; refine Or.inl (fin _ (fun v h => ?_) hpr); simp at h <;> omega
        · exact Or.inl (fin none (fun v h => by cases h) hpr)
      case r9 a =>
        have ho := hok a (Or.inr rfl); refine Or.inl (fin _ (fun v h => ?_) hpr); simp at h <;> omega
      case q0 a =>
        refine Or.inl (fin _ (fun v h => ?_) hpr); simp at h <;> omega
      case q1 a =>
        split at hpr
        · rename_i hz; refine Or.inl (fin _ (fun v h => ?_) hpr); simp at h <;> omega
        · exact Or.inl (fin none (fun v h => by cases h) hpr)
      case q5 a =>
        rw [written_at] at hpr; simp at hpr; omega
      case q6 a =>
        refine Or.inl (fin none (fun v h => by cases h) hpr)
      case q7 a =>
        split at hpr
        · rename_i hz; refine Or.inl (fin _ (fun v h => ?_) hpr); simp at h <;> omega
        · exact Or.inl (fin none (fun v h => by cases h) hpr)
      case q9 a =>
        have ho := hok a (Or.inr rfl); refine Or.inl (fin _ (fun v h => ?_) hpr); simp at h <;> omega
      case w0 =>
        refine Or.inl (fin _ (fun v h => ?_) hpr); simp at h <;> omega
      case w1 =>
        refine Or.inl (fin _ (fun v h => ?_) hpr); simp at h <;> omega
      case w2 =>
        refine Or.inl (fin _ (fun v h => ?_) hpr); simp at h <;> omega
      case w3 a =>
        have ho := hok a (Or.inl rfl); refine Or.inl (fin _ (fun v h => ?_) hpr); simp at h <;> omega
      case v0 =>
        refine Or.inl (fin none (fun v h => by cases h) hpr)
      case v1 a =>
        split at hpr
        · rename_i hz; refine Or.inl (fin _ (fun v h => ?_) hpr); simp at h <;> omega
        · exact Or.inl (fin none (fun v h => by cases h) hpr)
      case v3 a =>
        have ho := hok a (Or.inr rfl); refine Or.inl (fin _ (fun v h => ?_) hpr); simp at h <;> omega
      case t0 a =>
        refine Or.inl (fin _ (fun v h => ?_) hpr); simp at h <;> omega
      case t1 a =>
        split at hpr
        · rename_i hz; refine Or.inl (fin _ (fun v h => ?_) hpr); simp at h <;> omega
        · exact Or.inl (fin none (fun v h => by cases h) hpr)
      case t2 a =>
        refine Or.inl (fin none (fun v h => by cases h) hpr)
      case t6 a =>
        refine Or.inl (fin none (fun v h => by cases h) hpr)
      case t7 a =>
        split at hpr
        · rename_i hz; refine Or.inl (fin _ (fun v h => ?_) hpr); simp at h <;> omega
        · exact Or.inl (fin none (fun v h => by cases h) hpr)
      case t9 a =>
        have ho := hok a (Or.inr rfl); refine Or.inl (fin _ (fun v h => ?_) hpr); simp at h <;> omega
      case x0 a =>
        refine Or.inl (fin _ (fun v h => ?_) hpr); simp at h <;> omega
      case x1 a =>
        split at hpr
        · rename_i hz; refine Or.inl (fin _ (fun v h => ?_) hpr); simp at h <;> omega
        · exact Or.inl (fin none (fun v h => by cases h) hpr)
      case x2 a =>
        refine Or.inl (fin none (fun v h => by cases h) hpr)
      case x3 a =>
        exact absurd (hone rfl ht) hij
      case x6 a =>
        refine Or.inl (fin none (fun v h => by cases h) hpr)
      case x7 a =>
        split at hpr
        · rename_i hz; refine Or.inl (fin _ (fun v h => ?_) hpr); simp at h <;> omega
        · exact Or.inl (fin none (fun v h => by cases h) hpr)
      case x9 a =>
        have ho := hok a (Or.inr rfl); refine Or.inl (fin _ (fun v h => ?_) hpr); simp at h <;> omega
      case u0 =>
        first | exact Or.inr rfl | exact Or.inr trivial
      case d0 =>
        rw [written_at] at hpr; simp at hpr; omega
      case d1 a =>
        refine Or.inl (fin none (fun v h => by cases h) hpr)
      case d2 a =>
        split at hpr
        · rename_i hz; refine Or.inl (fin _ (fun v h => ?_) hpr); simp at h <;> omega
        · exact Or.inl (fin none (fun v h => by cases h) hpr)
      case d4 a =>
        have ho := hok a (Or.inr rfl); refine Or.inl (fin _ (fun v h => ?_) hpr); simp at h <;> omega

def fqNw : FqP → Nat
  | .idle h => if h = 0 then 0 else 1
  | .r0 => 7
  | .r1 => 6
  | .r2 => 5
  | .r3 _ => 4
  | .r4 _ => 3
  | .r5 _ => 3
  | .q0 _ => 5
  | .q1 _ => 4
  | .q5 _ => 3
  | .w0 => 5
  | .w1 => 4
  | .w2 => 3
  | .w4 _ => 1
  | .w5 _ => 1
  | .v0 => 1
  | .v1 _ => 1
  | .v2 _ => 1
  | .v3 _ => 1
  | .t0 _ => 3
  | .t2 _ => 1
  | .t6 _ => 1
  | .t7 _ => 1
  | .t8 _ => 1
  | .t9 _ => 1
  | .x0 _ => 4
  | .x1 _ => 3
  | .u0 => 1
  | .d0 => 3
  | _ => 2
def fqNv : FqP → Nat
  | .idle h => if h = 0 then 0 else 1
  | .r0 => 3
  | .r1 => 3
  | .r2 => 3
  | .r3 _ => 3
  | .w4 _ => 1
  | .w5 _ => 1
  | .v0 => 1
  | .v1 _ => 1
  | .v2 _ => 1
  | .v3 _ => 1
  | .t0 _ => 1
  | .t1 _ => 1
  | .t2 _ => 1
  | .t6 _ => 1
  | .t7 _ => 1
  | .t8 _ => 1
  | .t9 _ => 1
  | .u0 => 1
  | _ => 2
def fqG (n : Nat) : Nat := if n = 1 then 4 else 7
def fqCp (n : Nat) : FqP → Nat
  | .idle h => if h = 0 then 0 else if h = 1 then 1 else fqG n
  | .r4 _ => 5
  | .r6 _ => fqG n
  | .r7 _ => fqG n - 1
  | .r8 _ => 5
  | .q6 _ => fqG n
  | .q7 _ => fqG n - 1
  | .q8 _ => 5
  | .w4 _ => fqG n + 2
  | .w5 _ => fqG n + 1
  | .v0 => fqG n
  | .v1 _ => fqG n - 1
  | .v2 _ => 5
  | .t2 _ => fqG n + 1
  | .t6 _ => fqG n
  | .t7 _ => fqG n - 1
  | .t8 _ => 5
  | .x1 _ => 2
  | .x2 _ => fqG n + 1
  | .x6 _ => fqG n
  | .x7 _ => fqG n - 1
  | .x8 _ => 5
  | .d1 _ => fqG n
  | .d2 _ => fqG n - 1
  | .d3 _ => 5
  | _ => 1

theorem fq_two {n t c : Nat} {p : FqP} {pr : Int → Bool} (h : fqWait n t p = some (c, pr)) : (c = 8 + t ∧ (pr = fun v => v != 0) ∧ fqMk p = .g2) ∨ (c = 8 + n + t ∧ (pr = fun v => v == 0) ∧ fqMk p = .e4 ∧ fqRd p = 0) ∨ (c = 1 ∧ (pr = fun v => v == 0) ∧ fqMk p = .hd ∧ fqRd p = 0) := by
  cases p <;> simp [fqWait] at h <;> obtain ⟨rfl, rfl⟩ := h <;> simp [fqMk, fqRd]
theorem fqG_4 (n : Nat) : 4 ≤ fqG n := by unfold fqG; split <;> omega
set_option maxHeartbeats 3200000 in
theorem fq_live (n : Nat) : (fqK n).Live n (fqI n) 7 3 (fqG n + 4) fqNw fqNv (fun _ _ p => fqCp n p) := by
  have hg := fqG_4 n
  refine ⟨fun p => by cases p <;> simp [fqNw] <;> (repeat' split) <;> omega, fun p => by cases p <;> simp [fqNv] <;> (repeat' split) <;> omega, by omega, fun m t p => by cases p <;> simp [fqCp] <;> (repeat' split) <;> omega, fun m t p c pr hw hpr => ?_, fun m t p c pr hw hpr => ?_, fun t p c pr v hw => ?_,
    fun m t p w hw hop he => ?_, fun b ps m t p hI hpl ht hpt hw hop he => ?_, fun m t h hh => ?_, fun m t => rfl, fun m t p hw hz => ?_, fun b ps m H hl hall => ?_⟩
  · cases p <;> simp [fqK, fqWait] at hw <;> simp [fqK, fqPost, fqCp]
  · cases p <;> simp [fqK, fqWait] at hw <;> simp [fqCp] <;> omega
  · cases p <;> simp [fqK, fqWait] at hw <;> simp [fqK, fqPost, fqNw, fqNv]
  · change (fqAct n t m p).2.1 = some w at he
    change fqNw (fqAct n t m p).1 + 1 ≤ fqNw p ∧ fqNv (fqAct n t m p).1 + (if (fqAct n t m p).2.2.isSome then 1 else 0) ≤ fqNv p
    cases p <;> simp [fqK, fqWait] at hw <;> simp [fqK, fqConc, fqFr, Fr.zero] at hop
    all_goals simp only [fqAct] at he ⊢
    all_goals first | (cases he; done) | (simp [fqNw, fqNv]; done) | (by_cases hq : m 0 = 0 <;> simp [hq] at he <;> simp [fqNw, fqNv, hq]; done) | (by_cases hq : m 0 = (t : Int) + 1 <;> simp [hq] at he <;> simp [fqNw, fqNv, hq]; done)
  · change (fqAct n t m p).2.1 = none at he
    show (fqAct n t m p).2.2 = none ∧ fqNw (fqAct n t m p).1 ≤ fqNw p ∧ fqNv (fqAct n t m p).1 ≤ fqNv p ∧ fqCp n (fqAct n t m p).1 + 1 ≤ fqCp n p
    have hal := fun h => fun e => hI.2.2.2.1.alone (i := t) e ht h
    change ps.getD t (.idle 0) = p at hpt
    rw [hpt] at hal
    clear hI hpl hpt
    cases p <;> simp [fqK, fqWait] at hw <;> simp [fqK, fqConc, fqFr, Fr.zero] at hop
    case r0 => simp [fqAct] at he
    case r1 => simp [fqAct] at he
    case r2 => simp [fqAct] at he
    case r3 a => simp [fqAct] at he
    case r5 a => simp [fqAct] at he
    case r6 a => by_cases hq : m (8 + t) = 0 <;> simp [fqAct, fqNw, fqNv, fqCp, hq] <;> omega
    case r7 a =>
      have hal := hal rfl
      by_cases hq : m 0 = (t : Int) + 1
      · simp [fqAct, hq] at he
      · have hn1 : n ≠ 1 := fun e => hq (hal e)
        have hg7 : fqG n = 7 := by unfold fqG; rw [if_neg hn1]
        simp [fqAct, fqNw, fqNv, fqCp, hq, hg7]
    case r9 a => simp [fqAct] at he
    case q0 a => simp [fqAct] at he
    case q1 a => by_cases hq : m 0 = 0 <;> simp [fqAct, hq] at he <;> simp [fqAct, fqNw, fqNv, fqCp, hq]
    case q5 a => simp [fqAct] at he
    case q6 a => by_cases hq : m (8 + t) = 0 <;> simp [fqAct, fqNw, fqNv, fqCp, hq] <;> omega
    case q7 a =>
      have hal := hal rfl
      by_cases hq : m 0 = (t : Int) + 1
      · simp [fqAct, hq] at he
      · have hn1 : n ≠ 1 := fun e => hq (hal e)
        have hg7 : fqG n = 7 := by unfold fqG; rw [if_neg hn1]
        simp [fqAct, fqNw, fqNv, fqCp, hq, hg7]
    case q9 a => simp [fqAct] at he
    case w0 => simp [fqAct] at he
    case w1 => simp [fqAct] at he
    case w2 => simp [fqAct] at he
    case w3 a => simp [fqAct] at he
    case v0 => by_cases hq : m (8 + t) = 0 <;> simp [fqAct, fqNw, fqNv, fqCp, hq] <;> omega
    case v1 a =>
      have hal := hal rfl
      by_cases hq : m 0 = (t : Int) + 1
      · simp [fqAct, hq] at he
      · have hn1 : n ≠ 1 := fun e => hq (hal e)
        have hg7 : fqG n = 7 := by unfold fqG; rw [if_neg hn1]
        simp [fqAct, fqNw, fqNv, fqCp, hq, hg7]
    case v3 a => simp [fqAct] at he
    case t0 a => simp [fqAct] at he
    case t1 a => by_cases hq : m 0 = 0 <;> simp [fqAct, hq] at he <;> simp [fqAct, fqNw, fqNv, fqCp, hq]
    case t2 a => by_cases hq : m 1 = 0 <;> simp [fqAct, fqNw, fqNv, fqCp, hq] <;> omega
    case t6 a => by_cases hq : m (8 + t) = 0 <;> simp [fqAct, fqNw, fqNv, fqCp, hq] <;> omega
    case t7 a =>
      have hal := hal rfl
      by_cases hq : m 0 = (t : Int) + 1
      · simp [fqAct, hq] at he
      · have hn1 : n ≠ 1 := fun e => hq (hal e)
        have hg7 : fqG n = 7 := by unfold fqG; rw [if_neg hn1]
        simp [fqAct, fqNw, fqNv, fqCp, hq, hg7]
    case t9 a => simp [fqAct] at he
    case x0 a => simp [fqAct] at he
    case x1 a => by_cases hq : m 0 = 0 <;> simp [fqAct, hq] at he <;> simp [fqAct, fqNw, fqNv, fqCp, hq]
    case x2 a => by_cases hq : m 1 = 1 <;> simp [fqAct, fqNw, fqNv, fqCp, hq] <;> omega
    case x3 a => simp [fqAct] at he
    case x6 a => by_cases hq : m (8 + t) = 0 <;> simp [fqAct, fqNw, fqNv, fqCp, hq] <;> omega
    case x7 a =>
      have hal := hal rfl
      by_cases hq : m 0 = (t : Int) + 1
      · simp [fqAct, hq] at he
      · have hn1 : n ≠ 1 := fun e => hq (hal e)
        have hg7 : fqG n = 7 := by unfold fqG; rw [if_neg hn1]
        simp [fqAct, fqNw, fqNv, fqCp, hq, hg7]
    case x9 a => simp [fqAct] at he
    case u0 => simp [fqAct] at he
    case d0 => simp [fqAct] at he
    case d1 a => by_cases hq : m (8 + t) = 0 <;> simp [fqAct, fqNw, fqNv, fqCp, hq] <;> omega
    case d2 a =>
      have hal := hal rfl
      by_cases hq : m 0 = (t : Int) + 1
      · simp [fqAct, hq] at he
      · have hn1 : n ≠ 1 := fun e => hq (hal e)
        have hg7 : fqG n = 7 := by unfold fqG; rw [if_neg hn1]
        simp [fqAct, fqNw, fqNv, fqCp, hq, hg7]
    case d4 a => simp [fqAct] at he
  · rcases hh with rfl | rfl <;> simp [fqK, fqStart, fqNw, fqNv, fqCp]
  · cases p <;> simp [fqK, fqWait] at hw <;> simp [fqCp] at hz
    case idle h =>
      rcases Decidable.em (h = 0) with h0 | h0
      · subst h0; rfl
      · have hz := hz h0
        split at hz
        · cases hz
        · omega
    all_goals omega
  · obtain ⟨h1, h2, _, HQ, hR, ha⟩ := H
    have hk : ∀ i, i < n → ps.getD i (.idle 0) = .idle 0 ∨ (fqMk (ps.getD i (.idle 0)) = .g2 ∧ m (8 + i) = 0) ∨ (fqMk (ps.getD i (.idle 0)) = .e4 ∧ fqRd (ps.getD i (.idle 0)) = 0 ∧ m (8 + n + i) ≠ 0) ∨ (fqMk (ps.getD i (.idle 0)) = .hd ∧ fqRd (ps.getD i (.idle 0)) = 0 ∧ m 1 ≠ 0) := fun i hi => by
      rcases hall i hi with h | ⟨c, pr, hw, hpr⟩
      · exact Or.inl h
      · right
        rcases fq_two hw with ⟨rfl, rfl, h⟩ | ⟨rfl, rfl, h, h3⟩ | ⟨rfl, rfl, h, h3⟩
        · exact Or.inl ⟨h, by simpa using hpr⟩
        · exact Or.inr (Or.inl ⟨h, h3, by simpa using hpr⟩)
        · exact Or.inr (Or.inr ⟨h, h3, by simpa using hpr⟩)
    have e0 : fqMk (.idle 0) = .out := rfl
    rcases HQ.free (fun j hj => by
      rcases hk j hj with h | ⟨h, h3⟩ | ⟨h, _, h3⟩ | ⟨h, _⟩
      · rw [h, e0]; exact Or.inl rfl
      · exact Or.inr (Or.inr (Or.inr ⟨h, h3⟩))
      · exact Or.inr (Or.inr (Or.inl ⟨h, h3⟩))
      · exact Or.inr (Or.inl h)) with hf | ⟨t, ht, hf⟩
    · intro i hi
      have := hf i hi
      rcases hk i hi with h | ⟨h, h3⟩ | ⟨h, _, h3⟩ | ⟨h, _⟩
      · exact h
      all_goals (rw [h] at this; cases this)
    · exfalso
      have hz : ws fqRd ps = 0 := ws_all0 (d := FqP.idle 0) hl (fun j hj => by
        rcases hk j hj with h | ⟨h, h3⟩ | ⟨_, h, _⟩ | ⟨_, h, _⟩
        · rw [h]; rfl
        · exfalso
          have := HQ.one ht hj (by rw [hf]; rfl) (by rw [h]; rfl)
          subst this
          rw [h] at hf
          cases hf
        · exact h
        · exact h)
      rcases hk t ht with h | ⟨h, h3⟩ | ⟨h, _, h3⟩ | ⟨h, _, h3⟩
      · rw [h, e0] at hf; cases hf
      · rw [h] at hf; cases hf
      · rw [h] at hf; cases hf
      · omega

theorem fq_all (n : Nat) (mode : Int) (h1 : 1 ≤ n) (h2 : n ≤ 64) : (fqK n).All n mode (fqI n) 7 3 (fqG n + 4) fqNw fqNv (fun _ _ p => fqCp n p) := by
  refine ⟨fq_good n mode h1 h2, fq_kept n, fq_live n, fun b ps m i h H hi hl hp => ?_, fun b ps m i j H hl hi hj hji hp => ?_, fun t h => rfl⟩
  · have hai := H.2.2.2.2.2 i hi
    change ps.getD i (.idle 0) = .idle h at hp
    rw [hp] at hai
    have hai : h = 0 ∨ h = 1 ∨ (h = 2 ∧ m 1 = 0) := hai
    omega
  · obtain ⟨_, _, _, HQ, hR, ha⟩ := H
    have hai := ha i hi
    have haj := ha j hj
    have hone := HQ.one (i := i) (j := j) hi hj
    have d1 := ws_one (d := FqP.idle 0) fqRd_01 (l := ps) (i := j) (by omega)
    rw [← hR] at d1
    change ps.getD i (.idle 0) = .idle 2 at hp
    rw [hp] at hai hone
    have hai : (2 : Int) = 0 ∨ (2 : Int) = 1 ∨ ((2 : Int) = 2 ∧ m 1 = 0) := hai
    have hone := hone rfl
    show (fqConc (ps.getD j (.idle 0))).2 = 0
    generalize ps.getD j (.idle 0) = p at haj hone d1
    cases p <;> simp only [fqAt, fqRd] at haj d1 <;> first | rfl | skip
    case idle h =>
      show h = 0
      rcases haj with rfl | rfl | ⟨rfl, h4⟩
      · rfl
      · simp at d1; omega
      · exact absurd (hone rfl).symm hji
    all_goals first | omega | (exact absurd (hone rfl).symm hji)

/-- ONE WRITES, OR MANY READ. -/
theorem fq_excludes (k : Nat) (d base : Int) (h1 : 1 ≤ k) (h2 : k ≤ 6) (hd : d = 1 ∨ d = 2) (hb : 0 ≤ base ∧ base < 4294967296) (l : List (Int × Int)) (hlen : l.length ≤ 500) : ExcludesOk fqA k (Mt.start k d (own4 base ++ List.replicate ((8 + 4 * (k : Int)).toNat - 2) 0)) l := by
  have hfit : k * ((fqG k + 4 + 1) * 7 + 2 * k * 3) + 2 * k + (fqG k + 4) < 2 * k * (8 * k + 40) := by
    rcases (show k = 1 ∨ k = 2 ∨ k = 3 ∨ k = 4 ∨ k = 5 ∨ k = 6 by omega) with rfl | rfl | rfl | rfl | rfl | rfl <;> decide
  refine excludes_ok (K := fqK k) (fq_all k d h1 (by omega)) h1 (by omega) hd hfit rfl l (start_MI (fq_all k d h1 (by omega)) _ (by simp [own4]; omega) ?_)
  have hr : ∀ i, (List.replicate k (FqP.idle 0)).getD i (FqP.idle 0) = FqP.idle 0 := fun i => by
    rw [List.getD_eq_getElem?_getD, List.getElem?_replicate]; split <;> rfl
  have hx : ∀ j, mainOf k (own4 base ++ List.replicate ((8 + 4 * (k : Int)).toNat - 2) 0) j = 0 := fun j => by
    unfold mainOf
    split
    · rcases j with _ | _ | j
      · rfl
      · rfl
      · show (List.replicate ((8 + 4 * (k : Int)).toNat - 2) (0 : Int)).getD j 0 = 0
        rw [List.getD_eq_getElem?_getD, List.getElem?_replicate]; split <;> rfl
    · rfl
  refine ⟨h1, by omega, by simp, ⟨[], List.nodup_nil, by simp, fun i hi => ?_, hx 0, trivial, trivial, fun i hi => ?_⟩, ?_, fun j hj => ?_⟩
  · show _ ↔ (fqMk ((List.replicate k (FqP.idle 0)).getD i (FqP.idle 0))).inq = true
    rw [hr]; simp [fqMk, Mk.inq]
  · show ((fqMk ((List.replicate k (FqP.idle 0)).getD i (FqP.idle 0)) = _ ∨ fqMk ((List.replicate k (FqP.idle 0)).getD i (FqP.idle 0)) = _) → _) ∧ (fqMk ((List.replicate k (FqP.idle 0)).getD i (FqP.idle 0)) = _ → _)
    rw [hr]; exact ⟨(fun h => by rcases h with h | h <;> cases h), (fun h => by cases h)⟩
  · rw [hx]
    exact (ws_replicate (f := fqRd) rfl).symm
  · show fqAt _ ((List.replicate k (FqP.idle 0)).getD j (FqP.idle 0))
    rw [hr]; exact Or.inl rfl

end Go.Proofs.Ytbcppehpfckgoaa.Z

/- Law 13: the statement FqExcludes. Written by genmat.py. -/
set_option linter.unusedVariables false
set_option linter.unusedSimpArgs false
namespace Go.Proofs.Ytbcppehpfckgoaa.Z
open Go.RowKit

theorem fqExcludes_any {B : Option Addr} {m d : Nat} {l : List (Int × Int)} (n mode base : Int) (w : World) (hn : 0 ≤ n ∧ n < 256) (hm : 0 ≤ mode ∧ mode < 256) (hb : 0 ≤ base ∧ base < 4294967296) (hB : Rd w 2 B m (l.flatMap turnDec)) (hl : ∀ x, x ∈ l → (0 ≤ x.1 ∧ x.1 < 256) ∧ (0 ≤ x.2 ∧ x.2 < 256)) :
    Calls Try.prog 6 #[.int .u8 n, .int .u8 mode, .int .u32 base, .slice B m d] w fun e w' => e = .returned (.bool true) ∧ Touch [] w w' := by
  by_cases h5 : m ≤ 500
  · exact fq_excludes_some n mode base l w hn hm hb hB hl h5 (fun k hk => fq_excludes k (1 + mode % 2) base (by omega) (by omega) (by omega) hb l (by rw [turn_len hB]; exact h5))
  · exact fq_excludes_long n mode base w hn hm hb (by omega)

end Go.Proofs.Ytbcppehpfckgoaa.Z
