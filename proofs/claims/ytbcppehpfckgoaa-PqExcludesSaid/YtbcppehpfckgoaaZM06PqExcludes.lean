/- 3 texts of this claim, joined: what each shows stands at its own head. -/
import Derived.Test.YtbcppehpfckgoaaZM05PqExcludes
import Derived.Test.YtbcppehpfckgoaaZM02PqExcludes
import Derived.Test.YtbcppehpfckgoaaZM04PqExcludes
/- The phase-fair queue lock: where a task is, what a step does. No program is in sight. Written by genpqlive.py. -/
set_option linter.unusedVariables false
set_option linter.unusedSimpArgs false
namespace Go.Proofs.Ytbcppehpfckgoaa.Z
open Go.RowKit

/-- Where a task is. -/
inductive PqP
  | idle (h : Int)
  | r0
  | r1 (a : Int)
  | u0
  | q0 (a : Int)
  | q1 (a : Int)
  | w0
  | w1
  | w2
  | w3 (a : Int)
  | w4 (a : Int)
  | w5 (a : Int)
  | w6 (a : Int) (b : Int)
  | w7 (a : Int) (b : Int)
  | v0
  | v1 (b : Int)
  | v2 (b : Int)
  | v3 (b : Int)
  | v4 (a : Int) (b : Int)
  | v5 (a : Int) (b : Int)
  | v6 (a : Int) (b : Int)
  | d0
  | d1 (b : Int)
  | d2 (b : Int)
  | d3 (b : Int)
  | d4 (a : Int) (b : Int)
  | d5 (a : Int) (b : Int)
  | d6 (a : Int) (b : Int)
  | y0
  | y1
  | y2
  | y3 (a : Int)
  | y4 (a : Int) (b : Int)
  | y5 (a : Int) (b : Int)
  | y6 (a : Int) (b : Int)
  | y8 (a : Int) (b : Int)
  | y9 (a : Int) (b : Int)
  | y10 (a : Int) (b : Int)
  | y11 (a : Int) (b : Int)
  | z0
  | z1
  | z2
  | z3 (a : Int)
  | z4 (a : Int) (b : Int)
  | z5 (a : Int) (b : Int)
  | z6 (a : Int) (b : Int)
  | z7 (a : Int) (b : Int)
  | z8 (a : Int) (b : Int)
  | z9 (a : Int) (b : Int)
  | z10 (a : Int) (b : Int)
  | z11 (a : Int) (b : Int)
def pqFr (op line a b : Int) : Fr := ⟨op, line, a, b, 0, Wk.zero, 0⟩
def pqConc : PqP → Fr × Int
  | .idle h => (Fr.zero, h)
  | .r0 => (pqFr 1 0 0 0, 0)
  | .r1 a => (pqFr 1 1 a 0, 0)
  | .u0 => (pqFr 2 0 0 0, 0)
  | .q0 a => (pqFr 5 0 a 0, 0)
  | .q1 a => (pqFr 5 1 a 0, 0)
  | .w0 => (pqFr 3 0 0 0, 0)
  | .w1 => (pqFr 3 1 0 0, 0)
  | .w2 => (pqFr 3 2 0 0, 0)
  | .w3 a => (pqFr 3 3 a 0, 0)
  | .w4 a => (pqFr 3 4 a 0, 0)
  | .w5 a => (pqFr 3 5 a 0, 0)
  | .w6 a b => (pqFr 3 6 a b, 0)
  | .w7 a b => (pqFr 3 7 a b, 0)
  | .v0 => (pqFr 4 0 0 0, 0)
  | .v1 b => (pqFr 4 1 0 b, 0)
  | .v2 b => (pqFr 4 2 0 b, 0)
  | .v3 b => (pqFr 4 3 0 b, 0)
  | .v4 a b => (pqFr 4 4 a b, 0)
  | .v5 a b => (pqFr 4 5 a b, 0)
  | .v6 a b => (pqFr 4 6 a b, 0)
  | .d0 => (pqFr 8 0 0 0, 1)
  | .d1 b => (pqFr 8 1 0 b, 1)
  | .d2 b => (pqFr 8 2 0 b, 1)
  | .d3 b => (pqFr 8 3 0 b, 1)
  | .d4 a b => (pqFr 8 4 a b, 1)
  | .d5 a b => (pqFr 8 5 a b, 1)
  | .d6 a b => (pqFr 8 6 a b, 1)
  | .y0 => (pqFr 6 0 0 0, 0)
  | .y1 => (pqFr 6 1 0 0, 0)
  | .y2 => (pqFr 6 2 0 0, 0)
  | .y3 a => (pqFr 6 3 a 0, 0)
  | .y4 a b => (pqFr 6 4 a b, 0)
  | .y5 a b => (pqFr 6 5 a b, 0)
  | .y6 a b => (pqFr 6 6 a b, 0)
  | .y8 a b => (pqFr 6 8 a b, 0)
  | .y9 a b => (pqFr 6 9 a b, 0)
  | .y10 a b => (pqFr 6 10 a b, 0)
  | .y11 a b => (pqFr 6 11 a b, 0)
  | .z0 => (pqFr 7 0 0 0, 1)
  | .z1 => (pqFr 7 1 0 0, 1)
  | .z2 => (pqFr 7 2 0 0, 1)
  | .z3 a => (pqFr 7 3 a 0, 1)
  | .z4 a b => (pqFr 7 4 a b, 1)
  | .z5 a b => (pqFr 7 5 a b, 1)
  | .z6 a b => (pqFr 7 6 a b, 1)
  | .z7 a b => (pqFr 7 7 a b, 1)
  | .z8 a b => (pqFr 7 8 a b, 1)
  | .z9 a b => (pqFr 7 9 a b, 1)
  | .z10 a b => (pqFr 7 10 a b, 1)
  | .z11 a b => (pqFr 7 11 a b, 1)
def pqWait (n t : Nat) : PqP → Option (Nat × (Int → Bool))
  | .r1 a => some (0, fun v => v % 4 != a % 4)
  | .w4 _ => some (8 + n + t, fun v => v == 0)
  | .w7 a _ => some (1, fun v => v == a)
  | .y6 a _ => some (1, fun v => v == a)
  | .z6 a _ => some (1, fun v => v == (a - 256) % 4294967296)
  | .v5 _ _ => some (8 + t, fun v => v != 0)
  | .d5 _ _ => some (8 + t, fun v => v != 0)
  | .y10 _ _ => some (8 + t, fun v => v != 0)
  | .z10 _ _ => some (8 + t, fun v => v != 0)
  | _ => none
def pqPost (v : Int) : PqP → PqP
  | .r1 _ => .idle 1
  | .w4 a => .w5 a
  | .w7 _ _ => .idle 2
  | .y6 _ _ => .idle 2
  | .z6 a b => .z7 a b
  | .v5 _ b => .v6 v b
  | .d5 _ b => .d6 v b
  | .y10 _ b => .y11 v b
  | .z10 _ b => .z11 v b
  | p => p
def pqKeep (v : Int) : PqP → Int
  | .r1 a => a
  | .w4 a => a
  | .w7 a _ => a
  | .y6 a _ => a
  | .z6 a _ => a
  | .v5 _ _ => v
  | .d5 _ _ => v
  | .y10 _ _ => v
  | .z10 _ _ => v
  | _ => 0
def pqAct (n t : Nat) (m : Nat → Int) : PqP → PqP × Option (Nat × Int) × Option Nat
  | .r0 => (if m 0 % 4 = 0 then .idle 1 else .r1 (m 0), some (0, (m 0 + 256) % 4294967296), none)
  | .u0 => (.idle 0, some (1, (m 1 + 256) % 4294967296), some 1)
  | .q0 _ => (if m 0 % 4 = 0 then .q1 (m 0) else .idle 0, none, none)
  | .q1 a => if m 0 = a then (.idle 1, some (0, (a + 256) % 4294967296), none) else (.q0 a, none, none)
  | .w0 => (.w1, some (8 + t, 0), none)
  | .w1 => (.w2, some (8 + n + t, 1), none)
  | .w2 => (if m 2 = 0 then .w5 (m 2) else .w3 (m 2), some (2, (t : Int) + 1), none)
  | .w3 a => (.w4 a, some (8 + (a - 1).toNat, (t : Int) + 1), some (8 + (a - 1).toNat))
  | .w5 a => (.w6 a (m 3), none, none)
  | .w6 _ b => (.w7 (m 0) b, some (0, (m 0 + pfP b) % 4294967296), none)
  | .v0 => (.v1 (m 3), none, none)
  | .v1 b => (.v2 b, some (0, (m 0 + -pfP b % 4294967296) % 4294967296), some 0)
  | .v2 b => (.v3 b, some (3, (b + 1) % 4294967296), none)
  | .d0 => (.d1 (m 3), none, none)
  | .d1 b => (.d2 b, some (0, (m 0 + (256 - pfP b) % 4294967296) % 4294967296), some 0)
  | .d2 b => (.d3 b, some (3, (b + 1) % 4294967296), none)
  | .y0 => (.y1, some (8 + t, 0), none)
  | .y1 => if m 2 = 0 then (.y2, some (2, (t : Int) + 1), none) else (.idle 0, none, none)
  | .y2 => (.y3 (m 0), none, none)
  | .y3 a => (if 0 < aheadA a (m 1) then .y8 a (m 1) else .y4 a (m 1), none, none)
  | .y4 a _ => (.y5 a (m 3), none, none)
  | .y5 _ b => (.y6 (m 0) b, some (0, (m 0 + pfP b) % 4294967296), none)
  | .z0 => (.z1, some (8 + t, 0), none)
  | .z1 => if m 2 = 0 then (.z2, some (2, (t : Int) + 1), none) else (.idle 1, none, none)
  | .z2 => (.z3 (m 0), none, none)
  | .z3 a => (if 256 < aheadA a (m 1) then .z8 a (m 1) else .z4 a (m 1), none, none)
  | .z4 a _ => (.z5 a (m 3), none, none)
  | .z5 _ b => (.z6 (m 0) b, some (0, (m 0 + pfP b) % 4294967296), none)
  | .z7 _ _ => (.idle 2, some (1, (m 1 + 256) % 4294967296), none)
  | .v3 b => (if m (8 + t) = 0 then .v4 (m (8 + t)) b else .v6 (m (8 + t)) b, none, none)
  | .v4 a b => if m 2 = (t : Int) + 1 then (.idle 0, some (2, 0), none) else (.v5 a b, none, none)
  | .v6 a _ => (.idle 0, some (8 + n + (a - 1).toNat, 0), some (8 + n + (a - 1).toNat))
  | .d3 b => (if m (8 + t) = 0 then .d4 (m (8 + t)) b else .d6 (m (8 + t)) b, none, none)
  | .d4 a b => if m 2 = (t : Int) + 1 then (.idle 1, some (2, 0), none) else (.d5 a b, none, none)
  | .d6 a _ => (.idle 1, some (8 + n + (a - 1).toNat, 0), some (8 + n + (a - 1).toNat))
  | .y8 _ b => (if m (8 + t) = 0 then .y9 (m (8 + t)) b else .y11 (m (8 + t)) b, none, none)
  | .y9 a b => if m 2 = (t : Int) + 1 then (.idle 0, some (2, 0), none) else (.y10 a b, none, none)
  | .y11 a _ => (.idle 0, some (8 + n + (a - 1).toNat, 0), some (8 + n + (a - 1).toNat))
  | .z8 _ b => (if m (8 + t) = 0 then .z9 (m (8 + t)) b else .z11 (m (8 + t)) b, none, none)
  | .z9 a b => if m 2 = (t : Int) + 1 then (.idle 1, some (2, 0), none) else (.z10 a b, none, none)
  | .z11 a _ => (.idle 1, some (8 + n + (a - 1).toNat, 0), some (8 + n + (a - 1).toNat))
  | p => (p, none, none)
def pqStart (op h : Int) : PqP := if op = 1 then .r0 else if op = 2 then .u0 else if op = 3 then .w0 else if op = 4 then .v0 else if op = 5 then .q0 0 else if op = 6 then .y0 else if op = 7 then .z0 else .d0
/-- Where it is with the queue. -/
def pqMk : PqP → Mk
  | .idle h => if h = 2 then .hd else .out
  | .r0 => .out
  | .r1 _ => .out
  | .u0 => .out
  | .q0 _ => .out
  | .q1 _ => .out
  | .w0 => .out
  | .w1 => .nx
  | .w2 => .nb
  | .w3 a => .e3 a
  | .w4 _ => .e4
  | .w5 _ => .hd
  | .w6 _ _ => .hd
  | .w7 _ _ => .hd
  | .v0 => .hd
  | .v1 _ => .hd
  | .v2 _ => .hd
  | .v3 _ => .hd
  | .v4 _ _ => .g1
  | .v5 _ _ => .g2
  | .v6 a _ => .g3 a
  | .d0 => .hd
  | .d1 _ => .hd
  | .d2 _ => .hd
  | .d3 _ => .hd
  | .d4 _ _ => .g1
  | .d5 _ _ => .g2
  | .d6 a _ => .g3 a
  | .y0 => .out
  | .y1 => .nx
  | .y2 => .hd
  | .y3 _ => .hd
  | .y4 _ _ => .hd
  | .y5 _ _ => .hd
  | .y6 _ _ => .hd
  | .y8 _ _ => .hd
  | .y9 _ _ => .g1
  | .y10 _ _ => .g2
  | .y11 a _ => .g3 a
  | .z0 => .out
  | .z1 => .nx
  | .z2 => .hd
  | .z3 _ => .hd
  | .z4 _ _ => .hd
  | .z5 _ _ => .hd
  | .z6 _ _ => .hd
  | .z7 _ _ => .hd
  | .z8 _ _ => .hd
  | .z9 _ _ => .g1
  | .z10 _ _ => .g2
  | .z11 a _ => .g3 a
/-- What it is to those that read and write. -/
def pqAttr : PqP → Ph
  | .idle h => ⟨decide (h = 2), decide (h = 2), false, false, false, decide (h = 1), .none, .none, .none⟩
  | .r0 => ⟨false, false, false, false, false, false, .none, .none, .none⟩
  | .r1 a => ⟨false, false, false, false, false, false, some (a % 4), .none, .none⟩
  | .u0 => ⟨false, false, false, false, false, true, .none, .none, .none⟩
  | .q0 _ => ⟨false, false, false, false, false, false, .none, .none, .none⟩
  | .q1 _ => ⟨false, false, false, false, false, false, .none, .none, .none⟩
  | .w0 => ⟨false, false, false, false, false, false, .none, .none, .none⟩
  | .w1 => ⟨false, false, false, false, false, false, .none, .none, .none⟩
  | .w2 => ⟨false, false, false, false, false, false, .none, .none, .none⟩
  | .w3 _ => ⟨false, false, false, false, false, false, .none, .none, .none⟩
  | .w4 _ => ⟨false, false, false, false, false, false, .none, .none, .none⟩
  | .w5 _ => ⟨true, false, false, false, false, false, .none, .none, .none⟩
  | .w6 _ b => ⟨true, false, false, false, false, false, .none, some b, .none⟩
  | .w7 a _ => ⟨true, false, false, true, false, false, .none, .none, some a⟩
  | .v0 => ⟨true, true, false, false, false, false, .none, .none, .none⟩
  | .v1 b => ⟨true, true, false, false, false, false, .none, some b, .none⟩
  | .v2 b => ⟨true, false, false, false, true, false, .none, some b, .none⟩
  | .v3 _ => ⟨true, false, false, false, false, false, .none, .none, .none⟩
  | .v4 _ _ => ⟨true, false, false, false, false, false, .none, .none, .none⟩
  | .v5 _ _ => ⟨true, false, false, false, false, false, .none, .none, .none⟩
  | .v6 _ _ => ⟨true, false, false, false, false, false, .none, .none, .none⟩
  | .d0 => ⟨true, true, false, false, false, false, .none, .none, .none⟩
  | .d1 b => ⟨true, true, false, false, false, false, .none, some b, .none⟩
  | .d2 b => ⟨true, false, false, false, true, true, .none, some b, .none⟩
  | .d3 _ => ⟨true, false, false, false, false, true, .none, .none, .none⟩
  | .d4 _ _ => ⟨true, false, false, false, false, true, .none, .none, .none⟩
  | .d5 _ _ => ⟨true, false, false, false, false, true, .none, .none, .none⟩
  | .d6 _ _ => ⟨true, false, false, false, false, true, .none, .none, .none⟩
  | .y0 => ⟨false, false, false, false, false, false, .none, .none, .none⟩
  | .y1 => ⟨false, false, false, false, false, false, .none, .none, .none⟩
  | .y2 => ⟨true, false, false, false, false, false, .none, .none, .none⟩
  | .y3 _ => ⟨true, false, false, false, false, false, .none, .none, .none⟩
  | .y4 _ _ => ⟨true, false, false, false, false, false, .none, .none, .none⟩
  | .y5 _ b => ⟨true, false, false, false, false, false, .none, some b, .none⟩
  | .y6 a _ => ⟨true, false, false, true, false, false, .none, .none, some a⟩
  | .y8 _ _ => ⟨true, false, false, false, false, false, .none, .none, .none⟩
  | .y9 _ _ => ⟨true, false, false, false, false, false, .none, .none, .none⟩
  | .y10 _ _ => ⟨true, false, false, false, false, false, .none, .none, .none⟩
  | .y11 _ _ => ⟨true, false, false, false, false, false, .none, .none, .none⟩
  | .z0 => ⟨false, false, false, false, false, true, .none, .none, .none⟩
  | .z1 => ⟨false, false, false, false, false, true, .none, .none, .none⟩
  | .z2 => ⟨true, false, false, false, false, true, .none, .none, .none⟩
  | .z3 _ => ⟨true, false, false, false, false, true, .none, .none, .none⟩
  | .z4 _ _ => ⟨true, false, false, false, false, true, .none, .none, .none⟩
  | .z5 _ b => ⟨true, false, false, false, false, true, .none, some b, .none⟩
  | .z6 a _ => ⟨true, false, false, true, false, true, .none, .none, some a⟩
  | .z7 _ _ => ⟨true, false, true, false, false, true, .none, .none, .none⟩
  | .z8 _ _ => ⟨true, false, false, false, false, true, .none, .none, .none⟩
  | .z9 _ _ => ⟨true, false, false, false, false, true, .none, .none, .none⟩
  | .z10 _ _ => ⟨true, false, false, false, false, true, .none, .none, .none⟩
  | .z11 _ _ => ⟨true, false, false, false, false, true, .none, .none, .none⟩
def pqOk (n : Nat) (p : PqP) : Prop := ∀ a, (pqMk p = .e3 a ∨ pqMk p = .g3 a) → 1 ≤ a ∧ a ≤ n
def pqK (n : Nat) : LockM PqP := ⟨pqA, pqConc, fun p v => pqKeep v p, fun t p => pqWait n t p, fun p v => pqPost v p, fun t p m => pqAct n t m p, .idle, pqStart, pqOk n⟩

set_option maxHeartbeats 9600000 in
theorem pq_good (n : Nat) (mode : Int) (h1 : 1 ≤ n) (h2 : n ≤ 64) : (pqK n).Good n mode := by
  refine ⟨fun p => by cases p <;> exact ⟨rfl, rfl, rfl⟩, fun h => rfl, fun p hp => ?_, fun p hp => ?_, fun t p c pr hw => ?_, fun op h hm => ?_, fun t op h hm => ?_, fun t p c pr _ htn hw => ?_, fun t p c pr v hw hh => ?_, fun p t s hok ht hw hop hn hmd htk hf hl => ?_, fun p t c pr st s hok ht hw h0 h3 hn hmd htk hf hl => ?_, fun p t c pr v s hok ht hm2 hw hpr hn hmd htk hf hl => ?_⟩
  · cases p <;> first | rfl | (simp [pqK, pqConc, pqFr] at hp)
  · cases p <;> first | (simp [pqK, pqConc, pqFr] at hp; done) | (simp [pqK, pqConc, pqFr] at hp; rw [hp]; rfl)
  · cases p <;> simp [pqK, pqWait] at hw <;> simp [pqK, pqConc, pqFr]
  · rcases may_ops hm with ⟨rfl, rfl | rfl | rfl | rfl⟩ | ⟨rfl, rfl | rfl⟩ | ⟨_, _, rfl | rfl⟩ <;> simp [pqStart, pqK, pqConc, pqFr, frOp, fromA]
  · rcases may_ops hm with ⟨rfl, rfl | rfl | rfl | rfl⟩ | ⟨rfl, rfl | rfl⟩ | ⟨_, _, rfl | rfl⟩ <;> simp [pqK, pqStart, pqWait]
  · cases p <;> simp [pqK, pqWait] at hw <;> omega
  · cases p <;> simp [pqK, pqWait] at hw <;> simp [pqPost, pqK, pqConc, pqFr] at hh ⊢
  · obtain ⟨sn, sm, st, f, acc, notes, L⟩ := s
    simp only at hn hmd htk hf hl
    subst hn hmd htk hf
    have e0 := cell_row (n := n) (row := 0) (i := t) h1 h2 (by omega) (by omega)
    have e1 := cell_row (n := n) (row := 1) (i := t) h1 h2 (by omega) (by omega)
    simp only [Int.zero_mul, Int.add_zero, Int.one_mul] at e0 e1
    have ow : ((t : Int) + 1) % 4294967296 = t + 1 := by omega
    have c0 : (0 : Int).toNat = 0 := rfl
    have c1 : (1 : Int).toNat = 1 := rfl
    have c2 : (2 : Int).toNat = 2 := rfl
    have c3 : (3 : Int).toNat = 3 := rfl
    have cN : (8 + (t : Int)).toNat = 8 + t := by omega
    have cB : (8 + (n : Int) + t).toNat = 8 + n + t := by omega
    have lN := at_ld (n := n) (L := L) (c := 8 + (t : Int)) hl (by omega) (by omega)
    have sN := fun x => at_st (n := n) (L := L) (c := 8 + (t : Int)) (x := x) hl (by omega) (by omega)
    have sB := fun x => at_st (n := n) (L := L) (c := 8 + (n : Int) + t) (x := x) hl (by omega) (by omega)
    have l0 := at_ld (n := n) (L := L) (c := 0) hl (by decide) (by omega)
    have a0 := fun x => at_ad (n := n) (L := L) (c := 0) (x := x) hl (by decide) (by omega)
    have k0 := fun x y => at_cas (n := n) (L := L) (c := 0) (x := x) (y := y) hl (by decide) (by omega)
    have b0 := fun x y => at_casB (n := n) (L := L) (c := 0) (x := x) (y := y) hl (by decide) (by omega)
    have l1 := at_ld (n := n) (L := L) (c := 1) hl (by decide) (by omega)
    have a1 := fun x => at_ad (n := n) (L := L) (c := 1) (x := x) hl (by decide) (by omega)
    have w2 := fun x => at_sw (n := n) (L := L) (c := 2) (x := x) hl (by decide) (by omega)
    have k2 := fun x y => at_cas (n := n) (L := L) (c := 2) (x := x) (y := y) hl (by decide) (by omega)
    have b2 := fun x y => at_casB (n := n) (L := L) (c := 2) (x := x) (y := y) hl (by decide) (by omega)
    have l3 := at_ld (n := n) (L := L) (c := 3) hl (by decide) (by omega)
    have s3 := fun x => at_st (n := n) (L := L) (c := 3) (x := x) hl (by decide) (by omega)
    simp only [c0, c1, c2, c3, cN, cB] at lN sN sB w2 k2 b2 k0 b0 l0 l1 l3 a0 a1 s3
    show ActIs (pqK n) n p (pqAct n t (mainOf n L) p) _ _
    change pqOk n p at hok
    cases p <;> simp [pqK, pqWait] at hw <;> simp [pqK, pqConc, pqFr, Fr.zero] at hop
    case r0 => by_cases q0 : mainOf n L 0 % 4 = 0 <;> constructor <;> simp [pqK, pqConc, pqFr, pqA, pqAct, pqEnter, pqTry, pqGive, pqLock, pqLeave, pqDecide, pqIn6, pqIn7, pqLast6, pqLast7, pfR10, pfR11, pfR20, pfR50, pfR51, mxEnter, mxTry, mxGive, mxE0, mxE1, mxE2, mxE3, mxE4, mxG0, mxG1, mxG2, mxG3, mxOwn, wrap64, Rn.fresh, Rn.did, Rn.setA, Rn.setB, Rn.note, Rn.goto, Rn.noted, Rn.fin, Rn.wake, Rn.keep, writtenL, normF, behindA, wkOf, fromA, q0, e0, e1, ow, lN, sN, sB, w2, k2, b2, k0, b0, l0, l1, l3, a0, a1, s3] <;> omega
    case u0 => constructor <;> simp [pqK, pqConc, pqFr, pqA, pqAct, pqEnter, pqTry, pqGive, pqLock, pqLeave, pqDecide, pqIn6, pqIn7, pqLast6, pqLast7, pfR10, pfR11, pfR20, pfR50, pfR51, mxEnter, mxTry, mxGive, mxE0, mxE1, mxE2, mxE3, mxE4, mxG0, mxG1, mxG2, mxG3, mxOwn, wrap64, Rn.fresh, Rn.did, Rn.setA, Rn.setB, Rn.note, Rn.goto, Rn.noted, Rn.fin, Rn.wake, Rn.keep, writtenL, normF, behindA, wkOf, fromA, e0, e1, ow, lN, sN, sB, w2, k2, b2, k0, b0, l0, l1, l3, a0, a1, s3] <;> omega
    case q0 a => by_cases q0 : mainOf n L 0 % 4 = 0 <;> constructor <;> simp [pqK, pqConc, pqFr, pqA, pqAct, pqEnter, pqTry, pqGive, pqLock, pqLeave, pqDecide, pqIn6, pqIn7, pqLast6, pqLast7, pfR10, pfR11, pfR20, pfR50, pfR51, mxEnter, mxTry, mxGive, mxE0, mxE1, mxE2, mxE3, mxE4, mxG0, mxG1, mxG2, mxG3, mxOwn, wrap64, Rn.fresh, Rn.did, Rn.setA, Rn.setB, Rn.note, Rn.goto, Rn.noted, Rn.fin, Rn.wake, Rn.keep, writtenL, normF, behindA, wkOf, fromA, q0, e0, e1, ow, lN, sN, sB, w2, k2, b2, k0, b0, l0, l1, l3, a0, a1, s3] <;> omega
    case q1 a => by_cases q0 : mainOf n L 0 = a <;> constructor <;> simp [pqK, pqConc, pqFr, pqA, pqAct, pqEnter, pqTry, pqGive, pqLock, pqLeave, pqDecide, pqIn6, pqIn7, pqLast6, pqLast7, pfR10, pfR11, pfR20, pfR50, pfR51, mxEnter, mxTry, mxGive, mxE0, mxE1, mxE2, mxE3, mxE4, mxG0, mxG1, mxG2, mxG3, mxOwn, wrap64, Rn.fresh, Rn.did, Rn.setA, Rn.setB, Rn.note, Rn.goto, Rn.noted, Rn.fin, Rn.wake, Rn.keep, writtenL, normF, behindA, wkOf, fromA, q0, e0, e1, ow, lN, sN, sB, w2, k2, b2, k0, b0, l0, l1, l3, a0, a1, s3] <;> omega
    case w0 => constructor <;> simp [pqK, pqConc, pqFr, pqA, pqAct, pqEnter, pqTry, pqGive, pqLock, pqLeave, pqDecide, pqIn6, pqIn7, pqLast6, pqLast7, pfR10, pfR11, pfR20, pfR50, pfR51, mxEnter, mxTry, mxGive, mxE0, mxE1, mxE2, mxE3, mxE4, mxG0, mxG1, mxG2, mxG3, mxOwn, wrap64, Rn.fresh, Rn.did, Rn.setA, Rn.setB, Rn.note, Rn.goto, Rn.noted, Rn.fin, Rn.wake, Rn.keep, writtenL, normF, behindA, wkOf, fromA, e0, e1, ow, lN, sN, sB, w2, k2, b2, k0, b0, l0, l1, l3, a0, a1, s3] <;> omega
    case w1 => constructor <;> simp [pqK, pqConc, pqFr, pqA, pqAct, pqEnter, pqTry, pqGive, pqLock, pqLeave, pqDecide, pqIn6, pqIn7, pqLast6, pqLast7, pfR10, pfR11, pfR20, pfR50, pfR51, mxEnter, mxTry, mxGive, mxE0, mxE1, mxE2, mxE3, mxE4, mxG0, mxG1, mxG2, mxG3, mxOwn, wrap64, Rn.fresh, Rn.did, Rn.setA, Rn.setB, Rn.note, Rn.goto, Rn.noted, Rn.fin, Rn.wake, Rn.keep, writtenL, normF, behindA, wkOf, fromA, e0, e1, ow, lN, sN, sB, w2, k2, b2, k0, b0, l0, l1, l3, a0, a1, s3] <;> omega
    case w2 => by_cases q0 : mainOf n L 2 = 0 <;> constructor <;> simp [pqK, pqConc, pqFr, pqA, pqAct, pqEnter, pqTry, pqGive, pqLock, pqLeave, pqDecide, pqIn6, pqIn7, pqLast6, pqLast7, pfR10, pfR11, pfR20, pfR50, pfR51, mxEnter, mxTry, mxGive, mxE0, mxE1, mxE2, mxE3, mxE4, mxG0, mxG1, mxG2, mxG3, mxOwn, wrap64, Rn.fresh, Rn.did, Rn.setA, Rn.setB, Rn.note, Rn.goto, Rn.noted, Rn.fin, Rn.wake, Rn.keep, writtenL, normF, behindA, wkOf, fromA, q0, e0, e1, ow, lN, sN, sB, w2, k2, b2, k0, b0, l0, l1, l3, a0, a1, s3] <;> omega
    case w3 a => obtain ⟨k, rfl⟩ : ∃ k : Nat, a = (k : Int) + 1 := ⟨(a - 1).toNat, (by have := hok a (by simp [pqMk]); omega)⟩; have ho := hok (k + 1) (by simp [pqMk]); have eA := cell_row (n := n) (row := 0) (i := k) h1 h2 (by omega) (by omega); have eT := at_st (n := n) (L := L) (c := 8 + (k : Int)) (x := (t : Int) + 1) hl (by omega) (by omega); have eZ : (8 + (k : Int)).toNat = 8 + k := (by omega); have eK : (k : Int) + 1 - 1 = k := (by omega); simp only [Int.zero_mul, Int.add_zero, Int.one_mul] at eA; rw [eZ] at eT; constructor <;> simp [pqK, pqConc, pqFr, pqA, pqAct, pqEnter, pqTry, pqGive, pqLock, pqLeave, pqDecide, pqIn6, pqIn7, pqLast6, pqLast7, pfR10, pfR11, pfR20, pfR50, pfR51, mxEnter, mxTry, mxGive, mxE0, mxE1, mxE2, mxE3, mxE4, mxG0, mxG1, mxG2, mxG3, mxOwn, wrap64, Rn.fresh, Rn.did, Rn.setA, Rn.setB, Rn.note, Rn.goto, Rn.noted, Rn.fin, Rn.wake, Rn.keep, writtenL, normF, behindA, wkOf, fromA, eA, eT, eK, e0, e1, ow, lN, sN, sB, w2, k2, b2, k0, b0, l0, l1, l3, a0, a1, s3] <;> omega
    case w5 a => constructor <;> simp [pqK, pqConc, pqFr, pqA, pqAct, pqEnter, pqTry, pqGive, pqLock, pqLeave, pqDecide, pqIn6, pqIn7, pqLast6, pqLast7, pfR10, pfR11, pfR20, pfR50, pfR51, mxEnter, mxTry, mxGive, mxE0, mxE1, mxE2, mxE3, mxE4, mxG0, mxG1, mxG2, mxG3, mxOwn, wrap64, Rn.fresh, Rn.did, Rn.setA, Rn.setB, Rn.note, Rn.goto, Rn.noted, Rn.fin, Rn.wake, Rn.keep, writtenL, normF, behindA, wkOf, fromA, e0, e1, ow, lN, sN, sB, w2, k2, b2, k0, b0, l0, l1, l3, a0, a1, s3] <;> omega
    case w6 a b => constructor <;> simp [pqK, pqConc, pqFr, pqA, pqAct, pqEnter, pqTry, pqGive, pqLock, pqLeave, pqDecide, pqIn6, pqIn7, pqLast6, pqLast7, pfR10, pfR11, pfR20, pfR50, pfR51, mxEnter, mxTry, mxGive, mxE0, mxE1, mxE2, mxE3, mxE4, mxG0, mxG1, mxG2, mxG3, mxOwn, wrap64, Rn.fresh, Rn.did, Rn.setA, Rn.setB, Rn.note, Rn.goto, Rn.noted, Rn.fin, Rn.wake, Rn.keep, writtenL, normF, behindA, wkOf, fromA, e0, e1, ow, lN, sN, sB, w2, k2, b2, k0, b0, l0, l1, l3, a0, a1, s3] <;> omega
    case v0 => constructor <;> simp [pqK, pqConc, pqFr, pqA, pqAct, pqEnter, pqTry, pqGive, pqLock, pqLeave, pqDecide, pqIn6, pqIn7, pqLast6, pqLast7, pfR10, pfR11, pfR20, pfR50, pfR51, mxEnter, mxTry, mxGive, mxE0, mxE1, mxE2, mxE3, mxE4, mxG0, mxG1, mxG2, mxG3, mxOwn, wrap64, Rn.fresh, Rn.did, Rn.setA, Rn.setB, Rn.note, Rn.goto, Rn.noted, Rn.fin, Rn.wake, Rn.keep, writtenL, normF, behindA, wkOf, fromA, e0, e1, ow, lN, sN, sB, w2, k2, b2, k0, b0, l0, l1, l3, a0, a1, s3] <;> omega
    case v1 b => constructor <;> simp [pqK, pqConc, pqFr, pqA, pqAct, pqEnter, pqTry, pqGive, pqLock, pqLeave, pqDecide, pqIn6, pqIn7, pqLast6, pqLast7, pfR10, pfR11, pfR20, pfR50, pfR51, mxEnter, mxTry, mxGive, mxE0, mxE1, mxE2, mxE3, mxE4, mxG0, mxG1, mxG2, mxG3, mxOwn, wrap64, Rn.fresh, Rn.did, Rn.setA, Rn.setB, Rn.note, Rn.goto, Rn.noted, Rn.fin, Rn.wake, Rn.keep, writtenL, normF, behindA, wkOf, fromA, e0, e1, ow, lN, sN, sB, w2, k2, b2, k0, b0, l0, l1, l3, a0, a1, s3] <;> omega
    case v2 b => constructor <;> simp [pqK, pqConc, pqFr, pqA, pqAct, pqEnter, pqTry, pqGive, pqLock, pqLeave, pqDecide, pqIn6, pqIn7, pqLast6, pqLast7, pfR10, pfR11, pfR20, pfR50, pfR51, mxEnter, mxTry, mxGive, mxE0, mxE1, mxE2, mxE3, mxE4, mxG0, mxG1, mxG2, mxG3, mxOwn, wrap64, Rn.fresh, Rn.did, Rn.setA, Rn.setB, Rn.note, Rn.goto, Rn.noted, Rn.fin, Rn.wake, Rn.keep, writtenL, normF, behindA, wkOf, fromA, e0, e1, ow, lN, sN, sB, w2, k2, b2, k0, b0, l0, l1, l3, a0, a1, s3] <;> omega
    case v3 b => by_cases q0 : mainOf n L (8 + t) = 0 <;> constructor <;> simp [pqK, pqConc, pqFr, pqA, pqAct, pqEnter, pqTry, pqGive, pqLock, pqLeave, pqDecide, pqIn6, pqIn7, pqLast6, pqLast7, pfR10, pfR11, pfR20, pfR50, pfR51, mxEnter, mxTry, mxGive, mxE0, mxE1, mxE2, mxE3, mxE4, mxG0, mxG1, mxG2, mxG3, mxOwn, wrap64, Rn.fresh, Rn.did, Rn.setA, Rn.setB, Rn.note, Rn.goto, Rn.noted, Rn.fin, Rn.wake, Rn.keep, writtenL, normF, behindA, wkOf, fromA, q0, e0, e1, ow, lN, sN, sB, w2, k2, b2, k0, b0, l0, l1, l3, a0, a1, s3] <;> omega
    case v4 a b => by_cases q0 : mainOf n L 2 = (t : Int) + 1 <;> constructor <;> simp [pqK, pqConc, pqFr, pqA, pqAct, pqEnter, pqTry, pqGive, pqLock, pqLeave, pqDecide, pqIn6, pqIn7, pqLast6, pqLast7, pfR10, pfR11, pfR20, pfR50, pfR51, mxEnter, mxTry, mxGive, mxE0, mxE1, mxE2, mxE3, mxE4, mxG0, mxG1, mxG2, mxG3, mxOwn, wrap64, Rn.fresh, Rn.did, Rn.setA, Rn.setB, Rn.note, Rn.goto, Rn.noted, Rn.fin, Rn.wake, Rn.keep, writtenL, normF, behindA, wkOf, fromA, q0, e0, e1, ow, lN, sN, sB, w2, k2, b2, k0, b0, l0, l1, l3, a0, a1, s3] <;> omega
    case v6 a b => obtain ⟨k, rfl⟩ : ∃ k : Nat, a = (k : Int) + 1 := ⟨(a - 1).toNat, (by have := hok a (by simp [pqMk]); omega)⟩; have ho := hok (k + 1) (by simp [pqMk]); have eA := cell_row (n := n) (row := 1) (i := k) h1 h2 (by omega) (by omega); have eT := at_st (n := n) (L := L) (c := 8 + (n : Int) + (k : Int)) (x := 0) hl (by omega) (by omega); have eZ : (8 + (n : Int) + (k : Int)).toNat = 8 + n + k := (by omega); have eK : (k : Int) + 1 - 1 = k := (by omega); simp only [Int.zero_mul, Int.add_zero, Int.one_mul] at eA; rw [eZ] at eT; constructor <;> simp [pqK, pqConc, pqFr, pqA, pqAct, pqEnter, pqTry, pqGive, pqLock, pqLeave, pqDecide, pqIn6, pqIn7, pqLast6, pqLast7, pfR10, pfR11, pfR20, pfR50, pfR51, mxEnter, mxTry, mxGive, mxE0, mxE1, mxE2, mxE3, mxE4, mxG0, mxG1, mxG2, mxG3, mxOwn, wrap64, Rn.fresh, Rn.did, Rn.setA, Rn.setB, Rn.note, Rn.goto, Rn.noted, Rn.fin, Rn.wake, Rn.keep, writtenL, normF, behindA, wkOf, fromA, eA, eT, eK, e0, e1, ow, lN, sN, sB, w2, k2, b2, k0, b0, l0, l1, l3, a0, a1, s3] <;> omega
    case d0 => constructor <;> simp [pqK, pqConc, pqFr, pqA, pqAct, pqEnter, pqTry, pqGive, pqLock, pqLeave, pqDecide, pqIn6, pqIn7, pqLast6, pqLast7, pfR10, pfR11, pfR20, pfR50, pfR51, mxEnter, mxTry, mxGive, mxE0, mxE1, mxE2, mxE3, mxE4, mxG0, mxG1, mxG2, mxG3, mxOwn, wrap64, Rn.fresh, Rn.did, Rn.setA, Rn.setB, Rn.note, Rn.goto, Rn.noted, Rn.fin, Rn.wake, Rn.keep, writtenL, normF, behindA, wkOf, fromA, e0, e1, ow, lN, sN, sB, w2, k2, b2, k0, b0, l0, l1, l3, a0, a1, s3] <;> omega
    case d1 b => constructor <;> simp [pqK, pqConc, pqFr, pqA, pqAct, pqEnter, pqTry, pqGive, pqLock, pqLeave, pqDecide, pqIn6, pqIn7, pqLast6, pqLast7, pfR10, pfR11, pfR20, pfR50, pfR51, mxEnter, mxTry, mxGive, mxE0, mxE1, mxE2, mxE3, mxE4, mxG0, mxG1, mxG2, mxG3, mxOwn, wrap64, Rn.fresh, Rn.did, Rn.setA, Rn.setB, Rn.note, Rn.goto, Rn.noted, Rn.fin, Rn.wake, Rn.keep, writtenL, normF, behindA, wkOf, fromA, e0, e1, ow, lN, sN, sB, w2, k2, b2, k0, b0, l0, l1, l3, a0, a1, s3] <;> omega
    case d2 b => constructor <;> simp [pqK, pqConc, pqFr, pqA, pqAct, pqEnter, pqTry, pqGive, pqLock, pqLeave, pqDecide, pqIn6, pqIn7, pqLast6, pqLast7, pfR10, pfR11, pfR20, pfR50, pfR51, mxEnter, mxTry, mxGive, mxE0, mxE1, mxE2, mxE3, mxE4, mxG0, mxG1, mxG2, mxG3, mxOwn, wrap64, Rn.fresh, Rn.did, Rn.setA, Rn.setB, Rn.note, Rn.goto, Rn.noted, Rn.fin, Rn.wake, Rn.keep, writtenL, normF, behindA, wkOf, fromA, e0, e1, ow, lN, sN, sB, w2, k2, b2, k0, b0, l0, l1, l3, a0, a1, s3] <;> omega
    case d3 b => by_cases q0 : mainOf n L (8 + t) = 0 <;> constructor <;> simp [pqK, pqConc, pqFr, pqA, pqAct, pqEnter, pqTry, pqGive, pqLock, pqLeave, pqDecide, pqIn6, pqIn7, pqLast6, pqLast7, pfR10, pfR11, pfR20, pfR50, pfR51, mxEnter, mxTry, mxGive, mxE0, mxE1, mxE2, mxE3, mxE4, mxG0, mxG1, mxG2, mxG3, mxOwn, wrap64, Rn.fresh, Rn.did, Rn.setA, Rn.setB, Rn.note, Rn.goto, Rn.noted, Rn.fin, Rn.wake, Rn.keep, writtenL, normF, behindA, wkOf, fromA, q0, e0, e1, ow, lN, sN, sB, w2, k2, b2, k0, b0, l0, l1, l3, a0, a1, s3] <;> omega
    case d4 a b => by_cases q0 : mainOf n L 2 = (t : Int) + 1 <;> constructor <;> simp [pqK, pqConc, pqFr, pqA, pqAct, pqEnter, pqTry, pqGive, pqLock, pqLeave, pqDecide, pqIn6, pqIn7, pqLast6, pqLast7, pfR10, pfR11, pfR20, pfR50, pfR51, mxEnter, mxTry, mxGive, mxE0, mxE1, mxE2, mxE3, mxE4, mxG0, mxG1, mxG2, mxG3, mxOwn, wrap64, Rn.fresh, Rn.did, Rn.setA, Rn.setB, Rn.note, Rn.goto, Rn.noted, Rn.fin, Rn.wake, Rn.keep, writtenL, normF, behindA, wkOf, fromA, q0, e0, e1, ow, lN, sN, sB, w2, k2, b2, k0, b0, l0, l1, l3, a0, a1, s3] <;> omega
    case d6 a b => obtain ⟨k, rfl⟩ : ∃ k : Nat, a = (k : Int) + 1 := ⟨(a - 1).toNat, (by have := hok a (by simp [pqMk]); omega)⟩; have ho := hok (k + 1) (by simp [pqMk]); have eA := cell_row (n := n) (row := 1) (i := k) h1 h2 (by omega) (by omega); have eT := at_st (n := n) (L := L) (c := 8 + (n : Int) + (k : Int)) (x := 0) hl (by omega) (by omega); have eZ : (8 + (n : Int) + (k : Int)).toNat = 8 + n + k := (by omega); have eK : (k : Int) + 1 - 1 = k := (by omega); simp only [Int.zero_mul, Int.add_zero, Int.one_mul] at eA; rw [eZ] at eT; constructor <;> simp [pqK, pqConc, pqFr, pqA, pqAct, pqEnter, pqTry, pqGive, pqLock, pqLeave, pqDecide, pqIn6, pqIn7, pqLast6, pqLast7, pfR10, pfR11, pfR20, pfR50, pfR51, mxEnter, mxTry, mxGive, mxE0, mxE1, mxE2, mxE3, mxE4, mxG0, mxG1, mxG2, mxG3, mxOwn, wrap64, Rn.fresh, Rn.did, Rn.setA, Rn.setB, Rn.note, Rn.goto, Rn.noted, Rn.fin, Rn.wake, Rn.keep, writtenL, normF, behindA, wkOf, fromA, eA, eT, eK, e0, e1, ow, lN, sN, sB, w2, k2, b2, k0, b0, l0, l1, l3, a0, a1, s3] <;> omega
    case y0 => constructor <;> simp [pqK, pqConc, pqFr, pqA, pqAct, pqEnter, pqTry, pqGive, pqLock, pqLeave, pqDecide, pqIn6, pqIn7, pqLast6, pqLast7, pfR10, pfR11, pfR20, pfR50, pfR51, mxEnter, mxTry, mxGive, mxE0, mxE1, mxE2, mxE3, mxE4, mxG0, mxG1, mxG2, mxG3, mxOwn, wrap64, Rn.fresh, Rn.did, Rn.setA, Rn.setB, Rn.note, Rn.goto, Rn.noted, Rn.fin, Rn.wake, Rn.keep, writtenL, normF, behindA, wkOf, fromA, e0, e1, ow, lN, sN, sB, w2, k2, b2, k0, b0, l0, l1, l3, a0, a1, s3] <;> omega
    case y1 => by_cases q0 : mainOf n L 2 = 0 <;> constructor <;> simp [pqK, pqConc, pqFr, pqA, pqAct, pqEnter, pqTry, pqGive, pqLock, pqLeave, pqDecide, pqIn6, pqIn7, pqLast6, pqLast7, pfR10, pfR11, pfR20, pfR50, pfR51, mxEnter, mxTry, mxGive, mxE0, mxE1, mxE2, mxE3, mxE4, mxG0, mxG1, mxG2, mxG3, mxOwn, wrap64, Rn.fresh, Rn.did, Rn.setA, Rn.setB, Rn.note, Rn.goto, Rn.noted, Rn.fin, Rn.wake, Rn.keep, writtenL, normF, behindA, wkOf, fromA, q0, e0, e1, ow, lN, sN, sB, w2, k2, b2, k0, b0, l0, l1, l3, a0, a1, s3] <;> omega
    case y2 => constructor <;> simp [pqK, pqConc, pqFr, pqA, pqAct, pqEnter, pqTry, pqGive, pqLock, pqLeave, pqDecide, pqIn6, pqIn7, pqLast6, pqLast7, pfR10, pfR11, pfR20, pfR50, pfR51, mxEnter, mxTry, mxGive, mxE0, mxE1, mxE2, mxE3, mxE4, mxG0, mxG1, mxG2, mxG3, mxOwn, wrap64, Rn.fresh, Rn.did, Rn.setA, Rn.setB, Rn.note, Rn.goto, Rn.noted, Rn.fin, Rn.wake, Rn.keep, writtenL, normF, behindA, wkOf, fromA, e0, e1, ow, lN, sN, sB, w2, k2, b2, k0, b0, l0, l1, l3, a0, a1, s3] <;> omega
    case y3 a => by_cases q0 : 0 < aheadA a (mainOf n L 1) <;> constructor <;> simp [pqK, pqConc, pqFr, pqA, pqAct, pqEnter, pqTry, pqGive, pqLock, pqLeave, pqDecide, pqIn6, pqIn7, pqLast6, pqLast7, pfR10, pfR11, pfR20, pfR50, pfR51, mxEnter, mxTry, mxGive, mxE0, mxE1, mxE2, mxE3, mxE4, mxG0, mxG1, mxG2, mxG3, mxOwn, wrap64, Rn.fresh, Rn.did, Rn.setA, Rn.setB, Rn.note, Rn.goto, Rn.noted, Rn.fin, Rn.wake, Rn.keep, writtenL, normF, behindA, wkOf, fromA, q0, e0, e1, ow, lN, sN, sB, w2, k2, b2, k0, b0, l0, l1, l3, a0, a1, s3] <;> omega
    case y4 a b => constructor <;> simp [pqK, pqConc, pqFr, pqA, pqAct, pqEnter, pqTry, pqGive, pqLock, pqLeave, pqDecide, pqIn6, pqIn7, pqLast6, pqLast7, pfR10, pfR11, pfR20, pfR50, pfR51, mxEnter, mxTry, mxGive, mxE0, mxE1, mxE2, mxE3, mxE4, mxG0, mxG1, mxG2, mxG3, mxOwn, wrap64, Rn.fresh, Rn.did, Rn.setA, Rn.setB, Rn.note, Rn.goto, Rn.noted, Rn.fin, Rn.wake, Rn.keep, writtenL, normF, behindA, wkOf, fromA, e0, e1, ow, lN, sN, sB, w2, k2, b2, k0, b0, l0, l1, l3, a0, a1, s3] <;> omega
    case y5 a b => constructor <;> simp [pqK, pqConc, pqFr, pqA, pqAct, pqEnter, pqTry, pqGive, pqLock, pqLeave, pqDecide, pqIn6, pqIn7, pqLast6, pqLast7, pfR10, pfR11, pfR20, pfR50, pfR51, mxEnter, mxTry, mxGive, mxE0, mxE1, mxE2, mxE3, mxE4, mxG0, mxG1, mxG2, mxG3, mxOwn, wrap64, Rn.fresh, Rn.did, Rn.setA, Rn.setB, Rn.note, Rn.goto, Rn.noted, Rn.fin, Rn.wake, Rn.keep, writtenL, normF, behindA, wkOf, fromA, e0, e1, ow, lN, sN, sB, w2, k2, b2, k0, b0, l0, l1, l3, a0, a1, s3] <;> omega
    case y8 a b => by_cases q0 : mainOf n L (8 + t) = 0 <;> constructor <;> simp [pqK, pqConc, pqFr, pqA, pqAct, pqEnter, pqTry, pqGive, pqLock, pqLeave, pqDecide, pqIn6, pqIn7, pqLast6, pqLast7, pfR10, pfR11, pfR20, pfR50, pfR51, mxEnter, mxTry, mxGive, mxE0, mxE1, mxE2, mxE3, mxE4, mxG0, mxG1, mxG2, mxG3, mxOwn, wrap64, Rn.fresh, Rn.did, Rn.setA, Rn.setB, Rn.note, Rn.goto, Rn.noted, Rn.fin, Rn.wake, Rn.keep, writtenL, normF, behindA, wkOf, fromA, q0, e0, e1, ow, lN, sN, sB, w2, k2, b2, k0, b0, l0, l1, l3, a0, a1, s3] <;> omega
    case y9 a b => by_cases q0 : mainOf n L 2 = (t : Int) + 1 <;> constructor <;> simp [pqK, pqConc, pqFr, pqA, pqAct, pqEnter, pqTry, pqGive, pqLock, pqLeave, pqDecide, pqIn6, pqIn7, pqLast6, pqLast7, pfR10, pfR11, pfR20, pfR50, pfR51, mxEnter, mxTry, mxGive, mxE0, mxE1, mxE2, mxE3, mxE4, mxG0, mxG1, mxG2, mxG3, mxOwn, wrap64, Rn.fresh, Rn.did, Rn.setA, Rn.setB, Rn.note, Rn.goto, Rn.noted, Rn.fin, Rn.wake, Rn.keep, writtenL, normF, behindA, wkOf, fromA, q0, e0, e1, ow, lN, sN, sB, w2, k2, b2, k0, b0, l0, l1, l3, a0, a1, s3] <;> omega
    case y11 a b => obtain ⟨k, rfl⟩ : ∃ k : Nat, a = (k : Int) + 1 := ⟨(a - 1).toNat, (by have := hok a (by simp [pqMk]); omega)⟩; have ho := hok (k + 1) (by simp [pqMk]); have eA := cell_row (n := n) (row := 1) (i := k) h1 h2 (by omega) (by omega); have eT := at_st (n := n) (L := L) (c := 8 + (n : Int) + (k : Int)) (x := 0) hl (by omega) (by omega); have eZ : (8 + (n : Int) + (k : Int)).toNat = 8 + n + k := (by omega); have eK : (k : Int) + 1 - 1 = k := (by omega); simp only [Int.zero_mul, Int.add_zero, Int.one_mul] at eA; rw [eZ] at eT; constructor <;> simp [pqK, pqConc, pqFr, pqA, pqAct, pqEnter, pqTry, pqGive, pqLock, pqLeave, pqDecide, pqIn6, pqIn7, pqLast6, pqLast7, pfR10, pfR11, pfR20, pfR50, pfR51, mxEnter, mxTry, mxGive, mxE0, mxE1, mxE2, mxE3, mxE4, mxG0, mxG1, mxG2, mxG3, mxOwn, wrap64, Rn.fresh, Rn.did, Rn.setA, Rn.setB, Rn.note, Rn.goto, Rn.noted, Rn.fin, Rn.wake, Rn.keep, writtenL, normF, behindA, wkOf, fromA, eA, eT, eK, e0, e1, ow, lN, sN, sB, w2, k2, b2, k0, b0, l0, l1, l3, a0, a1, s3] <;> omega
    case z0 => constructor <;> simp [pqK, pqConc, pqFr, pqA, pqAct, pqEnter, pqTry, pqGive, pqLock, pqLeave, pqDecide, pqIn6, pqIn7, pqLast6, pqLast7, pfR10, pfR11, pfR20, pfR50, pfR51, mxEnter, mxTry, mxGive, mxE0, mxE1, mxE2, mxE3, mxE4, mxG0, mxG1, mxG2, mxG3, mxOwn, wrap64, Rn.fresh, Rn.did, Rn.setA, Rn.setB, Rn.note, Rn.goto, Rn.noted, Rn.fin, Rn.wake, Rn.keep, writtenL, normF, behindA, wkOf, fromA, e0, e1, ow, lN, sN, sB, w2, k2, b2, k0, b0, l0, l1, l3, a0, a1, s3] <;> omega
    case z1 => by_cases q0 : mainOf n L 2 = 0 <;> constructor <;> simp [pqK, pqConc, pqFr, pqA, pqAct, pqEnter, pqTry, pqGive, pqLock, pqLeave, pqDecide, pqIn6, pqIn7, pqLast6, pqLast7, pfR10, pfR11, pfR20, pfR50, pfR51, mxEnter, mxTry, mxGive, mxE0, mxE1, mxE2, mxE3, mxE4, mxG0, mxG1, mxG2, mxG3, mxOwn, wrap64, Rn.fresh, Rn.did, Rn.setA, Rn.setB, Rn.note, Rn.goto, Rn.noted, Rn.fin, Rn.wake, Rn.keep, writtenL, normF, behindA, wkOf, fromA, q0, e0, e1, ow, lN, sN, sB, w2, k2, b2, k0, b0, l0, l1, l3, a0, a1, s3] <;> omega
    case z2 => constructor <;> simp [pqK, pqConc, pqFr, pqA, pqAct, pqEnter, pqTry, pqGive, pqLock, pqLeave, pqDecide, pqIn6, pqIn7, pqLast6, pqLast7, pfR10, pfR11, pfR20, pfR50, pfR51, mxEnter, mxTry, mxGive, mxE0, mxE1, mxE2, mxE3, mxE4, mxG0, mxG1, mxG2, mxG3, mxOwn, wrap64, Rn.fresh, Rn.did, Rn.setA, Rn.setB, Rn.note, Rn.goto, Rn.noted, Rn.fin, Rn.wake, Rn.keep, writtenL, normF, behindA, wkOf, fromA, e0, e1, ow, lN, sN, sB, w2, k2, b2, k0, b0, l0, l1, l3, a0, a1, s3] <;> omega
    case z3 a => by_cases q0 : 256 < aheadA a (mainOf n L 1) <;> constructor <;> simp [pqK, pqConc, pqFr, pqA, pqAct, pqEnter, pqTry, pqGive, pqLock, pqLeave, pqDecide, pqIn6, pqIn7, pqLast6, pqLast7, pfR10, pfR11, pfR20, pfR50, pfR51, mxEnter, mxTry, mxGive, mxE0, mxE1, mxE2, mxE3, mxE4, mxG0, mxG1, mxG2, mxG3, mxOwn, wrap64, Rn.fresh, Rn.did, Rn.setA, Rn.setB, Rn.note, Rn.goto, Rn.noted, Rn.fin, Rn.wake, Rn.keep, writtenL, normF, behindA, wkOf, fromA, q0, e0, e1, ow, lN, sN, sB, w2, k2, b2, k0, b0, l0, l1, l3, a0, a1, s3] <;> omega
    case z4 a b => constructor <;> simp [pqK, pqConc, pqFr, pqA, pqAct, pqEnter, pqTry, pqGive, pqLock, pqLeave, pqDecide, pqIn6, pqIn7, pqLast6, pqLast7, pfR10, pfR11, pfR20, pfR50, pfR51, mxEnter, mxTry, mxGive, mxE0, mxE1, mxE2, mxE3, mxE4, mxG0, mxG1, mxG2, mxG3, mxOwn, wrap64, Rn.fresh, Rn.did, Rn.setA, Rn.setB, Rn.note, Rn.goto, Rn.noted, Rn.fin, Rn.wake, Rn.keep, writtenL, normF, behindA, wkOf, fromA, e0, e1, ow, lN, sN, sB, w2, k2, b2, k0, b0, l0, l1, l3, a0, a1, s3] <;> omega
    case z5 a b => constructor <;> simp [pqK, pqConc, pqFr, pqA, pqAct, pqEnter, pqTry, pqGive, pqLock, pqLeave, pqDecide, pqIn6, pqIn7, pqLast6, pqLast7, pfR10, pfR11, pfR20, pfR50, pfR51, mxEnter, mxTry, mxGive, mxE0, mxE1, mxE2, mxE3, mxE4, mxG0, mxG1, mxG2, mxG3, mxOwn, wrap64, Rn.fresh, Rn.did, Rn.setA, Rn.setB, Rn.note, Rn.goto, Rn.noted, Rn.fin, Rn.wake, Rn.keep, writtenL, normF, behindA, wkOf, fromA, e0, e1, ow, lN, sN, sB, w2, k2, b2, k0, b0, l0, l1, l3, a0, a1, s3] <;> omega
    case z7 a b => constructor <;> simp [pqK, pqConc, pqFr, pqA, pqAct, pqEnter, pqTry, pqGive, pqLock, pqLeave, pqDecide, pqIn6, pqIn7, pqLast6, pqLast7, pfR10, pfR11, pfR20, pfR50, pfR51, mxEnter, mxTry, mxGive, mxE0, mxE1, mxE2, mxE3, mxE4, mxG0, mxG1, mxG2, mxG3, mxOwn, wrap64, Rn.fresh, Rn.did, Rn.setA, Rn.setB, Rn.note, Rn.goto, Rn.noted, Rn.fin, Rn.wake, Rn.keep, writtenL, normF, behindA, wkOf, fromA, e0, e1, ow, lN, sN, sB, w2, k2, b2, k0, b0, l0, l1, l3, a0, a1, s3] <;> omega
    case z8 a b => by_cases q0 : mainOf n L (8 + t) = 0 <;> constructor <;> simp [pqK, pqConc, pqFr, pqA, pqAct, pqEnter, pqTry, pqGive, pqLock, pqLeave, pqDecide, pqIn6, pqIn7, pqLast6, pqLast7, pfR10, pfR11, pfR20, pfR50, pfR51, mxEnter, mxTry, mxGive, mxE0, mxE1, mxE2, mxE3, mxE4, mxG0, mxG1, mxG2, mxG3, mxOwn, wrap64, Rn.fresh, Rn.did, Rn.setA, Rn.setB, Rn.note, Rn.goto, Rn.noted, Rn.fin, Rn.wake, Rn.keep, writtenL, normF, behindA, wkOf, fromA, q0, e0, e1, ow, lN, sN, sB, w2, k2, b2, k0, b0, l0, l1, l3, a0, a1, s3] <;> omega
    case z9 a b => by_cases q0 : mainOf n L 2 = (t : Int) + 1 <;> constructor <;> simp [pqK, pqConc, pqFr, pqA, pqAct, pqEnter, pqTry, pqGive, pqLock, pqLeave, pqDecide, pqIn6, pqIn7, pqLast6, pqLast7, pfR10, pfR11, pfR20, pfR50, pfR51, mxEnter, mxTry, mxGive, mxE0, mxE1, mxE2, mxE3, mxE4, mxG0, mxG1, mxG2, mxG3, mxOwn, wrap64, Rn.fresh, Rn.did, Rn.setA, Rn.setB, Rn.note, Rn.goto, Rn.noted, Rn.fin, Rn.wake, Rn.keep, writtenL, normF, behindA, wkOf, fromA, q0, e0, e1, ow, lN, sN, sB, w2, k2, b2, k0, b0, l0, l1, l3, a0, a1, s3] <;> omega
    case z11 a b => obtain ⟨k, rfl⟩ : ∃ k : Nat, a = (k : Int) + 1 := ⟨(a - 1).toNat, (by have := hok a (by simp [pqMk]); omega)⟩; have ho := hok (k + 1) (by simp [pqMk]); have eA := cell_row (n := n) (row := 1) (i := k) h1 h2 (by omega) (by omega); have eT := at_st (n := n) (L := L) (c := 8 + (n : Int) + (k : Int)) (x := 0) hl (by omega) (by omega); have eZ : (8 + (n : Int) + (k : Int)).toNat = 8 + n + k := (by omega); have eK : (k : Int) + 1 - 1 = k := (by omega); simp only [Int.zero_mul, Int.add_zero, Int.one_mul] at eA; rw [eZ] at eT; constructor <;> simp [pqK, pqConc, pqFr, pqA, pqAct, pqEnter, pqTry, pqGive, pqLock, pqLeave, pqDecide, pqIn6, pqIn7, pqLast6, pqLast7, pfR10, pfR11, pfR20, pfR50, pfR51, mxEnter, mxTry, mxGive, mxE0, mxE1, mxE2, mxE3, mxE4, mxG0, mxG1, mxG2, mxG3, mxOwn, wrap64, Rn.fresh, Rn.did, Rn.setA, Rn.setB, Rn.note, Rn.goto, Rn.noted, Rn.fin, Rn.wake, Rn.keep, writtenL, normF, behindA, wkOf, fromA, eA, eT, eK, e0, e1, ow, lN, sN, sB, w2, k2, b2, k0, b0, l0, l1, l3, a0, a1, s3] <;> omega
  · obtain ⟨sn, sm, stk, f, acc, notes, L⟩ := s
    simp only at hn hmd htk hf hl
    subst hn hmd htk hf
    have e0 := cell_row (n := n) (row := 0) (i := t) h1 h2 (by omega) (by omega)
    have e1 := cell_row (n := n) (row := 1) (i := t) h1 h2 (by omega) (by omega)
    simp only [Int.zero_mul, Int.add_zero, Int.one_mul] at e0 e1
    cases p <;> simp [pqK, pqWait] at hw
    case r1 a =>
      obtain ⟨rfl, rfl⟩ := hw
      have hd := fun h => wait_done (L := L) (n := n) (mode := sm) (task := t) (st := st) (c := (0 : Int)) (p := fun v => v % 4 != a % 4) h
      have hs := fun h => wait_ds (L := L) (n := n) (mode := sm) (task := t) (st := st) (c := (0 : Int)) (p := fun v => v % 4 != a % 4) h0 h3 h
      skip
      simp [pqK, pqConc, pqFr, pqA, pqAct, pqEnter, pqTry, pqGive, pqLock, pqLeave, pqDecide, pqIn6, pqIn7, pqLast6, pqLast7, pfR10, pfR11, pfR20, pfR50, pfR51, mxEnter, mxTry, mxGive, mxE0, mxE1, mxE2, mxE3, mxE4, mxG0, mxG1, mxG2, mxG3, mxOwn, wrap64, Rn.fresh, Rn.did, Rn.setA, Rn.setB, Rn.note, Rn.goto, Rn.noted, Rn.fin, Rn.wake, Rn.keep, writtenL, normF, behindA, wkOf, fromA, Rn.waited, pqKeep, pqPost, e0, e1]
      generalize waitA L n sm t st (0 : Int) (fun v => v % 4 != a % 4) = R at hd hs ⊢
      obtain ⟨rs, ra, rsn, rd, rw_⟩ := R
      cases rsn <;> cases rd <;> simp [Rn.note, Rn.fin, Rn.goto, Rn.setA, normF, behindA] at hd hs ⊢ <;> simp [hd, Wk.zero]
    case w4 a =>
      obtain ⟨rfl, rfl⟩ := hw
      have hd := fun h => wait_done (L := L) (n := n) (mode := sm) (task := t) (st := st) (c := (8 + (n : Int) + t)) (p := fun v => v == 0) h
      have hs := fun h => wait_ds (L := L) (n := n) (mode := sm) (task := t) (st := st) (c := (8 + (n : Int) + t)) (p := fun v => v == 0) h0 h3 h
      have hc : ((8 + n + t : Nat) : Int) = 8 + (n : Int) + t := by omega
      simp [pqK, pqConc, pqFr, pqA, pqAct, pqEnter, pqTry, pqGive, pqLock, pqLeave, pqDecide, pqIn6, pqIn7, pqLast6, pqLast7, pfR10, pfR11, pfR20, pfR50, pfR51, mxEnter, mxTry, mxGive, mxE0, mxE1, mxE2, mxE3, mxE4, mxG0, mxG1, mxG2, mxG3, mxOwn, wrap64, Rn.fresh, Rn.did, Rn.setA, Rn.setB, Rn.note, Rn.goto, Rn.noted, Rn.fin, Rn.wake, Rn.keep, writtenL, normF, behindA, wkOf, fromA, Rn.waited, pqKeep, pqPost, e0, e1, hc]
      generalize waitA L n sm t st (8 + (n : Int) + t) (fun v => v == 0) = R at hd hs ⊢
      obtain ⟨rs, ra, rsn, rd, rw_⟩ := R
      cases rsn <;> cases rd <;> simp [Rn.note, Rn.fin, Rn.goto, Rn.setA, normF, behindA] at hd hs ⊢ <;> simp [hd, Wk.zero]
    case w7 a b =>
      obtain ⟨rfl, rfl⟩ := hw
      have hd := fun h => wait_done (L := L) (n := n) (mode := sm) (task := t) (st := st) (c := (1 : Int)) (p := fun v => v == a) h
      have hs := fun h => wait_ds (L := L) (n := n) (mode := sm) (task := t) (st := st) (c := (1 : Int)) (p := fun v => v == a) h0 h3 h
      skip
      simp [pqK, pqConc, pqFr, pqA, pqAct, pqEnter, pqTry, pqGive, pqLock, pqLeave, pqDecide, pqIn6, pqIn7, pqLast6, pqLast7, pfR10, pfR11, pfR20, pfR50, pfR51, mxEnter, mxTry, mxGive, mxE0, mxE1, mxE2, mxE3, mxE4, mxG0, mxG1, mxG2, mxG3, mxOwn, wrap64, Rn.fresh, Rn.did, Rn.setA, Rn.setB, Rn.note, Rn.goto, Rn.noted, Rn.fin, Rn.wake, Rn.keep, writtenL, normF, behindA, wkOf, fromA, Rn.waited, pqKeep, pqPost, e0, e1]
      generalize waitA L n sm t st (1 : Int) (fun v => v == a) = R at hd hs ⊢
      obtain ⟨rs, ra, rsn, rd, rw_⟩ := R
      cases rsn <;> cases rd <;> simp [Rn.note, Rn.fin, Rn.goto, Rn.setA, normF, behindA] at hd hs ⊢ <;> simp [hd, Wk.zero]
    case y6 a b =>
      obtain ⟨rfl, rfl⟩ := hw
      have hd := fun h => wait_done (L := L) (n := n) (mode := sm) (task := t) (st := st) (c := (1 : Int)) (p := fun v => v == a) h
      have hs := fun h => wait_ds (L := L) (n := n) (mode := sm) (task := t) (st := st) (c := (1 : Int)) (p := fun v => v == a) h0 h3 h
      skip
      simp [pqK, pqConc, pqFr, pqA, pqAct, pqEnter, pqTry, pqGive, pqLock, pqLeave, pqDecide, pqIn6, pqIn7, pqLast6, pqLast7, pfR10, pfR11, pfR20, pfR50, pfR51, mxEnter, mxTry, mxGive, mxE0, mxE1, mxE2, mxE3, mxE4, mxG0, mxG1, mxG2, mxG3, mxOwn, wrap64, Rn.fresh, Rn.did, Rn.setA, Rn.setB, Rn.note, Rn.goto, Rn.noted, Rn.fin, Rn.wake, Rn.keep, writtenL, normF, behindA, wkOf, fromA, Rn.waited, pqKeep, pqPost, e0, e1]
      generalize waitA L n sm t st (1 : Int) (fun v => v == a) = R at hd hs ⊢
      obtain ⟨rs, ra, rsn, rd, rw_⟩ := R
      cases rsn <;> cases rd <;> simp [Rn.note, Rn.fin, Rn.goto, Rn.setA, normF, behindA] at hd hs ⊢ <;> simp [hd, Wk.zero]
    case z6 a b =>
      obtain ⟨rfl, rfl⟩ := hw
      have hd := fun h => wait_done (L := L) (n := n) (mode := sm) (task := t) (st := st) (c := (1 : Int)) (p := fun v => v == (a - 256) % 4294967296) h
      have hs := fun h => wait_ds (L := L) (n := n) (mode := sm) (task := t) (st := st) (c := (1 : Int)) (p := fun v => v == (a - 256) % 4294967296) h0 h3 h
      skip
      simp [pqK, pqConc, pqFr, pqA, pqAct, pqEnter, pqTry, pqGive, pqLock, pqLeave, pqDecide, pqIn6, pqIn7, pqLast6, pqLast7, pfR10, pfR11, pfR20, pfR50, pfR51, mxEnter, mxTry, mxGive, mxE0, mxE1, mxE2, mxE3, mxE4, mxG0, mxG1, mxG2, mxG3, mxOwn, wrap64, Rn.fresh, Rn.did, Rn.setA, Rn.setB, Rn.note, Rn.goto, Rn.noted, Rn.fin, Rn.wake, Rn.keep, writtenL, normF, behindA, wkOf, fromA, Rn.waited, pqKeep, pqPost, e0, e1]
      generalize waitA L n sm t st (1 : Int) (fun v => v == (a - 256) % 4294967296) = R at hd hs ⊢
      obtain ⟨rs, ra, rsn, rd, rw_⟩ := R
      cases rsn <;> cases rd <;> simp [Rn.note, Rn.fin, Rn.goto, Rn.setA, normF, behindA] at hd hs ⊢ <;> simp [hd, Wk.zero]
    case v5 a b =>
      obtain ⟨rfl, rfl⟩ := hw
      have hd := fun h => wait_done (L := L) (n := n) (mode := sm) (task := t) (st := st) (c := (8 + (t : Int))) (p := fun v => v != 0) h
      have hs := fun h => wait_ds (L := L) (n := n) (mode := sm) (task := t) (st := st) (c := (8 + (t : Int))) (p := fun v => v != 0) h0 h3 h
      have hc : ((8 + t : Nat) : Int) = 8 + (t : Int) := by omega
      simp [pqK, pqConc, pqFr, pqA, pqAct, pqEnter, pqTry, pqGive, pqLock, pqLeave, pqDecide, pqIn6, pqIn7, pqLast6, pqLast7, pfR10, pfR11, pfR20, pfR50, pfR51, mxEnter, mxTry, mxGive, mxE0, mxE1, mxE2, mxE3, mxE4, mxG0, mxG1, mxG2, mxG3, mxOwn, wrap64, Rn.fresh, Rn.did, Rn.setA, Rn.setB, Rn.note, Rn.goto, Rn.noted, Rn.fin, Rn.wake, Rn.keep, writtenL, normF, behindA, wkOf, fromA, Rn.waited, pqKeep, pqPost, e0, e1, hc]
      generalize waitA L n sm t st (8 + (t : Int)) (fun v => v != 0) = R at hd hs ⊢
      obtain ⟨rs, ra, rsn, rd, rw_⟩ := R
      cases rsn <;> cases rd <;> simp [Rn.note, Rn.fin, Rn.goto, Rn.setA, normF, behindA] at hd hs ⊢ <;> simp [hd, Wk.zero]
    case d5 a b =>
      obtain ⟨rfl, rfl⟩ := hw
      have hd := fun h => wait_done (L := L) (n := n) (mode := sm) (task := t) (st := st) (c := (8 + (t : Int))) (p := fun v => v != 0) h
      have hs := fun h => wait_ds (L := L) (n := n) (mode := sm) (task := t) (st := st) (c := (8 + (t : Int))) (p := fun v => v != 0) h0 h3 h
      have hc : ((8 + t : Nat) : Int) = 8 + (t : Int) := by omega
      simp [pqK, pqConc, pqFr, pqA, pqAct, pqEnter, pqTry, pqGive, pqLock, pqLeave, pqDecide, pqIn6, pqIn7, pqLast6, pqLast7, pfR10, pfR11, pfR20, pfR50, pfR51, mxEnter, mxTry, mxGive, mxE0, mxE1, mxE2, mxE3, mxE4, mxG0, mxG1, mxG2, mxG3, mxOwn, wrap64, Rn.fresh, Rn.did, Rn.setA, Rn.setB, Rn.note, Rn.goto, Rn.noted, Rn.fin, Rn.wake, Rn.keep, writtenL, normF, behindA, wkOf, fromA, Rn.waited, pqKeep, pqPost, e0, e1, hc]
      generalize waitA L n sm t st (8 + (t : Int)) (fun v => v != 0) = R at hd hs ⊢
      obtain ⟨rs, ra, rsn, rd, rw_⟩ := R
      cases rsn <;> cases rd <;> simp [Rn.note, Rn.fin, Rn.goto, Rn.setA, normF, behindA] at hd hs ⊢ <;> simp [hd, Wk.zero]
    case y10 a b =>
      obtain ⟨rfl, rfl⟩ := hw
      have hd := fun h => wait_done (L := L) (n := n) (mode := sm) (task := t) (st := st) (c := (8 + (t : Int))) (p := fun v => v != 0) h
      have hs := fun h => wait_ds (L := L) (n := n) (mode := sm) (task := t) (st := st) (c := (8 + (t : Int))) (p := fun v => v != 0) h0 h3 h
      have hc : ((8 + t : Nat) : Int) = 8 + (t : Int) := by omega
      simp [pqK, pqConc, pqFr, pqA, pqAct, pqEnter, pqTry, pqGive, pqLock, pqLeave, pqDecide, pqIn6, pqIn7, pqLast6, pqLast7, pfR10, pfR11, pfR20, pfR50, pfR51, mxEnter, mxTry, mxGive, mxE0, mxE1, mxE2, mxE3, mxE4, mxG0, mxG1, mxG2, mxG3, mxOwn, wrap64, Rn.fresh, Rn.did, Rn.setA, Rn.setB, Rn.note, Rn.goto, Rn.noted, Rn.fin, Rn.wake, Rn.keep, writtenL, normF, behindA, wkOf, fromA, Rn.waited, pqKeep, pqPost, e0, e1, hc]
      generalize waitA L n sm t st (8 + (t : Int)) (fun v => v != 0) = R at hd hs ⊢
      obtain ⟨rs, ra, rsn, rd, rw_⟩ := R
      cases rsn <;> cases rd <;> simp [Rn.note, Rn.fin, Rn.goto, Rn.setA, normF, behindA] at hd hs ⊢ <;> simp [hd, Wk.zero]
    case z10 a b =>
      obtain ⟨rfl, rfl⟩ := hw
      have hd := fun h => wait_done (L := L) (n := n) (mode := sm) (task := t) (st := st) (c := (8 + (t : Int))) (p := fun v => v != 0) h
      have hs := fun h => wait_ds (L := L) (n := n) (mode := sm) (task := t) (st := st) (c := (8 + (t : Int))) (p := fun v => v != 0) h0 h3 h
      have hc : ((8 + t : Nat) : Int) = 8 + (t : Int) := by omega
      simp [pqK, pqConc, pqFr, pqA, pqAct, pqEnter, pqTry, pqGive, pqLock, pqLeave, pqDecide, pqIn6, pqIn7, pqLast6, pqLast7, pfR10, pfR11, pfR20, pfR50, pfR51, mxEnter, mxTry, mxGive, mxE0, mxE1, mxE2, mxE3, mxE4, mxG0, mxG1, mxG2, mxG3, mxOwn, wrap64, Rn.fresh, Rn.did, Rn.setA, Rn.setB, Rn.note, Rn.goto, Rn.noted, Rn.fin, Rn.wake, Rn.keep, writtenL, normF, behindA, wkOf, fromA, Rn.waited, pqKeep, pqPost, e0, e1, hc]
      generalize waitA L n sm t st (8 + (t : Int)) (fun v => v != 0) = R at hd hs ⊢
      obtain ⟨rs, ra, rsn, rd, rw_⟩ := R
      cases rsn <;> cases rd <;> simp [Rn.note, Rn.fin, Rn.goto, Rn.setA, normF, behindA] at hd hs ⊢ <;> simp [hd, Wk.zero]
  · obtain ⟨sn, sm, stk, f, acc, notes, L⟩ := s
    simp only at hn hmd htk hf hl
    subst hn hmd htk hf
    have e0 := cell_row (n := n) (row := 0) (i := t) h1 h2 (by omega) (by omega)
    have e1 := cell_row (n := n) (row := 1) (i := t) h1 h2 (by omega) (by omega)
    simp only [Int.zero_mul, Int.add_zero, Int.one_mul] at e0 e1
    cases p <;> simp [pqK, pqWait] at hw
    case r1 a =>
      obtain ⟨rfl, rfl⟩ := hw
      have hd := wait4_done (L := L) (n := n) (task := t) (c := (0 : Int)) (p := fun v => v % 4 != a % 4) hm2
      have hs := wait4_seen (L := L) (n := n) (task := t) (c := (0 : Int)) (p := fun v => v % 4 != a % 4) hm2
      skip
      simp [pqK, pqConc, pqFr, pqA, pqAct, pqEnter, pqTry, pqGive, pqLock, pqLeave, pqDecide, pqIn6, pqIn7, pqLast6, pqLast7, pfR10, pfR11, pfR20, pfR50, pfR51, mxEnter, mxTry, mxGive, mxE0, mxE1, mxE2, mxE3, mxE4, mxG0, mxG1, mxG2, mxG3, mxOwn, wrap64, Rn.fresh, Rn.did, Rn.setA, Rn.setB, Rn.note, Rn.goto, Rn.noted, Rn.fin, Rn.wake, Rn.keep, writtenL, normF, behindA, wkOf, fromA, Rn.waited, pqKeep, pqPost, e0, e1]
      generalize waitA L n sm t 4 (0 : Int) (fun v => v % 4 != a % 4) = R at hd hs ⊢
      obtain ⟨rs, ra, rsn, rd, rw_⟩ := R
      obtain ⟨rfl, rfl⟩ := hd
      obtain rfl := hs
      simp [Rn.note, Rn.fin, Rn.goto, Rn.setA, normF, behindA, Wk.zero]
    case w4 a =>
      obtain ⟨rfl, rfl⟩ := hw
      have hd := wait4_done (L := L) (n := n) (task := t) (c := (8 + (n : Int) + t)) (p := fun v => v == 0) hm2
      have hs := wait4_seen (L := L) (n := n) (task := t) (c := (8 + (n : Int) + t)) (p := fun v => v == 0) hm2
      have hc : ((8 + n + t : Nat) : Int) = 8 + (n : Int) + t := by omega
      simp [pqK, pqConc, pqFr, pqA, pqAct, pqEnter, pqTry, pqGive, pqLock, pqLeave, pqDecide, pqIn6, pqIn7, pqLast6, pqLast7, pfR10, pfR11, pfR20, pfR50, pfR51, mxEnter, mxTry, mxGive, mxE0, mxE1, mxE2, mxE3, mxE4, mxG0, mxG1, mxG2, mxG3, mxOwn, wrap64, Rn.fresh, Rn.did, Rn.setA, Rn.setB, Rn.note, Rn.goto, Rn.noted, Rn.fin, Rn.wake, Rn.keep, writtenL, normF, behindA, wkOf, fromA, Rn.waited, pqKeep, pqPost, e0, e1, hc]
      generalize waitA L n sm t 4 (8 + (n : Int) + t) (fun v => v == 0) = R at hd hs ⊢
      obtain ⟨rs, ra, rsn, rd, rw_⟩ := R
      obtain ⟨rfl, rfl⟩ := hd
      obtain rfl := hs
      simp [Rn.note, Rn.fin, Rn.goto, Rn.setA, normF, behindA, Wk.zero]
    case w7 a b =>
      obtain ⟨rfl, rfl⟩ := hw
      have hd := wait4_done (L := L) (n := n) (task := t) (c := (1 : Int)) (p := fun v => v == a) hm2
      have hs := wait4_seen (L := L) (n := n) (task := t) (c := (1 : Int)) (p := fun v => v == a) hm2
      skip
      simp [pqK, pqConc, pqFr, pqA, pqAct, pqEnter, pqTry, pqGive, pqLock, pqLeave, pqDecide, pqIn6, pqIn7, pqLast6, pqLast7, pfR10, pfR11, pfR20, pfR50, pfR51, mxEnter, mxTry, mxGive, mxE0, mxE1, mxE2, mxE3, mxE4, mxG0, mxG1, mxG2, mxG3, mxOwn, wrap64, Rn.fresh, Rn.did, Rn.setA, Rn.setB, Rn.note, Rn.goto, Rn.noted, Rn.fin, Rn.wake, Rn.keep, writtenL, normF, behindA, wkOf, fromA, Rn.waited, pqKeep, pqPost, e0, e1]
      generalize waitA L n sm t 4 (1 : Int) (fun v => v == a) = R at hd hs ⊢
      obtain ⟨rs, ra, rsn, rd, rw_⟩ := R
      obtain ⟨rfl, rfl⟩ := hd
      obtain rfl := hs
      simp [Rn.note, Rn.fin, Rn.goto, Rn.setA, normF, behindA, Wk.zero]
    case y6 a b =>
      obtain ⟨rfl, rfl⟩ := hw
      have hd := wait4_done (L := L) (n := n) (task := t) (c := (1 : Int)) (p := fun v => v == a) hm2
      have hs := wait4_seen (L := L) (n := n) (task := t) (c := (1 : Int)) (p := fun v => v == a) hm2
      skip
      simp [pqK, pqConc, pqFr, pqA, pqAct, pqEnter, pqTry, pqGive, pqLock, pqLeave, pqDecide, pqIn6, pqIn7, pqLast6, pqLast7, pfR10, pfR11, pfR20, pfR50, pfR51, mxEnter, mxTry, mxGive, mxE0, mxE1, mxE2, mxE3, mxE4, mxG0, mxG1, mxG2, mxG3, mxOwn, wrap64, Rn.fresh, Rn.did, Rn.setA, Rn.setB, Rn.note, Rn.goto, Rn.noted, Rn.fin, Rn.wake, Rn.keep, writtenL, normF, behindA, wkOf, fromA, Rn.waited, pqKeep, pqPost, e0, e1]
      generalize waitA L n sm t 4 (1 : Int) (fun v => v == a) = R at hd hs ⊢
      obtain ⟨rs, ra, rsn, rd, rw_⟩ := R
      obtain ⟨rfl, rfl⟩ := hd
      obtain rfl := hs
      simp [Rn.note, Rn.fin, Rn.goto, Rn.setA, normF, behindA, Wk.zero]
    case z6 a b =>
      obtain ⟨rfl, rfl⟩ := hw
      have hd := wait4_done (L := L) (n := n) (task := t) (c := (1 : Int)) (p := fun v => v == (a - 256) % 4294967296) hm2
      have hs := wait4_seen (L := L) (n := n) (task := t) (c := (1 : Int)) (p := fun v => v == (a - 256) % 4294967296) hm2
      skip
      simp [pqK, pqConc, pqFr, pqA, pqAct, pqEnter, pqTry, pqGive, pqLock, pqLeave, pqDecide, pqIn6, pqIn7, pqLast6, pqLast7, pfR10, pfR11, pfR20, pfR50, pfR51, mxEnter, mxTry, mxGive, mxE0, mxE1, mxE2, mxE3, mxE4, mxG0, mxG1, mxG2, mxG3, mxOwn, wrap64, Rn.fresh, Rn.did, Rn.setA, Rn.setB, Rn.note, Rn.goto, Rn.noted, Rn.fin, Rn.wake, Rn.keep, writtenL, normF, behindA, wkOf, fromA, Rn.waited, pqKeep, pqPost, e0, e1]
      generalize waitA L n sm t 4 (1 : Int) (fun v => v == (a - 256) % 4294967296) = R at hd hs ⊢
      obtain ⟨rs, ra, rsn, rd, rw_⟩ := R
      obtain ⟨rfl, rfl⟩ := hd
      obtain rfl := hs
      simp [Rn.note, Rn.fin, Rn.goto, Rn.setA, normF, behindA, Wk.zero]
    case v5 a b =>
      obtain ⟨rfl, rfl⟩ := hw
      have hd := wait4_done (L := L) (n := n) (task := t) (c := (8 + (t : Int))) (p := fun v => v != 0) hm2
      have hs := wait4_seen (L := L) (n := n) (task := t) (c := (8 + (t : Int))) (p := fun v => v != 0) hm2
      have hc : ((8 + t : Nat) : Int) = 8 + (t : Int) := by omega
      simp [pqK, pqConc, pqFr, pqA, pqAct, pqEnter, pqTry, pqGive, pqLock, pqLeave, pqDecide, pqIn6, pqIn7, pqLast6, pqLast7, pfR10, pfR11, pfR20, pfR50, pfR51, mxEnter, mxTry, mxGive, mxE0, mxE1, mxE2, mxE3, mxE4, mxG0, mxG1, mxG2, mxG3, mxOwn, wrap64, Rn.fresh, Rn.did, Rn.setA, Rn.setB, Rn.note, Rn.goto, Rn.noted, Rn.fin, Rn.wake, Rn.keep, writtenL, normF, behindA, wkOf, fromA, Rn.waited, pqKeep, pqPost, e0, e1, hc]
      generalize waitA L n sm t 4 (8 + (t : Int)) (fun v => v != 0) = R at hd hs ⊢
      obtain ⟨rs, ra, rsn, rd, rw_⟩ := R
      obtain ⟨rfl, rfl⟩ := hd
      obtain rfl := hs
      simp [Rn.note, Rn.fin, Rn.goto, Rn.setA, normF, behindA, Wk.zero]
    case d5 a b =>
      obtain ⟨rfl, rfl⟩ := hw
      have hd := wait4_done (L := L) (n := n) (task := t) (c := (8 + (t : Int))) (p := fun v => v != 0) hm2
      have hs := wait4_seen (L := L) (n := n) (task := t) (c := (8 + (t : Int))) (p := fun v => v != 0) hm2
      have hc : ((8 + t : Nat) : Int) = 8 + (t : Int) := by omega
      simp [pqK, pqConc, pqFr, pqA, pqAct, pqEnter, pqTry, pqGive, pqLock, pqLeave, pqDecide, pqIn6, pqIn7, pqLast6, pqLast7, pfR10, pfR11, pfR20, pfR50, pfR51, mxEnter, mxTry, mxGive, mxE0, mxE1, mxE2, mxE3, mxE4, mxG0, mxG1, mxG2, mxG3, mxOwn, wrap64, Rn.fresh, Rn.did, Rn.setA, Rn.setB, Rn.note, Rn.goto, Rn.noted, Rn.fin, Rn.wake, Rn.keep, writtenL, normF, behindA, wkOf, fromA, Rn.waited, pqKeep, pqPost, e0, e1, hc]
      generalize waitA L n sm t 4 (8 + (t : Int)) (fun v => v != 0) = R at hd hs ⊢
      obtain ⟨rs, ra, rsn, rd, rw_⟩ := R
      obtain ⟨rfl, rfl⟩ := hd
      obtain rfl := hs
      simp [Rn.note, Rn.fin, Rn.goto, Rn.setA, normF, behindA, Wk.zero]
    case y10 a b =>
      obtain ⟨rfl, rfl⟩ := hw
      have hd := wait4_done (L := L) (n := n) (task := t) (c := (8 + (t : Int))) (p := fun v => v != 0) hm2
      have hs := wait4_seen (L := L) (n := n) (task := t) (c := (8 + (t : Int))) (p := fun v => v != 0) hm2
      have hc : ((8 + t : Nat) : Int) = 8 + (t : Int) := by omega
      simp [pqK, pqConc, pqFr, pqA, pqAct, pqEnter, pqTry, pqGive, pqLock, pqLeave, pqDecide, pqIn6, pqIn7, pqLast6, pqLast7, pfR10, pfR11, pfR20, pfR50, pfR51, mxEnter, mxTry, mxGive, mxE0, mxE1, mxE2, mxE3, mxE4, mxG0, mxG1, mxG2, mxG3, mxOwn, wrap64, Rn.fresh, Rn.did, Rn.setA, Rn.setB, Rn.note, Rn.goto, Rn.noted, Rn.fin, Rn.wake, Rn.keep, writtenL, normF, behindA, wkOf, fromA, Rn.waited, pqKeep, pqPost, e0, e1, hc]
      generalize waitA L n sm t 4 (8 + (t : Int)) (fun v => v != 0) = R at hd hs ⊢
      obtain ⟨rs, ra, rsn, rd, rw_⟩ := R
      obtain ⟨rfl, rfl⟩ := hd
      obtain rfl := hs
      simp [Rn.note, Rn.fin, Rn.goto, Rn.setA, normF, behindA, Wk.zero]
    case z10 a b =>
      obtain ⟨rfl, rfl⟩ := hw
      have hd := wait4_done (L := L) (n := n) (task := t) (c := (8 + (t : Int))) (p := fun v => v != 0) hm2
      have hs := wait4_seen (L := L) (n := n) (task := t) (c := (8 + (t : Int))) (p := fun v => v != 0) hm2
      have hc : ((8 + t : Nat) : Int) = 8 + (t : Int) := by omega
      simp [pqK, pqConc, pqFr, pqA, pqAct, pqEnter, pqTry, pqGive, pqLock, pqLeave, pqDecide, pqIn6, pqIn7, pqLast6, pqLast7, pfR10, pfR11, pfR20, pfR50, pfR51, mxEnter, mxTry, mxGive, mxE0, mxE1, mxE2, mxE3, mxE4, mxG0, mxG1, mxG2, mxG3, mxOwn, wrap64, Rn.fresh, Rn.did, Rn.setA, Rn.setB, Rn.note, Rn.goto, Rn.noted, Rn.fin, Rn.wake, Rn.keep, writtenL, normF, behindA, wkOf, fromA, Rn.waited, pqKeep, pqPost, e0, e1, hc]
      generalize waitA L n sm t 4 (8 + (t : Int)) (fun v => v != 0) = R at hd hs ⊢
      obtain ⟨rs, ra, rsn, rd, rw_⟩ := R
      obtain ⟨rfl, rfl⟩ := hd
      obtain rfl := hs
      simp [Rn.note, Rn.fin, Rn.goto, Rn.setA, normF, behindA, Wk.zero]

end Go.Proofs.Ytbcppehpfckgoaa.Z

/- The phase-fair queue lock: what holds, and that all come to rest. No program is in sight. Written by genpqlive.py. -/
set_option linter.unusedVariables false
set_option linter.unusedSimpArgs false
namespace Go.Proofs.Ytbcppehpfckgoaa.Z
open Go.RowKit

theorem ws_map {P Q : Type} (f : Q → Int) (g : P → Q) : ∀ l, ws f (l.map g) = ws (fun x => f (g x)) l
  | [] => rfl
  | x :: l => by simp only [List.map_cons, ws, ws_map f g l]
theorem getD_map_ {P Q : Type} {g : P → Q} {l : List P} {i : Nat} {d : P} {e : Q} (h : i < l.length) : (l.map g).getD i e = g (l.getD i d) := by
  simp [List.getD, h]
theorem written_at {m : Nat → Int} {c : Nat} {v : Int} : written m (some (c, v)) c = v := by simp [written, upd]
theorem written_far {m : Nat → Int} {c j : Nat} {v : Int} (h : j ≠ c) : written m (some (c, v)) j = m j := by simp [written, upd, h]
theorem same_of {n tc c : Nat} {m : Nat → Int} {v : Int} (h1 : c < 8) (h2 : c ≠ tc) (ht : tc < 8) : SameQ n tc m (written m (some (c, v))) :=
  ⟨written_far (Ne.symm h2), fun j _ => ⟨written_far (by omega), written_far (by omega)⟩⟩
theorem QI.none_of {P : Type} {n tc : Nat} {mk : P → Mk} {d : P} {ps : List P} {m : Nat → Int} (H : QI n tc mk d ps m) (hz : m tc = 0) : ∀ j, j < n → (mk (ps.getD j d)).turn = false := by
  obtain ⟨Q, H⟩ := H
  exact H.none_of hz
theorem QI.first {P : Type} {n tc : Nat} {mk : P → Mk} {d : P} {ps : List P} {m : Nat → Int} {i : Nat} (H : QI n tc mk d ps m) (hi : i < n) (h : mk (ps.getD i d) = .e4) (hb : m (8 + n + i) = 0) : ∀ j, j < n → (mk (ps.getD j d)).turn = false := by
  obtain ⟨Q, H⟩ := H
  exact (H.first_of hi h (by rw [bl_at hi]; omega)).2
theorem pq_hd : ∀ p, (pqAttr p).hd = (pqMk p).turn := by
  intro p
  cases p <;> first | rfl | skip
  rename_i h
  by_cases e : h = 2 <;> simp [pqAttr, pqMk, e, Mk.turn]
def pqFine : PqP → Prop
  | .idle h => h = 0 ∨ h = 1 ∨ h = 2
  | .q1 a => a % 4 = 0
  | _ => True
def pqI (n b : Nat) (ps : List PqP) (m : Nat → Int) : Prop := 1 ≤ n ∧ n ≤ 64 ∧ ps.length = n ∧ (∃ Rin Rout, PhIs (ps.map pqAttr) (m 0) (m 1) (m 3) Rin Rout) ∧ QI n 2 pqMk (.idle 0) ps m ∧ ∀ p, p ∈ ps → pqFine p
theorem pq_mem {ps : List PqP} {i : Nat} {q : PqP} (h : ∀ p, p ∈ ps → pqFine p) (hq : pqFine q) : ∀ p, p ∈ ps.set i q → pqFine p := fun p hp => by
  rcases List.mem_or_eq_of_mem_set hp with h1 | h1
  · exact h p h1
  · rw [h1]; exact hq
theorem pq_at {ps : List PqP} {i n : Nat} (h : ∀ p, p ∈ ps → pqFine p) (hl : ps.length = n) (hi : i < n) : pqFine (ps.getD i (.idle 0)) := h _ (by simp [List.getD, hl, hi])
theorem pq_nobody {ps : List PqP} {n : Nat} (hl : ps.length = n) (h : ∀ j, j < n → (pqMk (ps.getD j (.idle 0))).turn = false) : ws wHd (ps.map pqAttr) = 0 := by
  rw [ws_map]
  exact ws_all0 (d := PqP.idle 0) hl (fun i hi => by unfold wHd; rw [pq_hd, h i hi]; rfl)


theorem pq_kinds {n t c : Nat} {p : PqP} {pr : Int → Bool} (h : pqWait n t p = some (c, pr)) : (c = 0 ∧ ∃ a, p = .r1 a ∧ pr = (fun v => v % 4 != a % 4)) ∨ (c = 1 ∧ (pqAttr p).hd = true) ∨ (c = 8 + t ∧ pr = (fun v => v != 0)) ∨ (c = 8 + n + t ∧ pr = (fun v => v == 0)) := by
  cases p <;> simp [pqWait] at h <;> obtain ⟨rfl, rfl⟩ := h <;> simp [pqAttr]
set_option maxHeartbeats 6400000 in
theorem pq_kept (n : Nat) : (pqK n).Keeps n (pqI n) := by
  refine ⟨fun b ps m H => H, fun b ps m i H hi hl => ?_, fun b ps m i op h H hi hl hp hm => ?_, fun b ps m i H hi hl hw hop => ?_, fun b ps m i c pr H hi hl hw hpr => ?_, fun b ps m i j c pr H hi hj hij hl hw hop hwj hpr => ?_⟩
  · intro a ha
    exact H.2.2.2.2.1.ok3 hi rfl ha
  · obtain ⟨h1, h2, _, ⟨Rin, Rout, HP⟩, HQ, h5⟩ := H
    have hok := pq_at h5 hl hi
    change ps.getD i (.idle 0) = .idle h at hp
    rw [hp] at hok
    have hok : h = 0 ∨ h = 1 ∨ h = 2 := hok
    show pqI n b (ps.set i (pqStart op h)) m
    have key : pqAttr (pqStart op h) = pqAttr (.idle h) ∧ pqFine (pqStart op h) := by
      rcases may_ops hm with ⟨rfl, rfl | rfl | rfl | rfl⟩ | ⟨rfl, rfl | rfl⟩ | ⟨g1, g2, rfl | rfl⟩ <;> first | exact ⟨rfl, trivial⟩ | (obtain rfl : h = 2 := by omega); exact ⟨rfl, trivial⟩
    refine ⟨h1, h2, by simpa using hl, ⟨Rin, Rout, ?_⟩, ?_, pq_mem h5 key.2⟩
    · rw [List.map_set, key.1, set_self (by simpa using (show i < ps.length by omega)) (d := Ph.none) (by rw [getD_map_ (d := PqP.idle 0) (by omega), hp])]
      exact HP
    · rcases may_ops hm with ⟨rfl, hh⟩ | ⟨rfl, hh⟩ | ⟨g1, g2, hh⟩
      · refine HQ.outs hl hi hp rfl ?_ ⟨rfl, fun j hj hji => ⟨rfl, rfl⟩⟩ ?_ <;> rcases hh with rfl | rfl | rfl | rfl <;> simp [pqStart, pqMk, Mk.inq]
      · refine HQ.outs hl hi hp rfl ?_ ⟨rfl, fun j hj hji => ⟨rfl, rfl⟩⟩ ?_ <;> rcases hh with rfl | rfl <;> simp [pqStart, pqMk, Mk.inq]
      · obtain rfl : h = 2 := by omega
        refine HQ.heads hl hi hp (Or.inl rfl) (Or.inl ?_) SameQ.refl
        rcases hh with rfl | rfl <;> rfl
  · obtain ⟨h1, h2, _, ⟨Rin, Rout, HP⟩, HQ, h5⟩ := H
    have hok := pq_at h5 hl hi
    change pqWait n i (ps.getD i (.idle 0)) = none at hw
    change (pqConc (ps.getD i (.idle 0))).1.op ≠ 0 at hop
    change pqI n b (ps.set i (pqAct n i m (ps.getD i (.idle 0))).1) (written m (pqAct n i m (ps.getD i (.idle 0))).2.1)
    have hil : i < (ps.map pqAttr).length := by simpa using (show i < ps.length by omega)
    have hq := getD_map_ (g := pqAttr) (d := PqP.idle 0) (e := Ph.none) (l := ps) (i := i) (by omega)
    obtain ⟨p, hp⟩ : ∃ p, ps.getD i (.idle 0) = p := ⟨_, rfl⟩
    rw [hp] at hok hq hw hop ⊢
    have fin : ∀ q w, (∃ Rin Rout, PhIs ((ps.map pqAttr).set i (pqAttr q)) (written m w 0) (written m w 1) (written m w 3) Rin Rout) → QI n 2 pqMk (.idle 0) (ps.set i q) (written m w) → pqFine q → pqI n b (ps.set i q) (written m w) :=
      fun q w g1 g2 g3 => ⟨h1, h2, by simpa using hl, by rw [List.map_set]; exact g1, g2, pq_mem h5 g3⟩
    have pw0 : ∀ q v R R', PhIs ((ps.map pqAttr).set i (pqAttr q)) v (m 1) (m 3) R R' → ∃ Rin Rout, PhIs ((ps.map pqAttr).set i (pqAttr q)) (written m (some (0, v)) 0) (written m (some (0, v)) 1) (written m (some (0, v)) 3) Rin Rout := fun q v R R' h => ⟨R, R', h⟩
    have pw1 : ∀ q v R R', PhIs ((ps.map pqAttr).set i (pqAttr q)) (m 0) v (m 3) R R' → ∃ Rin Rout, PhIs ((ps.map pqAttr).set i (pqAttr q)) (written m (some (1, v)) 0) (written m (some (1, v)) 1) (written m (some (1, v)) 3) Rin Rout := fun q v R R' h => ⟨R, R', h⟩
    have pw3 : ∀ q v R R', PhIs ((ps.map pqAttr).set i (pqAttr q)) (m 0) (m 1) v R R' → ∃ Rin Rout, PhIs ((ps.map pqAttr).set i (pqAttr q)) (written m (some (3, v)) 0) (written m (some (3, v)) 1) (written m (some (3, v)) 3) Rin Rout := fun q v R R' h => ⟨R, R', h⟩
    have pwx : ∀ q c v, 0 ≠ c → 1 ≠ c → 3 ≠ c → ∀ R R', PhIs ((ps.map pqAttr).set i (pqAttr q)) (m 0) (m 1) (m 3) R R' → ∃ Rin Rout, PhIs ((ps.map pqAttr).set i (pqAttr q)) (written m (some (c, v)) 0) (written m (some (c, v)) 1) (written m (some (c, v)) 3) Rin Rout := fun q c v g0 g1 g3 R R' h => ⟨R, R', by rw [written_far g0, written_far g1, written_far g3]; exact h⟩
    have pself : ∀ q, pqAttr q = pqAttr p → PhIs ((ps.map pqAttr).set i (pqAttr q)) (m 0) (m 1) (m 3) Rin Rout := fun q g => by rw [g, set_self hil hq]; exact HP
    have psame : ∀ q, pqAttr q = pqAttr p → ∃ Rin Rout, PhIs ((ps.map pqAttr).set i (pqAttr q)) (written m none 0) (written m none 1) (written m none 3) Rin Rout := fun q g => ⟨_, _, pself q g⟩
    have psx : ∀ q c v, pqAttr q = pqAttr p → 0 ≠ c → 1 ≠ c → 3 ≠ c → ∃ Rin Rout, PhIs ((ps.map pqAttr).set i (pqAttr q)) (written m (some (c, v)) 0) (written m (some (c, v)) 1) (written m (some (c, v)) 3) Rin Rout := fun q c v g g0 g1 g3 => pwx q c v g0 g1 g3 _ _ (pself q g)
    have sameq : ∀ w : Option (Nat × Int), (∀ x, w = some x → x.1 = 0 ∨ x.1 = 1 ∨ x.1 = 3) → SameQ n 2 m (written m w) := fun w g => by
      cases w with
      | none => exact SameQ.refl
      | some x => have := g x rfl; obtain ⟨c', v'⟩ := x; exact same_of (by simp only at this; omega) (by simp only at this; omega) (by decide)
    have celn : ∀ x : Nat × Int, none = some x → x.1 = 0 ∨ x.1 = 1 ∨ x.1 = 3 := fun x h => by cases h
    have cel0 : ∀ {v : Int}, ∀ x : Nat × Int, some (0, v) = some x → x.1 = 0 ∨ x.1 = 1 ∨ x.1 = 3 := fun x h => by cases h; exact Or.inl rfl
    have cel1 : ∀ {v : Int}, ∀ x : Nat × Int, some (1, v) = some x → x.1 = 0 ∨ x.1 = 1 ∨ x.1 = 3 := fun x h => by cases h; exact Or.inr (Or.inl rfl)
    have cel3 : ∀ {v : Int}, ∀ x : Nat × Int, some (3, v) = some x → x.1 = 0 ∨ x.1 = 1 ∨ x.1 = 3 := fun x h => by cases h; exact Or.inr (Or.inr rfl)
    have qhd : ∀ q w, (pqMk p).turn = true → pqMk q = .hd → (∀ x, w = some x → x.1 = 0 ∨ x.1 = 1 ∨ x.1 = 3) → QI n 2 pqMk (.idle 0) (ps.set i q) (written m w) := fun q w g1 g2 g3 => HQ.heads hl hi hp (Or.inl g1) (Or.inl g2) (sameq w g3)
    have qout : ∀ q w, (pqMk p).inq = false → pqMk q = .out → (∀ x, w = some x → x.1 = 0 ∨ x.1 = 1 ∨ x.1 = 3) → QI n 2 pqMk (.idle 0) (ps.set i q) (written m w) := fun q w g1 g2 g3 => HQ.outs hl hi hp g1 (by rw [g2]; rfl) ⟨(sameq w g3).1, fun j hj _ => (sameq w g3).2 j hj⟩ (by rw [g2]; exact ⟨(fun h => by rcases h with h | h <;> cases h), (fun h => by cases h)⟩)
    cases p <;> simp [pqWait] at hw <;> simp [pqConc, pqFr, Fr.zero] at hop <;> simp only [pqFine] at hok <;> simp only [pqAct]
    case r0 =>
      split
      · exact fin _ _ (pw0 _ _ _ _ (HP.reads hil hq (by assumption))) (qout _ _ rfl rfl cel0) (Or.inr (Or.inl rfl))
      · exact fin _ _ (pw0 _ _ _ _ (HP.waits hil hq (by assumption))) (qout _ _ rfl rfl cel0) trivial
    case u0 =>
      exact fin _ _ (pw1 _ _ _ _ (HP.goes hil hq)) (qout _ _ rfl rfl cel1) (Or.inl rfl)
    case q0 a =>
      split
      · exact fin _ none (psame _ rfl) (qout _ _ rfl rfl celn) (by assumption)
      · exact fin _ none (psame _ rfl) (qout _ _ rfl rfl celn) (Or.inl rfl)
    case q1 a =>
      split
      · rename_i h0
        exact fin _ _ (pw0 _ _ _ _ (by rw [← h0]; exact HP.reads hil hq (by rw [h0]; exact hok))) (qout _ _ rfl rfl cel0) (Or.inr (Or.inl rfl))
      · exact fin _ none (psame _ rfl) (qout _ _ rfl rfl celn) trivial
    case w0 =>
      exact fin _ _ (psx _ _ _ rfl (by omega) (by omega) (by omega)) (HQ.outs hl hi hp rfl rfl ⟨written_far (by omega), fun j hj hji => ⟨written_far (by omega), written_far (by omega)⟩⟩ ⟨(fun _ => written_at), (fun h => by cases h)⟩) trivial
    case w1 =>
      have hpre := (HQ.pre hi hp).1 (Or.inl rfl)
      exact fin _ _ (psx _ _ _ rfl (by omega) (by omega) (by omega)) (HQ.outs hl hi hp rfl rfl ⟨written_far (by omega), fun j hj hji => ⟨written_far (by omega), written_far (by omega)⟩⟩ ⟨(fun _ => by rw [written_far (by omega)]; exact hpre), (fun _ => written_at)⟩) trivial
    case w2 =>
      split
      · rename_i hz
        exact fin _ _ (pwx _ _ _ (by omega) (by omega) (by omega) _ _ (HP.take hil hq (pq_nobody hl (HQ.none_of hz)))) (HQ.comes hl hi hp (Or.inr rfl) hz rfl written_at (fun j hj => ⟨written_far (by omega), written_far (by omega)⟩)) trivial
      · rename_i hz
        exact fin _ _ (psx _ _ _ rfl (by omega) (by omega) (by omega)) (HQ.behind hl hi hp rfl hz rfl written_at (fun j hj => ⟨written_far (by omega), written_far (by omega)⟩)) trivial
    case w3 a =>
      have ho := HQ.ok3 hi hp (a := a) (Or.inl rfl)
      refine fin _ _ (psx _ _ _ rfl (by omega) (by omega) (by omega)) (HQ.link hl hi hp (a := a) rfl rfl (written_far (by omega)) (fun j hj => ⟨fun e => ?_, fun e => written_far (by omega), written_far (by omega)⟩)) trivial
      rw [show 8 + j = 8 + (a - 1).toNat by omega, written_at]
    case w5 a =>
      exact fin _ none ⟨_, _, HP.phase hil hq⟩ (qhd _ none rfl rfl celn) trivial
    case w6 a b =>
      exact fin _ _ (pw0 _ _ _ _ (HP.present hil hq)) (qhd _ _ rfl rfl cel0) trivial
    case v0 =>
      exact fin _ none ⟨_, _, HP.phaseW hil hq⟩ (qhd _ none rfl rfl celn) trivial
    case v1 b =>
      exact fin _ _ (pw0 _ _ _ _ (HP.leave hil hq)) (qhd _ _ rfl rfl cel0) trivial
    case v2 b =>
      exact fin _ _ (pw3 _ _ _ _ (HP.store hil hq)) (qhd _ _ rfl rfl cel3) trivial
    case v3 b =>
      split
      · exact fin _ none (psame _ rfl) (HQ.heads hl hi hp (Or.inl rfl) (Or.inr (Or.inl rfl)) SameQ.refl) trivial
      · rename_i hz
        exact fin _ none (psame _ rfl) (HQ.heads hl hi hp (Or.inl rfl) (Or.inr (Or.inr (Or.inr ⟨_, rfl, rfl, hz⟩))) SameQ.refl) trivial
    case v4 a b =>
      split
      · rename_i hz
        exact fin _ _ (pwx _ _ _ (by omega) (by omega) (by omega) _ _ (HP.pass hil hq)) (HQ.leaves hl hi hp rfl hz rfl written_at (fun j hj => ⟨written_far (by omega), written_far (by omega)⟩)) (Or.inl rfl)
      · rename_i hz
        exact fin _ none (psame _ rfl) (HQ.heads hl hi hp (Or.inl rfl) (Or.inr (Or.inr (Or.inl ⟨rfl, rfl, hz⟩))) SameQ.refl) trivial
    case v6 a b =>
      have ho := HQ.ok3 hi hp (a := a) (Or.inr rfl)
      refine fin _ _ (pwx _ _ _ (by omega) (by omega) (by omega) _ _ (HP.pass hil hq)) (HQ.gives hl hi hp (a := a) rfl rfl (written_far (by omega)) (fun j hj => ⟨fun e => ?_, fun e => written_far (by omega), written_far (by omega)⟩)) (Or.inl rfl)
      rw [show 8 + n + j = 8 + n + (a - 1).toNat by omega, written_at]
    case d0 =>
      exact fin _ none ⟨_, _, HP.phaseW hil hq⟩ (qhd _ none rfl rfl celn) trivial
    case d1 b =>
      exact fin _ _ (pw0 _ _ _ _ (HP.down hil hq)) (qhd _ _ rfl rfl cel0) trivial
    case d2 b =>
      exact fin _ _ (pw3 _ _ _ _ (HP.storeU hil hq)) (qhd _ _ rfl rfl cel3) trivial
    case d3 b =>
      split
      · exact fin _ none (psame _ rfl) (HQ.heads hl hi hp (Or.inl rfl) (Or.inr (Or.inl rfl)) SameQ.refl) trivial
      · rename_i hz
        exact fin _ none (psame _ rfl) (HQ.heads hl hi hp (Or.inl rfl) (Or.inr (Or.inr (Or.inr ⟨_, rfl, rfl, hz⟩))) SameQ.refl) trivial
    case d4 a b =>
      split
      · rename_i hz
        exact fin _ _ (pwx _ _ _ (by omega) (by omega) (by omega) _ _ (HP.passU hil hq)) (HQ.leaves hl hi hp rfl hz rfl written_at (fun j hj => ⟨written_far (by omega), written_far (by omega)⟩)) (Or.inr (Or.inl rfl))
      · rename_i hz
        exact fin _ none (psame _ rfl) (HQ.heads hl hi hp (Or.inl rfl) (Or.inr (Or.inr (Or.inl ⟨rfl, rfl, hz⟩))) SameQ.refl) trivial
    case d6 a b =>
      have ho := HQ.ok3 hi hp (a := a) (Or.inr rfl)
      refine fin _ _ (pwx _ _ _ (by omega) (by omega) (by omega) _ _ (HP.passU hil hq)) (HQ.gives hl hi hp (a := a) rfl rfl (written_far (by omega)) (fun j hj => ⟨fun e => ?_, fun e => written_far (by omega), written_far (by omega)⟩)) (Or.inr (Or.inl rfl))
      rw [show 8 + n + j = 8 + n + (a - 1).toNat by omega, written_at]
    case y0 =>
      exact fin _ _ (psx _ _ _ rfl (by omega) (by omega) (by omega)) (HQ.outs hl hi hp rfl rfl ⟨written_far (by omega), fun j hj hji => ⟨written_far (by omega), written_far (by omega)⟩⟩ ⟨(fun _ => written_at), (fun h => by cases h)⟩) trivial
    case y1 =>
      split
      · rename_i hz
        exact fin _ _ (pwx _ _ _ (by omega) (by omega) (by omega) _ _ (HP.take hil hq (pq_nobody hl (HQ.none_of hz)))) (HQ.comes hl hi hp (Or.inl rfl) hz rfl written_at (fun j hj => ⟨written_far (by omega), written_far (by omega)⟩)) trivial
      · exact fin _ none (psame _ rfl) (qout _ _ rfl rfl celn) (Or.inl rfl)
    case y2 =>
      exact fin _ none (psame _ rfl) (qhd _ none rfl rfl celn) trivial
    case y3 a =>
      split
      · exact fin _ none (psame _ rfl) (qhd _ none rfl rfl celn) trivial
      · exact fin _ none (psame _ rfl) (qhd _ none rfl rfl celn) trivial
    case y4 a b =>
      exact fin _ none ⟨_, _, HP.phase hil hq⟩ (qhd _ none rfl rfl celn) trivial
    case y5 a b =>
      exact fin _ _ (pw0 _ _ _ _ (HP.present hil hq)) (qhd _ _ rfl rfl cel0) trivial
    case y8 a b =>
      split
      · exact fin _ none (psame _ rfl) (HQ.heads hl hi hp (Or.inl rfl) (Or.inr (Or.inl rfl)) SameQ.refl) trivial
      · rename_i hz
        exact fin _ none (psame _ rfl) (HQ.heads hl hi hp (Or.inl rfl) (Or.inr (Or.inr (Or.inr ⟨_, rfl, rfl, hz⟩))) SameQ.refl) trivial
    case y9 a b =>
      split
      · rename_i hz
        exact fin _ _ (pwx _ _ _ (by omega) (by omega) (by omega) _ _ (HP.pass hil hq)) (HQ.leaves hl hi hp rfl hz rfl written_at (fun j hj => ⟨written_far (by omega), written_far (by omega)⟩)) (Or.inl rfl)
      · rename_i hz
        exact fin _ none (psame _ rfl) (HQ.heads hl hi hp (Or.inl rfl) (Or.inr (Or.inr (Or.inl ⟨rfl, rfl, hz⟩))) SameQ.refl) trivial
    case y11 a b =>
      have ho := HQ.ok3 hi hp (a := a) (Or.inr rfl)
      refine fin _ _ (pwx _ _ _ (by omega) (by omega) (by omega) _ _ (HP.pass hil hq)) (HQ.gives hl hi hp (a := a) rfl rfl (written_far (by omega)) (fun j hj => ⟨fun e => ?_, fun e => written_far (by omega), written_far (by omega)⟩)) (Or.inl rfl)
      rw [show 8 + n + j = 8 + n + (a - 1).toNat by omega, written_at]
    case z0 =>
      exact fin _ _ (psx _ _ _ rfl (by omega) (by omega) (by omega)) (HQ.outs hl hi hp rfl rfl ⟨written_far (by omega), fun j hj hji => ⟨written_far (by omega), written_far (by omega)⟩⟩ ⟨(fun _ => written_at), (fun h => by cases h)⟩) trivial
    case z1 =>
      split
      · rename_i hz
        exact fin _ _ (pwx _ _ _ (by omega) (by omega) (by omega) _ _ (HP.takeU hil hq (pq_nobody hl (HQ.none_of hz)))) (HQ.comes hl hi hp (Or.inl rfl) hz rfl written_at (fun j hj => ⟨written_far (by omega), written_far (by omega)⟩)) trivial
      · exact fin _ none (psame _ rfl) (qout _ _ rfl rfl celn) (Or.inr (Or.inl rfl))
    case z2 =>
      exact fin _ none (psame _ rfl) (qhd _ none rfl rfl celn) trivial
    case z3 a =>
      split
      · exact fin _ none (psame _ rfl) (qhd _ none rfl rfl celn) trivial
      · exact fin _ none (psame _ rfl) (qhd _ none rfl rfl celn) trivial
    case z4 a b =>
      exact fin _ none ⟨_, _, HP.phaseU hil hq⟩ (qhd _ none rfl rfl celn) trivial
    case z5 a b =>
      exact fin _ _ (pw0 _ _ _ _ (HP.presentU hil hq)) (qhd _ _ rfl rfl cel0) trivial
    case z7 a b =>
      exact fin _ _ (pw1 _ _ _ _ (HP.upin hil hq)) (qhd _ _ rfl rfl cel1) (Or.inr (Or.inr rfl))
    case z8 a b =>
      split
      · exact fin _ none (psame _ rfl) (HQ.heads hl hi hp (Or.inl rfl) (Or.inr (Or.inl rfl)) SameQ.refl) trivial
      · rename_i hz
        exact fin _ none (psame _ rfl) (HQ.heads hl hi hp (Or.inl rfl) (Or.inr (Or.inr (Or.inr ⟨_, rfl, rfl, hz⟩))) SameQ.refl) trivial
    case z9 a b =>
      split
      · rename_i hz
        exact fin _ _ (pwx _ _ _ (by omega) (by omega) (by omega) _ _ (HP.passU hil hq)) (HQ.leaves hl hi hp rfl hz rfl written_at (fun j hj => ⟨written_far (by omega), written_far (by omega)⟩)) (Or.inr (Or.inl rfl))
      · rename_i hz
        exact fin _ none (psame _ rfl) (HQ.heads hl hi hp (Or.inl rfl) (Or.inr (Or.inr (Or.inl ⟨rfl, rfl, hz⟩))) SameQ.refl) trivial
    case z11 a b =>
      have ho := HQ.ok3 hi hp (a := a) (Or.inr rfl)
      refine fin _ _ (pwx _ _ _ (by omega) (by omega) (by omega) _ _ (HP.passU hil hq)) (HQ.gives hl hi hp (a := a) rfl rfl (written_far (by omega)) (fun j hj => ⟨fun e => ?_, fun e => written_far (by omega), written_far (by omega)⟩)) (Or.inr (Or.inl rfl))
      rw [show 8 + n + j = 8 + n + (a - 1).toNat by omega, written_at]
  · obtain ⟨h1, h2, _, ⟨Rin, Rout, HP⟩, HQ, h5⟩ := H
    change pqWait n i (ps.getD i (.idle 0)) = some (c, pr) at hw
    change pqI n b (ps.set i (pqPost (m c) (ps.getD i (.idle 0)))) m
    have hil : i < (ps.map pqAttr).length := by simpa using (show i < ps.length by omega)
    have hq := getD_map_ (g := pqAttr) (d := PqP.idle 0) (e := Ph.none) (l := ps) (i := i) (by omega)
    obtain ⟨p, hp⟩ : ∃ p, ps.getD i (.idle 0) = p := ⟨_, rfl⟩
    rw [hp] at hq hw ⊢
    have fin : ∀ q, (∃ Rin Rout, PhIs ((ps.map pqAttr).set i (pqAttr q)) (m 0) (m 1) (m 3) Rin Rout) → QI n 2 pqMk (.idle 0) (ps.set i q) m → pqFine q → pqI n b (ps.set i q) m :=
      fun q g1 g2 g3 => ⟨h1, h2, by simpa using hl, by rw [List.map_set]; exact g1, g2, pq_mem h5 g3⟩
    have psame : ∀ q, pqAttr q = pqAttr p → ∃ Rin Rout, PhIs ((ps.map pqAttr).set i (pqAttr q)) (m 0) (m 1) (m 3) Rin Rout := fun q g => ⟨_, _, by rw [g, set_self hil hq]; exact HP⟩
    cases p <;> simp [pqWait] at hw
    case r1 a =>
      obtain ⟨rfl, rfl⟩ := hw
      have h0 : ¬ m 0 % 4 = a % 4 := by simpa using hpr
      exact fin _ ⟨_, _, HP.lets hil hq h0⟩ (HQ.outs hl hi hp rfl rfl ⟨rfl, fun j hj hji => ⟨rfl, rfl⟩⟩ ⟨(fun h => by rcases h with h | h <;> cases h), (fun h => by cases h)⟩) (Or.inr (Or.inl rfl))
    case w4 a =>
      obtain ⟨rfl, rfl⟩ := hw
      have h0 : m (8 + n + i) = 0 := by simpa using hpr
      exact fin _ ⟨_, _, HP.take hil hq (pq_nobody hl (HQ.first hi (by rw [hp]; rfl) h0))⟩ (HQ.heads hl hi hp (Or.inr ⟨rfl, h0⟩) (Or.inl rfl) SameQ.refl) trivial
    case w7 a b =>
      obtain ⟨rfl, rfl⟩ := hw
      have h0 : m 1 = a := by simpa using hpr
      exact fin _ ⟨_, _, HP.admit hil hq h0⟩ (HQ.heads hl hi hp (Or.inl rfl) (Or.inl rfl) SameQ.refl) (Or.inr (Or.inr rfl))
    case y6 a b =>
      obtain ⟨rfl, rfl⟩ := hw
      have h0 : m 1 = a := by simpa using hpr
      exact fin _ ⟨_, _, HP.admit hil hq h0⟩ (HQ.heads hl hi hp (Or.inl rfl) (Or.inl rfl) SameQ.refl) (Or.inr (Or.inr rfl))
    case z6 a b =>
      obtain ⟨rfl, rfl⟩ := hw
      have h0 : m 1 = (a - 256) % 4294967296 := by simpa using hpr
      exact fin _ ⟨_, _, HP.admitU hil hq h0⟩ (HQ.heads hl hi hp (Or.inl rfl) (Or.inl rfl) SameQ.refl) trivial
    case v5 a b =>
      obtain ⟨rfl, rfl⟩ := hw
      exact fin _ (psame _ rfl) (HQ.heads hl hi hp (Or.inl rfl) (Or.inr (Or.inr (Or.inr ⟨_, rfl, rfl, by simpa using hpr⟩))) SameQ.refl) trivial
    case d5 a b =>
      obtain ⟨rfl, rfl⟩ := hw
      exact fin _ (psame _ rfl) (HQ.heads hl hi hp (Or.inl rfl) (Or.inr (Or.inr (Or.inr ⟨_, rfl, rfl, by simpa using hpr⟩))) SameQ.refl) trivial
    case y10 a b =>
      obtain ⟨rfl, rfl⟩ := hw
      exact fin _ (psame _ rfl) (HQ.heads hl hi hp (Or.inl rfl) (Or.inr (Or.inr (Or.inr ⟨_, rfl, rfl, by simpa using hpr⟩))) SameQ.refl) trivial
    case z10 a b =>
      obtain ⟨rfl, rfl⟩ := hw
      exact fin _ (psame _ rfl) (HQ.heads hl hi hp (Or.inl rfl) (Or.inr (Or.inr (Or.inr ⟨_, rfl, rfl, by simpa using hpr⟩))) SameQ.refl) trivial
  · obtain ⟨h1, h2, _, ⟨Rin, Rout, HP⟩, HQ, h5⟩ := H
    change pqWait n i (ps.getD i (.idle 0)) = none at hw
    change (pqConc (ps.getD i (.idle 0))).1.op ≠ 0 at hop
    change pqWait n j (ps.getD j (.idle 0)) = some (c, pr) at hwj
    change pr (written m (pqAct n i m (ps.getD i (.idle 0))).2.1 c) = true at hpr
    change _ ∨ (pqAct n i m (ps.getD i (.idle 0))).2.2 = some c
    have hok : ∀ a, (pqMk (ps.getD i (.idle 0)) = .e3 a ∨ pqMk (ps.getD i (.idle 0)) = .g3 a) → 1 ≤ a ∧ a ≤ n := fun a h => HQ.ok3 hi rfl h
    have hil : i < (ps.map pqAttr).length := by simpa using (show i < ps.length by omega)
    have hjl : j < (ps.map pqAttr).length := by simpa using (show j < ps.length by omega)
    have hq := getD_map_ (g := pqAttr) (d := PqP.idle 0) (e := Ph.none) (l := ps) (i := i) (by omega)
    have hqj := getD_map_ (g := pqAttr) (d := PqP.idle 0) (e := Ph.none) (l := ps) (i := j) (by omega)
    obtain ⟨p, hp⟩ : ∃ p, ps.getD i (.idle 0) = p := ⟨_, rfl⟩
    obtain ⟨q, hqq⟩ : ∃ q, ps.getD j (.idle 0) = q := ⟨_, rfl⟩
    rw [hp] at hw hop hpr hq hok ⊢
    rw [hqq] at hwj hqj
    have QM := HP.ok _ (getD_mem_ (d := Ph.none) hjl)
    rw [hqj] at QM
    have hal := fun h => HP.alone hil hq h hjl (fun h => hij h.symm)
    rw [hqj] at hal
    have HA := HP.own hil hq
    have hone := HP.one
    have off := HP.off
    obtain ⟨⟨s0, s1, s2, s3, s4, s5, s6, s7⟩, s8, s9⟩ := HP.sums
    have hx0 : 0 ≤ m 0 ∧ m 0 < 4294967296 := by have := HP.on; omega
    have hc := pq_kinds hwj
    have keep : ∀ w, (pqAct n i m p).2.1 = w → written m w c = m c → pr (m c) = true ∨ (pqAct n i m p).2.2 = some c := fun w g1 g2 => Or.inl (by rw [← g2, ← g1]; exact hpr)
    have other : ∀ c0 v, (pqAct n i m p).2.1 = some (c0, v) → c ≠ c0 → pr (m c) = true ∨ (pqAct n i m p).2.2 = some c := fun c0 v g1 g2 => keep _ g1 (written_far g2)
    have more : ∀ v, (pqAct n i m p).2.1 = some (0, v) → v % 4 = m 0 % 4 → pr (m c) = true ∨ (pqAct n i m p).2.2 = some c := fun v g1 g2 => by
      rcases hc with ⟨rfl, a, rfl, rfl⟩ | ⟨rfl, _⟩ | ⟨rfl, _⟩ | ⟨rfl, _⟩
      · left
        rw [g1] at hpr
        simp only [written, upd, if_true] at hpr ⊢
        rw [← g2]; exact hpr
      all_goals exact other 0 _ g1 (by omega)
    have pres : ∀ v, (pqAct n i m p).2.1 = some (0, v) → (pqAttr p).hd = true → wIn (pqAttr p) + wUp (pqAttr p) + wPd (pqAttr p) + wA2 (pqAttr p) = 0 → pr (m c) = true ∨ (pqAct n i m p).2.2 = some c := fun v g1 g2 g3 => by
      rcases hc with ⟨rfl, a, rfl, rfl⟩ | ⟨rfl, _⟩ | ⟨rfl, _⟩ | ⟨rfl, _⟩
      · left
        have hh : wHd (pqAttr p) = 1 := by unfold wHd; rw [g2]; rfl
        have h0 := off (by omega)
        have hwt := (QM.wt (a % 4) rfl).1
        have : ¬ m 0 % 4 = a % 4 := by omega
        simpa using this
      all_goals exact other 0 _ g1 (by omega)
    cases p <;> simp [pqWait] at hw <;> simp [pqConc, pqFr, Fr.zero] at hop
    case r0 =>
      exact more _ rfl (by omega)
    case u0 =>
      rcases hc with ⟨rfl, _⟩ | ⟨rfl, hh⟩ | ⟨rfl, _⟩ | ⟨rfl, _⟩ <;> first | exact Or.inr rfl | exact other 1 _ rfl (by omega)
    case q0 a =>
      exact keep none rfl rfl
    case q1 a =>
      by_cases h0 : m 0 = a
      · exact more ((a + 256) % 4294967296) (by simp only [pqAct, if_pos h0]) (by omega)
      · exact keep none (by simp only [pqAct, if_neg h0]) rfl
    case w0 =>
      rcases hc with ⟨rfl, _⟩ | ⟨rfl, hh⟩ | ⟨rfl, _⟩ | ⟨rfl, _⟩ <;> exact other (8 + i) _ rfl (by omega)
    case w1 =>
      rcases hc with ⟨rfl, _⟩ | ⟨rfl, hh⟩ | ⟨rfl, _⟩ | ⟨rfl, _⟩ <;> exact other (8 + n + i) _ rfl (by omega)
    case w2 =>
      rcases hc with ⟨rfl, _⟩ | ⟨rfl, hh⟩ | ⟨rfl, _⟩ | ⟨rfl, _⟩ <;> exact other 2 _ rfl (by omega)
    case w3 a =>
      have ho := hok a (Or.inl rfl)
      rcases Decidable.em (8 + (a - 1).toNat = c) with e | e
      · exact Or.inr (by rw [← e]; rfl)
      · exact other _ _ rfl (fun h => e h.symm)
    case w5 a =>
      exact keep none rfl rfl
    case w6 a b =>
      exact pres _ rfl rfl rfl
    case v0 =>
      exact keep none rfl rfl
    case v1 b =>
      rcases hc with ⟨rfl, _⟩ | ⟨rfl, hh⟩ | ⟨rfl, _⟩ | ⟨rfl, _⟩ <;> first | exact Or.inr rfl | exact other 0 _ rfl (by omega)
    case v2 b =>
      rcases hc with ⟨rfl, _⟩ | ⟨rfl, hh⟩ | ⟨rfl, _⟩ | ⟨rfl, _⟩ <;> exact other 3 _ rfl (by omega)
    case v3 b =>
      exact keep none rfl rfl
    case v4 a b =>
      by_cases h0 : m 2 = (i : Int) + 1
      · rcases hc with ⟨rfl, _⟩ | ⟨rfl, hh⟩ | ⟨rfl, _⟩ | ⟨rfl, _⟩ <;> exact other 2 _ (by simp only [pqAct, if_pos h0]; rfl) (by omega)
      · exact keep none (by simp only [pqAct, if_neg h0]) rfl
    case v6 a b =>
      have ho := hok a (Or.inr rfl)
      rcases Decidable.em (8 + n + (a - 1).toNat = c) with e | e
      · exact Or.inr (by rw [← e]; rfl)
      · exact other _ _ rfl (fun h => e h.symm)
    case d0 =>
      exact keep none rfl rfl
    case d1 b =>
      rcases hc with ⟨rfl, _⟩ | ⟨rfl, hh⟩ | ⟨rfl, _⟩ | ⟨rfl, _⟩ <;> first | exact Or.inr rfl | exact other 0 _ rfl (by omega)
    case d2 b =>
      rcases hc with ⟨rfl, _⟩ | ⟨rfl, hh⟩ | ⟨rfl, _⟩ | ⟨rfl, _⟩ <;> exact other 3 _ rfl (by omega)
    case d3 b =>
      exact keep none rfl rfl
    case d4 a b =>
      by_cases h0 : m 2 = (i : Int) + 1
      · rcases hc with ⟨rfl, _⟩ | ⟨rfl, hh⟩ | ⟨rfl, _⟩ | ⟨rfl, _⟩ <;> exact other 2 _ (by simp only [pqAct, if_pos h0]; rfl) (by omega)
      · exact keep none (by simp only [pqAct, if_neg h0]) rfl
    case d6 a b =>
      have ho := hok a (Or.inr rfl)
      rcases Decidable.em (8 + n + (a - 1).toNat = c) with e | e
      · exact Or.inr (by rw [← e]; rfl)
      · exact other _ _ rfl (fun h => e h.symm)
    case y0 =>
      rcases hc with ⟨rfl, _⟩ | ⟨rfl, hh⟩ | ⟨rfl, _⟩ | ⟨rfl, _⟩ <;> exact other (8 + i) _ rfl (by omega)
    case y1 =>
      by_cases h0 : m 2 = 0
      · rcases hc with ⟨rfl, _⟩ | ⟨rfl, hh⟩ | ⟨rfl, _⟩ | ⟨rfl, _⟩ <;> exact other 2 _ (by simp only [pqAct, if_pos h0]; rfl) (by omega)
      · exact keep none (by simp only [pqAct, if_neg h0]) rfl
    case y2 =>
      exact keep none rfl rfl
    case y3 a =>
      exact keep none rfl rfl
    case y4 a b =>
      exact keep none rfl rfl
    case y5 a b =>
      exact pres _ rfl rfl rfl
    case y8 a b =>
      exact keep none rfl rfl
    case y9 a b =>
      by_cases h0 : m 2 = (i : Int) + 1
      · rcases hc with ⟨rfl, _⟩ | ⟨rfl, hh⟩ | ⟨rfl, _⟩ | ⟨rfl, _⟩ <;> exact other 2 _ (by simp only [pqAct, if_pos h0]; rfl) (by omega)
      · exact keep none (by simp only [pqAct, if_neg h0]) rfl
    case y11 a b =>
      have ho := hok a (Or.inr rfl)
      rcases Decidable.em (8 + n + (a - 1).toNat = c) with e | e
      · exact Or.inr (by rw [← e]; rfl)
      · exact other _ _ rfl (fun h => e h.symm)
    case z0 =>
      rcases hc with ⟨rfl, _⟩ | ⟨rfl, hh⟩ | ⟨rfl, _⟩ | ⟨rfl, _⟩ <;> exact other (8 + i) _ rfl (by omega)
    case z1 =>
      by_cases h0 : m 2 = 0
      · rcases hc with ⟨rfl, _⟩ | ⟨rfl, hh⟩ | ⟨rfl, _⟩ | ⟨rfl, _⟩ <;> exact other 2 _ (by simp only [pqAct, if_pos h0]; rfl) (by omega)
      · exact keep none (by simp only [pqAct, if_neg h0]) rfl
    case z2 =>
      exact keep none rfl rfl
    case z3 a =>
      exact keep none rfl rfl
    case z4 a b =>
      exact keep none rfl rfl
    case z5 a b =>
      exact pres _ rfl rfl rfl
    case z7 a b =>
      rcases hc with ⟨rfl, _⟩ | ⟨rfl, hh⟩ | ⟨rfl, _⟩ | ⟨rfl, _⟩
      · exact other 1 _ rfl (by omega)
      · have := hal rfl
        rw [hh] at this
        cases this
      · exact other 1 _ rfl (by omega)
      · exact other 1 _ rfl (by omega)
    case z8 a b =>
      exact keep none rfl rfl
    case z9 a b =>
      by_cases h0 : m 2 = (i : Int) + 1
      · rcases hc with ⟨rfl, _⟩ | ⟨rfl, hh⟩ | ⟨rfl, _⟩ | ⟨rfl, _⟩ <;> exact other 2 _ (by simp only [pqAct, if_pos h0]; rfl) (by omega)
      · exact keep none (by simp only [pqAct, if_neg h0]) rfl
    case z11 a b =>
      have ho := hok a (Or.inr rfl)
      rcases Decidable.em (8 + n + (a - 1).toNat = c) with e | e
      · exact Or.inr (by rw [← e]; rfl)
      · exact other _ _ rfl (fun h => e h.symm)

def pqNw : PqP → Nat
  | .idle h => if h = 0 then 0 else if h = 1 then 1 else 3
  | .r0 => 2
  | .q0 _ => 2
  | .q1 _ => 2
  | .w0 => 8
  | .w1 => 7
  | .w2 => 6
  | .w3 _ => 5
  | .w4 _ => 4
  | .w5 _ => 4
  | .w6 _ _ => 4
  | .w7 _ _ => 3
  | .v0 => 3
  | .v1 _ => 3
  | .v2 _ => 2
  | .d0 => 4
  | .d1 _ => 4
  | .d2 _ => 3
  | .d3 _ => 2
  | .d4 _ _ => 2
  | .d5 _ _ => 2
  | .d6 _ _ => 2
  | .y0 => 6
  | .y1 => 5
  | .y2 => 4
  | .y3 _ => 4
  | .y4 _ _ => 4
  | .y5 _ _ => 4
  | .y6 _ _ => 3
  | .z0 => 7
  | .z1 => 6
  | .z2 => 5
  | .z3 _ => 5
  | .z4 _ _ => 5
  | .z5 _ _ => 5
  | .z6 _ _ => 4
  | .z7 _ _ => 4
  | .z8 _ _ => 2
  | .z9 _ _ => 2
  | .z10 _ _ => 2
  | .z11 _ _ => 2
  | _ => 1
def pqNv : PqP → Nat
  | .idle h => if h = 0 then 0 else if h = 1 then 1 else 2
  | .r0 => 1
  | .r1 _ => 1
  | .u0 => 1
  | .q0 _ => 1
  | .q1 _ => 1
  | .w0 => 3
  | .w1 => 3
  | .w2 => 3
  | .w3 _ => 3
  | .v2 _ => 1
  | .v3 _ => 1
  | .v4 _ _ => 1
  | .v5 _ _ => 1
  | .v6 _ _ => 1
  | .d0 => 3
  | .d1 _ => 3
  | .y8 _ _ => 1
  | .y9 _ _ => 1
  | .y10 _ _ => 1
  | .y11 _ _ => 1
  | _ => 2
def pqG (n : Nat) : Nat := if n = 1 then 4 else 7
def pqCp (n : Nat) (m : Nat → Int) : PqP → Nat
  | .idle h => if h = 0 then 0 else if h = 1 then 1 else 2
  | .r1 a => if m 0 % 4 != a % 4 then 2 else 5
  | .q0 _ => 2
  | .q1 a => if m 0 = a then 1 else 3
  | .w4 _ => 5
  | .w5 _ => 2
  | .w7 a _ => if m 1 = a then 3 else 5
  | .v0 => 2
  | .v3 _ => pqG n
  | .v4 _ _ => pqG n - 1
  | .v5 _ _ => 5
  | .d0 => 2
  | .d3 _ => pqG n
  | .d4 _ _ => pqG n - 1
  | .d5 _ _ => 5
  | .y2 => pqG n + 2
  | .y3 _ => pqG n + 1
  | .y4 _ _ => 2
  | .y6 a _ => if m 1 = a then 3 else 5
  | .y8 _ _ => pqG n
  | .y9 _ _ => pqG n - 1
  | .y10 _ _ => 5
  | .z1 => 2
  | .z2 => pqG n + 2
  | .z3 _ => pqG n + 1
  | .z4 _ _ => 2
  | .z6 a _ => if m 1 = (a - 256) % 4294967296 then 2 else 5
  | .z8 _ _ => pqG n
  | .z9 _ _ => pqG n - 1
  | .z10 _ _ => 5
  | _ => 1

theorem pqG_4 (n : Nat) : 4 ≤ pqG n := by unfold pqG; split <;> omega
/-- One who waits, as the queue and the others see it. -/
theorem pq_two {n t c : Nat} {p : PqP} {pr : Int → Bool} {m : Nat → Int} (h : pqWait n t p = some (c, pr)) (hpr : pr (m c) = false) :
    ((pqMk p).inq = false ∧ (pqMk p).turn = false ∨ pqMk p = .hd ∧ (pqAttr p).pd = true ∨ (pqMk p = .e4 ∧ m (8 + n + t) ≠ 0) ∨ (pqMk p = .g2 ∧ m (8 + t) = 0)) ∧
    ((pqAttr p).inn = false ∧ (pqAttr p).up = false ∧ (pqAttr p).a2 = false ∧ ((pqAttr p).rd = true → (pqAttr p).pd = true ∨ pqMk p = .g2) ∧ (∀ w, (pqAttr p).wt = some w → m 0 % 4 = w) ∧ ((pqAttr p).pd = true → ∃ a, (pqAttr p).sn = some a ∧ ¬ m 1 = (if (pqAttr p).rd then (a - 256) % 4294967296 else a))) ∧
    ((pqMk p).inq = true ∨ ∃ w, (pqAttr p).wt = some w) := by
  cases p <;> simp [pqWait] at h <;> obtain ⟨rfl, rfl⟩ := h <;> simp at hpr <;> simp [pqMk, pqAttr, Mk.inq, Mk.turn] <;> first | exact hpr | omega
set_option maxHeartbeats 6400000 in
theorem pq_live (n : Nat) : (pqK n).Live n (pqI n) 8 3 (pqG n + 3) pqNw pqNv (fun m _ p => pqCp n m p) := by
  have hg := pqG_4 n
  refine ⟨fun p => by cases p <;> simp [pqNw] <;> (repeat' split) <;> omega, fun p => by cases p <;> simp [pqNv] <;> (repeat' split) <;> omega, by omega, fun m t p => ⟨by cases p <;> simp [pqCp] <;> (repeat' split) <;> omega, fun hw => by cases p <;> simp [pqK, pqWait] at hw <;> simp [pqCp] <;> (repeat' split) <;> omega⟩, fun m t p c pr hw hpr => ?_, fun m t p c pr hw hpr => ?_, fun t p c pr v hw => ?_,
    fun m t p w hw hop he => ?_, fun b ps m t p hI hpl ht hpt hw hop he => ?_, fun m t h hh => ?_, fun m t => rfl, fun m t p hw hz => ?_, fun b ps m H hl hall => ?_⟩
  · cases p <;> simp [pqK, pqWait] at hw <;> obtain ⟨rfl, rfl⟩ := hw <;> simp at hpr <;> simp [pqK, pqPost, pqCp, hpr]
  · cases p <;> simp [pqK, pqWait] at hw <;> obtain ⟨rfl, rfl⟩ := hw <;> simp at hpr <;> simp [pqCp, hpr]
  · cases p <;> simp [pqK, pqWait] at hw <;> simp [pqK, pqPost, pqNw, pqNv]
  · change (pqAct n t m p).2.1 = some w at he
    change pqNw (pqAct n t m p).1 + 1 ≤ pqNw p ∧ pqNv (pqAct n t m p).1 + (if (pqAct n t m p).2.2.isSome then 1 else 0) ≤ pqNv p
    cases p <;> simp [pqK, pqWait] at hw <;> simp [pqK, pqConc, pqFr, Fr.zero] at hop
    case r0 => simp only [pqAct]; split <;> simp [pqNw, pqNv]
    all_goals simp only [pqAct] at he ⊢
    all_goals first | (cases he; done) | (simp [pqNw, pqNv]; done) | (by_cases hq : m 2 = 0 <;> simp [hq] at he <;> simp [pqNw, pqNv, hq]; done) | (by_cases hq : m 2 = (t : Int) + 1 <;> simp [hq] at he <;> simp [pqNw, pqNv, hq]; done) | (rename_i a; by_cases hq : m 0 = a <;> simp [hq] at he <;> simp [pqNw, pqNv, hq]; done)
  · change (pqAct n t m p).2.1 = none at he
    show (pqAct n t m p).2.2 = none ∧ pqNw (pqAct n t m p).1 ≤ pqNw p ∧ pqNv (pqAct n t m p).1 ≤ pqNv p ∧ pqCp n m (pqAct n t m p).1 + 1 ≤ pqCp n m p
    have hal := fun h => fun e => hI.2.2.2.2.1.alone (i := t) e ht h
    change ps.getD t (.idle 0) = p at hpt
    rw [hpt] at hal
    clear hI hpl hpt
    cases p <;> simp [pqK, pqWait] at hw <;> simp [pqK, pqConc, pqFr, Fr.zero] at hop
    case r0 => simp [pqAct] at he
    case u0 => simp [pqAct] at he
    case q0 a => by_cases hq : m 0 % 4 = 0 <;> simp [pqAct, pqNw, pqNv, pqCp, hq]
    case q1 a => by_cases hq : m 0 = a <;> simp [pqAct, hq] at he <;> simp [pqAct, pqNw, pqNv, pqCp, hq]
    case w0 => simp [pqAct] at he
    case w1 => simp [pqAct] at he
    case w2 => simp [pqAct] at he
    case w3 a => simp [pqAct] at he
    case w5 a => simp [pqAct, pqNw, pqNv, pqCp]
    case w6 a b => simp [pqAct] at he
    case v0 => simp [pqAct, pqNw, pqNv, pqCp]
    case v1 b => simp [pqAct] at he
    case v2 b => simp [pqAct] at he
    case v3 b => by_cases hq : m (8 + t) = 0 <;> simp [pqAct, pqNw, pqNv, pqCp, hq] <;> omega
    case v4 a b =>
      have hal := hal rfl
      by_cases hq : m 2 = (t : Int) + 1
      · simp [pqAct, hq] at he
      · have hn1 : n ≠ 1 := fun e => hq (hal e)
        have hg7 : pqG n = 7 := by unfold pqG; rw [if_neg hn1]
        simp [pqAct, pqNw, pqNv, pqCp, hq, hg7]
    case v6 a b => simp [pqAct] at he
    case d0 => simp [pqAct, pqNw, pqNv, pqCp]
    case d1 b => simp [pqAct] at he
    case d2 b => simp [pqAct] at he
    case d3 b => by_cases hq : m (8 + t) = 0 <;> simp [pqAct, pqNw, pqNv, pqCp, hq] <;> omega
    case d4 a b =>
      have hal := hal rfl
      by_cases hq : m 2 = (t : Int) + 1
      · simp [pqAct, hq] at he
      · have hn1 : n ≠ 1 := fun e => hq (hal e)
        have hg7 : pqG n = 7 := by unfold pqG; rw [if_neg hn1]
        simp [pqAct, pqNw, pqNv, pqCp, hq, hg7]
    case d6 a b => simp [pqAct] at he
    case y0 => simp [pqAct] at he
    case y1 => by_cases hq : m 2 = 0 <;> simp [pqAct, hq] at he <;> simp [pqAct, pqNw, pqNv, pqCp, hq]
    case y2 => simp [pqAct, pqNw, pqNv, pqCp]
    case y3 a => by_cases hq : 0 < aheadA a (m 1) <;> simp [pqAct, pqNw, pqNv, pqCp, hq] <;> omega
    case y4 a b => simp [pqAct, pqNw, pqNv, pqCp]
    case y5 a b => simp [pqAct] at he
    case y8 a b => by_cases hq : m (8 + t) = 0 <;> simp [pqAct, pqNw, pqNv, pqCp, hq] <;> omega
    case y9 a b =>
      have hal := hal rfl
      by_cases hq : m 2 = (t : Int) + 1
      · simp [pqAct, hq] at he
      · have hn1 : n ≠ 1 := fun e => hq (hal e)
        have hg7 : pqG n = 7 := by unfold pqG; rw [if_neg hn1]
        simp [pqAct, pqNw, pqNv, pqCp, hq, hg7]
    case y11 a b => simp [pqAct] at he
    case z0 => simp [pqAct] at he
    case z1 => by_cases hq : m 2 = 0 <;> simp [pqAct, hq] at he <;> simp [pqAct, pqNw, pqNv, pqCp, hq]
    case z2 => simp [pqAct, pqNw, pqNv, pqCp]
    case z3 a => by_cases hq : 256 < aheadA a (m 1) <;> simp [pqAct, pqNw, pqNv, pqCp, hq] <;> omega
    case z4 a b => simp [pqAct, pqNw, pqNv, pqCp]
    case z5 a b => simp [pqAct] at he
    case z7 a b => simp [pqAct] at he
    case z8 a b => by_cases hq : m (8 + t) = 0 <;> simp [pqAct, pqNw, pqNv, pqCp, hq] <;> omega
    case z9 a b =>
      have hal := hal rfl
      by_cases hq : m 2 = (t : Int) + 1
      · simp [pqAct, hq] at he
      · have hn1 : n ≠ 1 := fun e => hq (hal e)
        have hg7 : pqG n = 7 := by unfold pqG; rw [if_neg hn1]
        simp [pqAct, pqNw, pqNv, pqCp, hq, hg7]
    case z11 a b => simp [pqAct] at he
  · rcases hh with rfl | rfl <;> simp [pqK, pqStart, pqNw, pqNv, pqCp]
  · cases p <;> simp [pqK, pqWait] at hw <;> simp [pqCp] at hz
    case idle h =>
      rcases Decidable.em (h = 0) with h0 | h0
      · subst h0; rfl
      · have hz := hz h0
        split at hz <;> simp at hz
    all_goals first | omega | (split at hz <;> simp at hz)
  · obtain ⟨h1, h2, _, ⟨Rin, Rout, HP⟩, HQ, h5⟩ := H
    have hk : ∀ i, i < n → ps.getD i (.idle 0) = .idle 0 ∨ (((pqMk (ps.getD i (.idle 0))).inq = false ∧ (pqMk (ps.getD i (.idle 0))).turn = false ∨ pqMk (ps.getD i (.idle 0)) = .hd ∧ (pqAttr (ps.getD i (.idle 0))).pd = true ∨ (pqMk (ps.getD i (.idle 0)) = .e4 ∧ m (8 + n + i) ≠ 0) ∨ (pqMk (ps.getD i (.idle 0)) = .g2 ∧ m (8 + i) = 0)) ∧
        ((pqAttr (ps.getD i (.idle 0))).inn = false ∧ (pqAttr (ps.getD i (.idle 0))).up = false ∧ (pqAttr (ps.getD i (.idle 0))).a2 = false ∧ ((pqAttr (ps.getD i (.idle 0))).rd = true → (pqAttr (ps.getD i (.idle 0))).pd = true ∨ pqMk (ps.getD i (.idle 0)) = .g2) ∧ (∀ w, (pqAttr (ps.getD i (.idle 0))).wt = some w → m 0 % 4 = w) ∧ ((pqAttr (ps.getD i (.idle 0))).pd = true → ∃ a, (pqAttr (ps.getD i (.idle 0))).sn = some a ∧ ¬ m 1 = (if (pqAttr (ps.getD i (.idle 0))).rd then (a - 256) % 4294967296 else a))) ∧
        ((pqMk (ps.getD i (.idle 0))).inq = true ∨ ∃ w, (pqAttr (ps.getD i (.idle 0))).wt = some w)) := fun i hi => by
      rcases hall i hi with h | ⟨c, pr, hw, hpr⟩
      · exact Or.inl h
      · exact Or.inr (pq_two hw hpr)
    have e0 : pqMk (.idle 0) = .out := rfl
    have hin : ∀ j, j < n → (pqMk (ps.getD j (.idle 0))).inq = false ∨ pqMk (ps.getD j (.idle 0)) = .hd ∨ (pqMk (ps.getD j (.idle 0)) = .e4 ∧ m (8 + n + j) ≠ 0) ∨ (pqMk (ps.getD j (.idle 0)) = .g2 ∧ m (8 + j) = 0) := fun j hj => by
      rcases hk j hj with h | ⟨⟨h, _⟩ | ⟨h, _⟩ | h | h, _⟩
      · rw [h, e0]; exact Or.inl rfl
      · exact Or.inl h
      · exact Or.inr (Or.inl h)
      · exact Or.inr (Or.inr (Or.inl h))
      · exact Or.inr (Or.inr (Or.inr h))
    have hfr := HQ.free hin
    have hfree := HP.free (fun q hq => by
      obtain ⟨i, hi, rfl⟩ := List.getElem_of_mem hq
      have hil : i < n := by simpa [hl] using hi
      have e : (ps.map pqAttr)[i] = pqAttr (ps.getD i (.idle 0)) := by simp [List.getD, show i < ps.length by omega]
      rw [e]
      rcases hk i hil with h | ⟨_, ⟨g1, g2, g3, g4, g5, g6⟩, _⟩
      · rw [h]; exact ⟨rfl, rfl, rfl, (fun h => by cases h), (fun w h => by cases h), (fun h => by cases h)⟩
      · refine ⟨g1, g2, g3, (fun h => ?_), g5, g6⟩
        rcases g4 h with g | g
        · exact g
        · exfalso
          rcases hfr with hf | ⟨t, ht, hf⟩
          · have := hf i hil
            rw [g] at this; cases this
          · have := HQ.one ht hil (by rw [hf]; rfl) (by rw [g]; rfl)
            subst this
            rw [hf] at g; cases g)
    have hwt : ∀ i, i < n → (pqAttr (ps.getD i (.idle 0))).wt = none ∧ (pqAttr (ps.getD i (.idle 0))).pd = false := fun i hi => by
      rw [← getD_map_ (g := pqAttr) (e := Ph.none) (by omega)]
      exact hfree _ (getD_mem_ (by simpa using (show i < ps.length by omega)))
    intro i hi
    rcases hk i hi with h | ⟨_, _, h⟩
    · exact h
    · exfalso
      rcases h with h | ⟨w, h⟩
      · rcases hfr with hf | ⟨t, ht, hf⟩
        · have := hf i hi
          rw [h] at this; cases this
        · rcases hk t ht with g | ⟨⟨g, _⟩ | ⟨_, g⟩ | ⟨g, _⟩ | ⟨g, _⟩, _⟩
          · rw [g, e0] at hf; cases hf
          · rw [hf] at g; cases g
          · have := (hwt t ht).2
            rw [g] at this; cases this
          · rw [hf] at g; cases g
          · rw [hf] at g; cases g
      · rw [(hwt i hi).1] at h
        cases h

theorem pq_all (n : Nat) (mode : Int) (h1 : 1 ≤ n) (h2 : n ≤ 64) : (pqK n).All n mode (pqI n) 8 3 (pqG n + 3) pqNw pqNv (fun m _ p => pqCp n m p) := by
  refine ⟨pq_good n mode h1 h2, pq_kept n, pq_live n, fun b ps m i h H hi hl hp => ?_, fun b ps m i j H hl hi hj hji hp => ?_, fun t h => rfl⟩
  · have := pq_at H.2.2.2.2.2 hl hi
    change ps.getD i (.idle 0) = .idle h at hp
    rw [hp] at this
    exact this
  · obtain ⟨h1, h2, _, ⟨Rin, Rout, HP⟩, HQ, h5⟩ := H
    change ps.getD i (.idle 0) = .idle 2 at hp
    have hil : i < (ps.map pqAttr).length := by simpa using (show i < ps.length by omega)
    have hjl : j < (ps.map pqAttr).length := by simpa using (show j < ps.length by omega)
    have hqi : (ps.map pqAttr).getD i Ph.none = pqAttr (.idle 2) := by rw [getD_map_ (d := PqP.idle 0) (by omega), hp]
    have hqj : (ps.map pqAttr).getD j Ph.none = pqAttr (ps.getD j (.idle 0)) := getD_map_ (by omega)
    have hal := HP.alone hil hqi rfl hjl hji
    rw [hqj] at hal
    have o1 := ws_one (d := Ph.none) wIn_01 hil
    rw [hqi] at o1
    have o1 : 1 ≤ ws wIn (ps.map pqAttr) := o1
    obtain ⟨⟨s0, s1, s2, s3, s4, s5, s6, s7⟩, s8, s9⟩ := HP.sums
    have one := HP.one
    have wr := (HP.wr (by omega)).1
    have o5 := ws_one (d := Ph.none) wRd_01 hjl
    rw [hqj, wr] at o5
    have hok := pq_at h5 hl hj
    show (pqConc (ps.getD j (.idle 0))).2 = 0
    generalize ps.getD j (.idle 0) = p at hal o5 hok
    cases p <;> first | rfl | (exfalso; simp [pqAttr] at hal; done) | (exfalso; simp [pqAttr, wRd] at o5; done) | skip
    case idle h =>
      show h = 0
      have hok : h = 0 ∨ h = 1 ∨ h = 2 := hok
      rcases hok with rfl | rfl | rfl
      · rfl
      · exfalso; simp [pqAttr, wRd] at o5
      · exfalso; simp [pqAttr] at hal

/-- ONE WRITES, OR MANY READ. -/
theorem pq_excludes (k : Nat) (d base : Int) (h1 : 1 ≤ k) (h2 : k ≤ 6) (hd : d = 1 ∨ d = 2) (hb : 0 ≤ base ∧ base < 4294967296) (l : List (Int × Int)) (hlen : l.length ≤ 500) : ExcludesOk pqA k (Mt.start k d (own3 base ++ List.replicate ((8 + 4 * (k : Int)).toNat - 4) 0)) l := by
  have hfit : k * ((pqG k + 3 + 1) * 8 + 2 * k * 3) + 2 * k + (pqG k + 3) < 2 * k * (8 * k + 40) := by
    rcases (show k = 1 ∨ k = 2 ∨ k = 3 ∨ k = 4 ∨ k = 5 ∨ k = 6 by omega) with rfl | rfl | rfl | rfl | rfl | rfl <;> decide
  refine excludes_ok (K := pqK k) (pq_all k d h1 (by omega)) h1 (by omega) hd hfit rfl l (start_MI (pq_all k d h1 (by omega)) _ (by simp [own3]; omega) ?_)
  have hr : ∀ i, (List.replicate k (PqP.idle 0)).getD i (PqP.idle 0) = PqP.idle 0 := fun i => by
    rw [List.getD_eq_getElem?_getD, List.getElem?_replicate]; split <;> rfl
  have hx : mainOf k (own3 base ++ List.replicate ((8 + 4 * (k : Int)).toNat - 4) 0) 0 = base * 256 % 4294967296 ∧ mainOf k (own3 base ++ List.replicate ((8 + 4 * (k : Int)).toNat - 4) 0) 1 = base * 256 % 4294967296 ∧ mainOf k (own3 base ++ List.replicate ((8 + 4 * (k : Int)).toNat - 4) 0) 2 = 0 ∧ mainOf k (own3 base ++ List.replicate ((8 + 4 * (k : Int)).toNat - 4) 0) 3 = base := by
    simp [mainOf, own3]; omega
  obtain ⟨x0, x1, x2, x3⟩ := hx
  have hmr : (List.replicate k (PqP.idle 0)).map pqAttr = List.replicate k Ph.none := by rw [List.map_replicate]; rfl
  have z := fun (f : Ph → Int) (h : f Ph.none = 0) => ws_replicate (f := f) (n := k) h
  refine ⟨h1, by omega, by simp, ⟨base, base, ?_⟩, ⟨[], List.nodup_nil, by simp, fun i hi => ?_, x2, trivial, trivial, fun i hi => ?_⟩, fun p hp => ?_⟩
  · show PhIs ((List.replicate k (PqP.idle 0)).map pqAttr) _ _ _ _ _
    rw [hmr, x0, x1, x3]
    refine ⟨by simp; omega, hb, by omega, ?_, ?_, ?_, ?_, ?_, ?_, ?_, ?_, fun q hq => ?_, fun q hq v hv => ?_, fun q hq a ha => ?_⟩
    · rw [z wRd rfl, z (wOld base) rfl, z (wNew base) rfl]; omega
    · rw [z wIn rfl, z wUp rfl, z wPd rfl]; intro h; omega
    · intro _; omega
    · rw [z wHd rfl]; decide
    · rw [z wIn rfl]; intro h; omega
    · rw [z wUp rfl]; intro h; omega
    · rw [z wA2 rfl]; intro h; omega
    · intro _ _; exact z (wNew base) rfl
    · rw [(List.mem_replicate.1 hq).2]; exact ⟨by decide, (fun w h => by cases h), (fun w h => by cases h), (fun w h => by cases h), by decide⟩
    · rw [(List.mem_replicate.1 hq).2] at hv; cases hv
    · rw [(List.mem_replicate.1 hq).2] at ha; cases ha
  · show _ ↔ (pqMk ((List.replicate k (PqP.idle 0)).getD i (PqP.idle 0))).inq = true
    rw [hr]; simp [pqMk, Mk.inq]
  · show ((pqMk ((List.replicate k (PqP.idle 0)).getD i (PqP.idle 0)) = _ ∨ pqMk ((List.replicate k (PqP.idle 0)).getD i (PqP.idle 0)) = _) → _) ∧ (pqMk ((List.replicate k (PqP.idle 0)).getD i (PqP.idle 0)) = _ → _)
    rw [hr]; exact ⟨(fun h => by rcases h with h | h <;> cases h), (fun h => by cases h)⟩
  · have hp : p ∈ List.replicate k (PqP.idle 0) := hp
    rw [(List.mem_replicate.1 hp).2]; exact Or.inl rfl

end Go.Proofs.Ytbcppehpfckgoaa.Z

/- Law 14: the statement PqExcludes. Written by genmat.py. -/
set_option linter.unusedVariables false
set_option linter.unusedSimpArgs false
namespace Go.Proofs.Ytbcppehpfckgoaa.Z
open Go.RowKit

theorem pqExcludes_any {B : Option Addr} {m d : Nat} {l : List (Int × Int)} (n mode base : Int) (w : World) (hn : 0 ≤ n ∧ n < 256) (hm : 0 ≤ mode ∧ mode < 256) (hb : 0 ≤ base ∧ base < 4294967296) (hB : Rd w 2 B m (l.flatMap turnDec)) (hl : ∀ x, x ∈ l → (0 ≤ x.1 ∧ x.1 < 256) ∧ (0 ≤ x.2 ∧ x.2 < 256)) :
    Calls Try.prog 10 #[.int .u8 n, .int .u8 mode, .int .u32 base, .slice B m d] w fun e w' => e = .returned (.bool true) ∧ Touch [] w w' := by
  by_cases h5 : m ≤ 500
  · exact pq_excludes_some n mode base l w hn hm hb hB hl h5 (fun k hk => pq_excludes k (1 + mode % 2) base (by omega) (by omega) (by omega) hb l (by rw [turn_len hB]; exact h5))
  · exact pq_excludes_long n mode base w hn hm hb (by omega)

end Go.Proofs.Ytbcppehpfckgoaa.Z
