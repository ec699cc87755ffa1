/- 2 texts of this claim, joined: what each shows stands at its own head. -/
import Derived.Test.YtdffdppkdbbdoaaZM24RfTogether
import Derived.Test.YtdffdppkdbbdoaaZM20RfTogether
/- The lock in which readers go first: its operations, each by itself. No program is in sight. -/
set_option linter.unusedVariables false
set_option linter.unusedSimpArgs false
namespace Go.Proofs.Ytdffdppkdbbdoaa.Z
open Go.RowKit

/-- The word, and nothing besides. -/
def Wd (N : Nat) (x : Int) : List Int := x :: List.replicate N 0
theorem wd_len (N : Nat) (x : Int) : (Wd N x).length = N + 1 := by simp [Wd]
theorem wd_load (N : Nat) (x : Int) : doA (Wd N x) ⟨1, 0, 0, 0, 0⟩ = (⟨1, 0, 0, 0, x⟩, true, Wd N x) := by
  unfold doA
  rw [if_pos (by rw [wd_len]; simp)]
  simp [Wd]
theorem wd_add (N : Nat) (x y : Int) : doA (Wd N x) ⟨3, 0, y, 0, 0⟩ = (⟨3, 0, y, 0, x⟩, true, Wd N ((x + y) % 4294967296)) := by
  unfold doA
  rw [if_pos (by rw [wd_len]; simp)]
  simp [Wd]
theorem wd_cas (N : Nat) (x u v : Int) : doA (Wd N x) ⟨5, 0, u, v, 0⟩ = (⟨5, 0, u, v, x⟩, true, if x = u then Wd N v else Wd N x) := by
  unfold doA
  rw [if_pos (by rw [wd_len]; simp)]
  by_cases h : x = u
  · simp [Wd, h]
  · simp [Wd, h]
theorem wd_casB (N : Nat) (x u v : Int) : casB (Wd N x) 0 u v = (x == u) := by
  unfold casB
  rw [wd_cas]
  simp
theorem wd_nowatch (n : Int) (h1 : 1 ≤ n) (h2 : n ≤ 64) (x : Int) : NoWatch n 0 (Wd ((8 + 4 * n).toNat - 1) x) := by
  intro i h0 hi
  have hc : cellP n 2 i = 8 + 2 * n + i := by unfold cellP; rw [if_pos (by omega)]
  have hlt : 0 ≤ 8 + 2 * n + i ∧ 8 + 2 * n + i < ((Wd ((8 + 4 * n).toNat - 1) x).length : Int) := by rw [wd_len]; omega
  obtain ⟨j, hj⟩ : ∃ j : Nat, (8 + 2 * n + i).toNat = j + 1 := ⟨(8 + 2 * n + i).toNat - 1, by omega⟩
  have hg : (Wd ((8 + 4 * n).toNat - 1) x).getD (8 + 2 * n + i).toNat 0 = 0 := by
    rw [hj]
    show (List.replicate _ (0 : Int)).getD j 0 = 0
    rw [List.getD_eq_getElem?_getD, List.getElem?_replicate]
    split <;> rfl
  rw [hc]
  unfold doA
  rw [if_pos hlt]
  refine ⟨by simp, ?_⟩
  simp only [if_true]
  rw [hg]
  decide

/-- A step that ends an operation with true, and begins a wake-up: behind the wake-up the operation is over. -/
theorem alone_ends (g : Rn → Rn) (s0 s1 : Rn) (most : Nat) (hs : stepR g s0 = s1) (hr : s1.f.ret = 2) (hk : s1.f.wk = beginA s1.mode 0) (h1 : 1 ≤ s1.n) (hc : NoWatch s1.n 0 s1.L) (hm : s1.n.toNat + 1 ≤ most) :
    ∃ s, aloneA g most s0 = (2, s) ∧ s.L = s1.L := by
  obtain ⟨most, rfl⟩ : ∃ j, most = j + 1 := ⟨most - 1, by omega⟩
  have hgo : aloneA g (most + 1) s0 = if s1.over then (s1.f.ret, s1) else aloneA g most s1 := by rw [← hs]; rfl
  by_cases h2 : s1.mode = 2
  · have hk2 : s1.f.wk = ⟨true, 0, 0, false⟩ := by rw [hk]; unfold beginA; rw [if_pos h2]
    obtain ⟨s', _, _, k3, _, k5, _⟩ := alone_wakes g 0 s1.n.toNat s1 0 most hk2 (Int.le_refl _) (by omega) (by omega) hc (by omega)
    refine ⟨s', ?_, k3⟩
    rw [hgo, if_neg (by unfold Rn.over; rw [hk2]; simp), k5 (by rw [hr]; decide), hr]
  · have hk2 : s1.f.wk = Wk.zero := by rw [hk]; unfold beginA; rw [if_neg h2]
    refine ⟨s1, ?_, rfl⟩
    rw [hgo, if_pos (by unfold Rn.over; rw [hk2, hr]; rfl), hr]

theorem rfIn_0 : rfIn 0 = false := by decide +kernel
theorem rfIn_1 : rfIn 1 = false := by decide +kernel
theorem rfIn_w : rfIn 65536 = true := by decide +kernel

section
variable (n mode : Int) (N most : Nat)
theorem op_rlock (x : Int) (hx : rfIn x = false) : ∃ s, aloneA rfA (most + 1) (start n mode 1 (Wd N x)) = (2, s) ∧ s.L = Wd N ((x + 1) % 4294967296) := by
  simp [aloneA, stepR, start, Rn.fresh, Rn.over, rfA, rf10, wd_add, hx, Wk.zero, Rn.did, Rn.setA, Rn.note, Rn.ends, Rn.noted, Rn.fin]
theorem op_lock : ∃ s, aloneA rfA (most + 2) (start n mode 3 (Wd N 0)) = (2, s) ∧ s.L = Wd N 65536 := by
  simp [aloneA, stepR, start, Rn.fresh, Rn.over, rfA, rf30, rf31, wd_load, wd_cas, wd_casB, Wk.zero, Rn.did, Rn.setA, Rn.note, Rn.goto, Rn.ends, Rn.noted, Rn.fin]
theorem op_tryr (x : Int) (hx : rfIn x = false) : ∃ s, aloneA rfA (most + 2) (start n mode 5 (Wd N x)) = (2, s) ∧ s.L = Wd N ((x + 1) % 4294967296) := by
  simp [aloneA, stepR, start, Rn.fresh, Rn.over, rfA, rf50, rf51, wd_load, wd_cas, wd_casB, hx, Wk.zero, Rn.chosen, Rn.swapped, Rn.did, Rn.setA, Rn.note, Rn.goto, Rn.ends, Rn.noted, Rn.fin]
theorem op_tryr_no (x : Int) (hx : rfIn x = true) : ∃ s, aloneA rfA (most + 1) (start n mode 5 (Wd N x)) = (1, s) ∧ s.L = Wd N x := by
  simp [aloneA, stepR, start, Rn.fresh, Rn.over, rfA, rf50, wd_load, hx, Wk.zero, Rn.chosen, Rn.refused, Rn.did, Rn.setA, Rn.note, Rn.goto, Rn.fin]
theorem op_tryw : ∃ s, aloneA rfA (most + 2) (start n mode 6 (Wd N 0)) = (2, s) ∧ s.L = Wd N 65536 := by
  simp [aloneA, stepR, start, Rn.fresh, Rn.over, rfA, rf60, rf61, wd_load, wd_cas, wd_casB, Wk.zero, Rn.chosen, Rn.swapped, Rn.did, Rn.setA, Rn.note, Rn.goto, Rn.ends, Rn.noted, Rn.fin]
theorem op_tryw_no (x : Int) (hx : x ≠ 0) : ∃ s, aloneA rfA (most + 1) (start n mode 6 (Wd N x)) = (1, s) ∧ s.L = Wd N x := by
  simp [aloneA, stepR, start, Rn.fresh, Rn.over, rfA, rf60, wd_load, hx, Wk.zero, Rn.chosen, Rn.refused, Rn.did, Rn.setA, Rn.note, Rn.goto, Rn.fin]
theorem op_up : ∃ s, aloneA rfA (most + 2) (start n mode 7 (Wd N 1)) = (2, s) ∧ s.L = Wd N 65536 := by
  simp [aloneA, stepR, start, Rn.fresh, Rn.over, rfA, rf70, rf71, wd_load, wd_cas, wd_casB, Wk.zero, Rn.chosen, Rn.swapped, Rn.did, Rn.setA, Rn.note, Rn.goto, Rn.ends, Rn.noted, Rn.fin]
end

section
variable (n mode : Int) (most : Nat)
theorem op_runlock (h1 : 1 ≤ n) (h2 : n ≤ 64) (hm : n.toNat + 1 ≤ most) (x : Int) : ∃ s, aloneA rfA most (start n mode 2 (Wd ((8 + 4 * n).toNat - 1) x)) = (2, s) ∧ s.L = Wd ((8 + 4 * n).toNat - 1) ((x + 4294967295) % 4294967296) := by
  obtain ⟨s1, e1⟩ : ∃ s1, stepR rfA (start n mode 2 (Wd ((8 + 4 * n).toNat - 1) x)) = s1 := ⟨_, rfl⟩
  have e2 := e1
  simp [stepR, start, Rn.fresh, rfA, rf20, wd_add, Wk.zero, Rn.did, Rn.note, Rn.ends, Rn.noted, Rn.fin, Rn.wake] at e2
  subst e2
  exact alone_ends rfA _ _ most e1 rfl rfl h1 (wd_nowatch n h1 h2 _) hm
theorem op_unlock (h1 : 1 ≤ n) (h2 : n ≤ 64) (hm : n.toNat + 1 ≤ most) (x : Int) : ∃ s, aloneA rfA most (start n mode 4 (Wd ((8 + 4 * n).toNat - 1) x)) = (2, s) ∧ s.L = Wd ((8 + 4 * n).toNat - 1) ((x + 4294901760) % 4294967296) := by
  obtain ⟨s1, e1⟩ : ∃ s1, stepR rfA (start n mode 4 (Wd ((8 + 4 * n).toNat - 1) x)) = s1 := ⟨_, rfl⟩
  have e2 := e1
  simp [stepR, start, Rn.fresh, rfA, rf40, wd_add, Wk.zero, Rn.did, Rn.note, Rn.ends, Rn.noted, Rn.fin, Rn.wake] at e2
  subst e2
  exact alone_ends rfA _ _ most e1 rfl rfl h1 (wd_nowatch n h1 h2 _) hm
theorem op_down (h1 : 1 ≤ n) (h2 : n ≤ 64) (hm : n.toNat + 1 ≤ most) (x : Int) : ∃ s, aloneA rfA most (start n mode 8 (Wd ((8 + 4 * n).toNat - 1) x)) = (2, s) ∧ s.L = Wd ((8 + 4 * n).toNat - 1) ((x + 4294901761) % 4294967296) := by
  obtain ⟨s1, e1⟩ : ∃ s1, stepR rfA (start n mode 8 (Wd ((8 + 4 * n).toNat - 1) x)) = s1 := ⟨_, rfl⟩
  have e2 := e1
  simp [stepR, start, Rn.fresh, rfA, rf80, wd_add, Wk.zero, Rn.did, Rn.note, Rn.ends, Rn.noted, Rn.fin, Rn.wake] at e2
  subst e2
  exact alone_ends rfA _ _ most e1 rfl rfl h1 (wd_nowatch n h1 h2 _) hm
end

/-- The lists of operations that the statement asks. -/
def rfLists : List (List Int) := [[1, 2], [3, 4], [5, 2], [6, 4], [3, 8, 2], [1, 7, 4], [6, 8, 7, 4]]

/-- The word is 0. -/
def rfEnd (base : Int) (E : List Int) : Prop := ldA E 0 = 0

/-- BY ITSELF EACH OPERATION ENDS WITH TRUE; THE WORD IS 0 AGAIN. -/
theorem rf_runs (n mode : Int) (most : Nat) (h1 : 1 ≤ n) (h2 : n ≤ 64) (hm : n.toNat + 2 ≤ most) : ∀ l, l ∈ rfLists → Runs rfA n mode most l (Wd ((8 + 4 * n).toNat - 1) 0) (Wd ((8 + 4 * n).toNat - 1) 0) := by
  obtain ⟨q, rfl⟩ : ∃ q, most = q + 2 := ⟨most - 2, by omega⟩
  have hq : n.toNat + 1 ≤ q + 2 := by omega
  have a1 := op_rlock n mode ((8 + 4 * n).toNat - 1) (q + 1) 0 rfIn_0
  have a2 := op_runlock n mode (q + 2) h1 h2 hq 1
  have a3 := op_lock n mode ((8 + 4 * n).toNat - 1) q
  have a4 := op_unlock n mode (q + 2) h1 h2 hq 65536
  have a5 := op_tryr n mode ((8 + 4 * n).toNat - 1) q 0 rfIn_0
  have a6 := op_tryw n mode ((8 + 4 * n).toNat - 1) q
  have a7 := op_up n mode ((8 + 4 * n).toNat - 1) q
  have a8 := op_down n mode (q + 2) h1 h2 hq 65536
  simp only [show ((0 : Int) + 1) % 4294967296 = 1 from rfl, show ((1 : Int) + 4294967295) % 4294967296 = 0 from rfl, show ((65536 : Int) + 4294901760) % 4294967296 = 0 from rfl, show ((65536 : Int) + 4294901761) % 4294967296 = 1 from rfl] at a1 a2 a4 a5 a8
  obtain ⟨s1, b1, c1⟩ := a1
  obtain ⟨s2, b2, c2⟩ := a2
  obtain ⟨s3, b3, c3⟩ := a3
  obtain ⟨s4, b4, c4⟩ := a4
  obtain ⟨s5, b5, c5⟩ := a5
  obtain ⟨s6, b6, c6⟩ := a6
  obtain ⟨s7, b7, c7⟩ := a7
  obtain ⟨s8, b8, c8⟩ := a8
  intro l hl
  simp only [rfLists, List.mem_cons, List.not_mem_nil, or_false] at hl
  rcases hl with rfl | rfl | rfl | rfl | rfl | rfl | rfl
  · exact ⟨s1, b1, by rw [c1]; exact ⟨s2, b2, c2⟩⟩
  · exact ⟨s3, b3, by rw [c3]; exact ⟨s4, b4, c4⟩⟩
  · exact ⟨s5, b5, by rw [c5]; exact ⟨s2, b2, c2⟩⟩
  · exact ⟨s6, b6, by rw [c6]; exact ⟨s4, b4, c4⟩⟩
  · exact ⟨s3, b3, by rw [c3]; exact ⟨s8, b8, by rw [c8]; exact ⟨s2, b2, c2⟩⟩⟩
  · exact ⟨s1, b1, by rw [c1]; exact ⟨s7, b7, by rw [c7]; exact ⟨s4, b4, c4⟩⟩⟩
  · exact ⟨s6, b6, by rw [c6]; exact ⟨s8, b8, by rw [c8]; exact ⟨s7, b7, by rw [c7]; exact ⟨s4, b4, c4⟩⟩⟩⟩

/-- What one holds, what is tried, what that tells, what gives back. -/
def rfTry : List (Int × Int × Int × Int) := [(3, 5, 1, 4), (3, 6, 1, 4), (1, 6, 1, 2), (1, 5, 2, 2)]

/-- WHILE ONE HOLDS WHAT CONFLICTS A TRY IS REFUSED, AND NOTHING IS LEFT OF IT. -/
theorem rf_tries (n mode : Int) (most : Nat) (h1 : 1 ≤ n) (h2 : n ≤ 64) (hm : n.toNat + 2 ≤ most) : ∀ x0 x1 x2 x3, (x0, x1, x2, x3) ∈ rfTry → ∃ s1 s2 s3, aloneA rfA most (start n mode x0 (Wd ((8 + 4 * n).toNat - 1) 0)) = (2, s1) ∧ aloneA rfA most (start n mode x1 s1.L) = (x2, s2) ∧
    aloneA rfA most (start n mode x3 s2.L) = (2, s3) ∧ (x2 = 1 → ∃ s4, aloneA rfA most (start n mode 6 s3.L) = (2, s4)) := by
  obtain ⟨q, rfl⟩ : ∃ q, most = q + 2 := ⟨most - 2, by omega⟩
  have hq : n.toNat + 1 ≤ q + 2 := by omega
  have a1 := op_rlock n mode ((8 + 4 * n).toNat - 1) (q + 1) 0 rfIn_0
  have a2 := op_runlock n mode (q + 2) h1 h2 hq 1
  have a2' := op_runlock n mode (q + 2) h1 h2 hq 2
  have a3 := op_lock n mode ((8 + 4 * n).toNat - 1) q
  have a4 := op_unlock n mode (q + 2) h1 h2 hq 65536
  have a5 := op_tryr n mode ((8 + 4 * n).toNat - 1) q 1 rfIn_1
  have a5' := op_tryr_no n mode ((8 + 4 * n).toNat - 1) (q + 1) 65536 rfIn_w
  have a6 := op_tryw n mode ((8 + 4 * n).toNat - 1) q
  have a6' := op_tryw_no n mode ((8 + 4 * n).toNat - 1) (q + 1) 65536 (by decide)
  have a6'' := op_tryw_no n mode ((8 + 4 * n).toNat - 1) (q + 1) 1 (by decide)
  simp only [show ((0 : Int) + 1) % 4294967296 = 1 from rfl, show ((1 : Int) + 1) % 4294967296 = 2 from rfl, show ((1 : Int) + 4294967295) % 4294967296 = 0 from rfl, show ((2 : Int) + 4294967295) % 4294967296 = 1 from rfl, show ((65536 : Int) + 4294901760) % 4294967296 = 0 from rfl] at a1 a2 a2' a4 a5
  obtain ⟨s1, b1, c1⟩ := a1
  obtain ⟨s2, b2, c2⟩ := a2
  obtain ⟨t2, d2, e2⟩ := a2'
  obtain ⟨s3, b3, c3⟩ := a3
  obtain ⟨s4, b4, c4⟩ := a4
  obtain ⟨s5, b5, c5⟩ := a5
  obtain ⟨t5, d5, e5⟩ := a5'
  obtain ⟨s6, b6, c6⟩ := a6
  obtain ⟨t6, d6, e6⟩ := a6'
  obtain ⟨u6, f6, g6⟩ := a6''
  intro x0 x1 x2 x3 hx
  simp only [rfTry, List.mem_cons, List.not_mem_nil, or_false, Prod.mk.injEq] at hx
  rcases hx with ⟨rfl, rfl, rfl, rfl⟩ | ⟨rfl, rfl, rfl, rfl⟩ | ⟨rfl, rfl, rfl, rfl⟩ | ⟨rfl, rfl, rfl, rfl⟩
  · exact ⟨s3, t5, s4, b3, by rw [c3]; exact d5, by rw [e5]; exact b4, fun _ => ⟨s6, by rw [c4]; exact b6⟩⟩
  · exact ⟨s3, t6, s4, b3, by rw [c3]; exact d6, by rw [e6]; exact b4, fun _ => ⟨s6, by rw [c4]; exact b6⟩⟩
  · exact ⟨s1, u6, s2, b1, by rw [c1]; exact f6, by rw [g6]; exact b2, fun _ => ⟨s6, by rw [c2]; exact b6⟩⟩
  · exact ⟨s1, s5, t2, b1, by rw [c1]; exact b5, by rw [c5]; exact d2, fun h => absurd h (by decide)⟩

end Go.Proofs.Ytdffdppkdbbdoaa.Z

/- A lock's operation by itself, line by line. No program is in sight but the model's words. -/
set_option linter.unusedVariables false
set_option linter.unusedSimpArgs false
namespace Go.Proofs.Ytdffdppkdbbdoaa.Z
open Go.RowKit

/-- A run at a line, afresh. -/
def RnF (n mode op line a b : Int) (L : List Int) : Rn := ⟨n, mode, 0, ⟨op, line, a, b, 0, Wk.zero, 0⟩, Acc.zero, [], L⟩
def At (n mode : Int) (s : Rn) (op line a b : Int) (L : List Int) : Prop := s.fresh = RnF n mode op line a b L

section
variable {n mode : Int} {s s1 : Rn} {op line a b line' a' b' : Int} {L L' : List Int} {g : Rn → Rn}
theorem At.wk (h : At n mode s op line a b L) : s.f.wk = Wk.zero := congrArg (fun x => x.f.wk) h
theorem At.ret (h : At n mode s op line a b L) : s.f.ret = 0 := congrArg (fun x => x.f.ret) h
theorem At.over (h : At n mode s op line a b L) : s.over = false := by unfold Rn.over; rw [h.ret]; rfl
theorem At.step (h : At n mode s op line a b L) : stepR g s = g (RnF n mode op line a b L) := by
  unfold stepR
  rw [h.wk]
  show g s.fresh = _
  rw [show s.fresh = _ from h]
theorem start_at : At n mode (start n mode op L) op 0 0 0 L := rfl

/-- A line, and on. -/
theorem At.go (h : At n mode s op line a b L) (hg : g (RnF n mode op line a b L) = s1) (h1 : At n mode s1 op line' a' b' L') (q : Nat) : aloneA g (q + 1) s = aloneA g q s1 := by
  show (if (stepR g s).over then ((stepR g s).f.ret, stepR g s) else aloneA g q (stepR g s)) = _
  rw [h.step, hg, h1.over]
  rfl
/-- A line that ends the operation. -/
theorem At.fin (h : At n mode s op line a b L) (hg : g (RnF n mode op line a b L) = s1) (hr : s1.f.ret ≠ 0) (hk : s1.f.wk = Wk.zero) (q : Nat) : aloneA g (q + 1) s = (s1.f.ret, s1) := by
  show (if (stepR g s).over then ((stepR g s).f.ret, stepR g s) else aloneA g q (stepR g s)) = _
  rw [h.step, hg, if_pos (by unfold Rn.over; rw [hk]; simpa [Wk.zero] using hr)]
theorem At.fin2 (h : At n mode s op line a b L) (hg : g (RnF n mode op line a b L) = s1) (hr : s1.f.ret ≠ 0) (hk : s1.f.wk = Wk.zero) (q : Nat) : ∃ s', aloneA g (q + 1) s = (s1.f.ret, s') ∧ s'.L = s1.L := ⟨s1, h.fin hg hr hk q, rfl⟩
/-- A line that ends the operation, and begins a wake-up. -/
theorem At.ends (h : At n mode s op line a b L) (c : Int) (hg : g (RnF n mode op line a b L) = s1) (hr : s1.f.ret ≠ 0) (hk : s1.f.wk = beginA mode c) (hn : s1.n = n) (h1 : 1 ≤ n) (hc : NoWatch n c s1.L) (q : Nat) :
    ∃ s', aloneA g (q + n.toNat + 1) s = (s1.f.ret, s') ∧ s'.L = s1.L := by
  have hgo : aloneA g (q + n.toNat + 1) s = if s1.over then (s1.f.ret, s1) else aloneA g (q + n.toNat) s1 := by
    show (if (stepR g s).over then ((stepR g s).f.ret, stepR g s) else aloneA g (q + n.toNat) (stepR g s)) = _
    rw [h.step, hg]
  by_cases h2 : mode = 2
  · have hk2 : s1.f.wk = ⟨true, c, 0, false⟩ := by rw [hk]; unfold beginA; rw [if_pos h2]
    obtain ⟨s', _, _, k3, _, k5, _⟩ := alone_wakes g c n.toNat s1 0 (q + n.toNat) hk2 (Int.le_refl _) (by omega) (by omega) (by rw [hn]; exact hc) (by omega)
    refine ⟨s', ?_, k3⟩
    rw [hgo, if_neg (by unfold Rn.over; rw [hk2]; simp), k5 hr]
  · have hk2 : s1.f.wk = Wk.zero := by rw [hk]; unfold beginA; rw [if_neg h2]
    refine ⟨s1, ?_, rfl⟩
    rw [hgo, if_pos (by unfold Rn.over; rw [hk2]; simpa [Wk.zero] using hr)]
/-- A line that begins a wake-up, behind which the operation goes on. -/
theorem At.wakes (h : At n mode s op line a b L) (c : Int) (hg : g (RnF n mode op line a b L) = s1) (hr : s1.rests = RnF n mode op line' a' b' L') (hk : s1.f.wk = beginA mode c) (h1 : 1 ≤ n) (hc : NoWatch n c L') (q : Nat) :
    ∃ s' q', At n mode s' op line' a' b' L' ∧ q ≤ q' ∧ aloneA g (q + n.toNat + 1) s = aloneA g q' s' := by
  have hL : s1.L = L' := congrArg (fun x => x.L) hr
  have hn : s1.n = n := congrArg (fun x => x.n) hr
  have hret : s1.f.ret = 0 := congrArg (fun x => x.f.ret) hr
  have hgo : aloneA g (q + n.toNat + 1) s = if s1.over then (s1.f.ret, s1) else aloneA g (q + n.toNat) s1 := by
    show (if (stepR g s).over then ((stepR g s).f.ret, stepR g s) else aloneA g (q + n.toNat) (stepR g s)) = _
    rw [h.step, hg]
  have hov : s1.over = false := by unfold Rn.over; rw [hret]; rfl
  rw [hov] at hgo
  by_cases h2 : mode = 2
  · have hk2 : s1.f.wk = ⟨true, c, 0, false⟩ := by rw [hk]; unfold beginA; rw [if_pos h2]
    obtain ⟨s', k1, _, _, _, _, k6⟩ := alone_wakes g c n.toNat s1 0 (q + n.toNat) hk2 (Int.le_refl _) (by omega) (by omega) (by rw [hn, hL]; exact hc) (by omega)
    refine ⟨s', q, k1.trans hr, Nat.le_refl _, ?_⟩
    rw [hgo]
    have := k6 hret
    rw [Nat.add_sub_cancel] at this
    exact this
  · have hk2 : s1.f.wk = Wk.zero := by rw [hk]; unfold beginA; rw [if_neg h2]
    refine ⟨s1, q + n.toNat, ?_, by omega, hgo⟩
    unfold At
    rw [← hr]
    unfold Rn.fresh Rn.rests
    rw [← hk2]
end

theorem stageA_0 (mode : Int) : stageA mode 0 = 0 := by unfold stageA; split <;> rfl
/-- What is waited for holds. -/
theorem wait_hit {L : List Int} {n mode task c : Int} {p : Int → Bool} (h : p (doA L ⟨1, c, 0, 0, 0⟩).1.old = true) : waitA L n mode task 0 c p = ⟨0, (doA L ⟨1, c, 0, 0, 0⟩).1, true, true, L⟩ := by
  rw [waitA0 (stageA_0 mode), h]
  rfl

end Go.Proofs.Ytdffdppkdbbdoaa.Z
