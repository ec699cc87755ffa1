/- 6 texts of this claim, joined: what each shows stands at its own head. -/
import Derived.Test.YtdffdppkdbbdoaaZAlone
import Derived.Test.YtdffdppkdbbdoaaZTfFine
import Derived.Test.YtdffdppkdbbdoaaZMat2
import Derived.Test.YtdffdppkdbbdoaaZM00TfTogether
import Derived.Test.YtdffdppkdbbdoaaZRead
import Derived.ProofKit
import Derived.OpenShut
import Derived.ChangeOld
import Derived.SizedLaws
import Derived.Deep.Slices
/- A lock's operation by itself, line by line. No program is in sight but the model's words. -/
set_option linter.unusedVariables false
set_option linter.unusedSimpArgs false
namespace Go.Proofs.Ytdffdppkdbbdoaa.Z
open Go.RowKit

/-- A run at a line, afresh. -/
def RnF (n mode op line a b : Int) (L : List Int) : Rn := ⟨n, mode, 0, ⟨op, line, a, b, 0, Wk.zero, 0⟩, Acc.zero, [], L⟩
def At (n mode : Int) (s : Rn) (op line a b : Int) (L : List Int) : Prop := s.fresh = RnF n mode op line a b L

section
variable {n mode : Int} {s s1 : Rn} {op line a b line' a' b' : Int} {L L' : List Int} {g : Rn → Rn}
theorem At.wk (h : At n mode s op line a b L) : s.f.wk = Wk.zero := congrArg (fun x => x.f.wk) h
theorem At.ret (h : At n mode s op line a b L) : s.f.ret = 0 := congrArg (fun x => x.f.ret) h
theorem At.over (h : At n mode s op line a b L) : s.over = false := by unfold Rn.over; rw [h.ret]; rfl
theorem At.step (h : At n mode s op line a b L) : stepR g s = g (RnF n mode op line a b L) := by
  unfold stepR
  rw [h.wk]
  show g s.fresh = _
  rw [show s.fresh = _ from h]
theorem start_at : At n mode (start n mode op L) op 0 0 0 L := rfl

/-- A line, and on. -/
theorem At.go (h : At n mode s op line a b L) (hg : g (RnF n mode op line a b L) = s1) (h1 : At n mode s1 op line' a' b' L') (q : Nat) : aloneA g (q + 1) s = aloneA g q s1 := by
  show (if (stepR g s).over then ((stepR g s).f.ret, stepR g s) else aloneA g q (stepR g s)) = _
  rw [h.step, hg, h1.over]
  rfl
/-- A line that ends the operation. -/
theorem At.fin (h : At n mode s op line a b L) (hg : g (RnF n mode op line a b L) = s1) (hr : s1.f.ret ≠ 0) (hk : s1.f.wk = Wk.zero) (q : Nat) : aloneA g (q + 1) s = (s1.f.ret, s1) := by
  show (if (stepR g s).over then ((stepR g s).f.ret, stepR g s) else aloneA g q (stepR g s)) = _
  rw [h.step, hg, if_pos (by unfold Rn.over; rw [hk]; simpa [Wk.zero] using hr)]
theorem At.fin2 (h : At n mode s op line a b L) (hg : g (RnF n mode op line a b L) = s1) (hr : s1.f.ret ≠ 0) (hk : s1.f.wk = Wk.zero) (q : Nat) : ∃ s', aloneA g (q + 1) s = (s1.f.ret, s') ∧ s'.L = s1.L := ⟨s1, h.fin hg hr hk q, rfl⟩
/-- A line that ends the operation, and begins a wake-up. -/
theorem At.ends (h : At n mode s op line a b L) (c : Int) (hg : g (RnF n mode op line a b L) = s1) (hr : s1.f.ret ≠ 0) (hk : s1.f.wk = beginA mode c) (hn : s1.n = n) (h1 : 1 ≤ n) (hc : NoWatch n c s1.L) (q : Nat) :
    ∃ s', aloneA g (q + n.toNat + 1) s = (s1.f.ret, s') ∧ s'.L = s1.L := by
  have hgo : aloneA g (q + n.toNat + 1) s = if s1.over then (s1.f.ret, s1) else aloneA g (q + n.toNat) s1 := by
    show (if (stepR g s).over then ((stepR g s).f.ret, stepR g s) else aloneA g (q + n.toNat) (stepR g s)) = _
    rw [h.step, hg]
  by_cases h2 : mode = 2
  · have hk2 : s1.f.wk = ⟨true, c, 0, false⟩ := by rw [hk]; unfold beginA; rw [if_pos h2]
    obtain ⟨s', _, _, k3, _, k5, _⟩ := alone_wakes g c n.toNat s1 0 (q + n.toNat) hk2 (Int.le_refl _) (by omega) (by omega) (by rw [hn]; exact hc) (by omega)
    refine ⟨s', ?_, k3⟩
    rw [hgo, if_neg (by unfold Rn.over; rw [hk2]; simp), k5 hr]
  · have hk2 : s1.f.wk = Wk.zero := by rw [hk]; unfold beginA; rw [if_neg h2]
    refine ⟨s1, ?_, rfl⟩
    rw [hgo, if_pos (by unfold Rn.over; rw [hk2]; simpa [Wk.zero] using hr)]
/-- A line that begins a wake-up, behind which the operation goes on. -/
theorem At.wakes (h : At n mode s op line a b L) (c : Int) (hg : g (RnF n mode op line a b L) = s1) (hr : s1.rests = RnF n mode op line' a' b' L') (hk : s1.f.wk = beginA mode c) (h1 : 1 ≤ n) (hc : NoWatch n c L') (q : Nat) :
    ∃ s' q', At n mode s' op line' a' b' L' ∧ q ≤ q' ∧ aloneA g (q + n.toNat + 1) s = aloneA g q' s' := by
  have hL : s1.L = L' := congrArg (fun x => x.L) hr
  have hn : s1.n = n := congrArg (fun x => x.n) hr
  have hret : s1.f.ret = 0 := congrArg (fun x => x.f.ret) hr
  have hgo : aloneA g (q + n.toNat + 1) s = if s1.over then (s1.f.ret, s1) else aloneA g (q + n.toNat) s1 := by
    show (if (stepR g s).over then ((stepR g s).f.ret, stepR g s) else aloneA g (q + n.toNat) (stepR g s)) = _
    rw [h.step, hg]
  have hov : s1.over = false := by unfold Rn.over; rw [hret]; rfl
  rw [hov] at hgo
  by_cases h2 : mode = 2
  · have hk2 : s1.f.wk = ⟨true, c, 0, false⟩ := by rw [hk]; unfold beginA; rw [if_pos h2]
    obtain ⟨s', k1, _, _, _, _, k6⟩ := alone_wakes g c n.toNat s1 0 (q + n.toNat) hk2 (Int.le_refl _) (by omega) (by omega) (by rw [hn, hL]; exact hc) (by omega)
    refine ⟨s', q, k1.trans hr, Nat.le_refl _, ?_⟩
    rw [hgo]
    have := k6 hret
    rw [Nat.add_sub_cancel] at this
    exact this
  · have hk2 : s1.f.wk = Wk.zero := by rw [hk]; unfold beginA; rw [if_neg h2]
    refine ⟨s1, q + n.toNat, ?_, by omega, hgo⟩
    unfold At
    rw [← hr]
    unfold Rn.fresh Rn.rests
    rw [← hk2]
end

theorem stageA_0 (mode : Int) : stageA mode 0 = 0 := by unfold stageA; split <;> rfl
/-- What is waited for holds. -/
theorem wait_hit {L : List Int} {n mode task c : Int} {p : Int → Bool} (h : p (doA L ⟨1, c, 0, 0, 0⟩).1.old = true) : waitA L n mode task 0 c p = ⟨0, (doA L ⟨1, c, 0, 0, 0⟩).1, true, true, L⟩ := by
  rw [waitA0 (stageA_0 mode), h]
  rfl

end Go.Proofs.Ytdffdppkdbbdoaa.Z

/- The task-fair lock: its operations, each by itself. No program is in sight. -/
set_option linter.unusedVariables false
set_option linter.unusedSimpArgs false
namespace Go.Proofs.Ytdffdppkdbbdoaa.Z
open Go.RowKit

/-- The three cells, and nothing besides. -/
def T3 (N : Nat) (u r w : Int) : List Int := u :: r :: w :: List.replicate N 0
theorem t3_len (N : Nat) (u r w : Int) : (T3 N u r w).length = N + 3 := by simp [T3]
section
variable (N : Nat) (u r w : Int)
theorem t3_ld0 : doA (T3 N u r w) ⟨1, 0, 0, 0, 0⟩ = (⟨1, 0, 0, 0, u⟩, true, T3 N u r w) := by
  unfold doA
  rw [if_pos (by rw [t3_len]; dsimp only; omega)]
  simp [T3]
theorem t3_ld1 : doA (T3 N u r w) ⟨1, 1, 0, 0, 0⟩ = (⟨1, 1, 0, 0, r⟩, true, T3 N u r w) := by
  unfold doA
  rw [if_pos (by rw [t3_len]; dsimp only; omega)]
  simp [T3]
theorem t3_ld2 : doA (T3 N u r w) ⟨1, 2, 0, 0, 0⟩ = (⟨1, 2, 0, 0, w⟩, true, T3 N u r w) := by
  unfold doA
  rw [if_pos (by rw [t3_len]; dsimp only; omega)]
  simp [T3]
theorem t3_add0 : doA (T3 N u r w) ⟨3, 0, 1, 0, 0⟩ = (⟨3, 0, 1, 0, u⟩, true, T3 N ((u + 1) % 4294967296) r w) := by
  unfold doA
  rw [if_pos (by rw [t3_len]; dsimp only; omega)]
  simp [T3]
theorem t3_add1 : doA (T3 N u r w) ⟨3, 1, 1, 0, 0⟩ = (⟨3, 1, 1, 0, r⟩, true, T3 N u ((r + 1) % 4294967296) w) := by
  unfold doA
  rw [if_pos (by rw [t3_len]; dsimp only; omega)]
  simp [T3]
theorem t3_add2 : doA (T3 N u r w) ⟨3, 2, 1, 0, 0⟩ = (⟨3, 2, 1, 0, w⟩, true, T3 N u r ((w + 1) % 4294967296)) := by
  unfold doA
  rw [if_pos (by rw [t3_len]; dsimp only; omega)]
  simp [T3]
theorem t3_cas (x y : Int) : doA (T3 N u r w) ⟨5, 0, x, y, 0⟩ = (⟨5, 0, x, y, u⟩, true, if u = x then T3 N y r w else T3 N u r w) := by
  unfold doA
  rw [if_pos (by rw [t3_len]; dsimp only; omega)]
  by_cases h : u = x
  · simp [T3, h]
  · simp [T3, h]
theorem t3_casB (x y : Int) : casB (T3 N u r w) 0 x y = (u == x) := by
  unfold casB
  rw [t3_cas]
  simp
theorem t3_wait1 (n mode : Int) : waitA (T3 N u r w) n mode 0 0 1 (fun v => v == r) = ⟨0, ⟨1, 1, 0, 0, r⟩, true, true, T3 N u r w⟩ := by
  rw [wait_hit (by rw [t3_ld1]; simp), t3_ld1]
theorem t3_wait2 (n mode : Int) : waitA (T3 N u r w) n mode 0 0 2 (fun v => v == w) = ⟨0, ⟨1, 2, 0, 0, w⟩, true, true, T3 N u r w⟩ := by
  rw [wait_hit (by rw [t3_ld2]; simp), t3_ld2]
end
theorem t3_nowatch (n c : Int) (h1 : 1 ≤ n) (h2 : n ≤ 64) (hc : 0 ≤ c ∧ c ≤ 2) (u r w : Int) : NoWatch n c (T3 ((8 + 4 * n).toNat - 3) u r w) := by
  intro i h0 hi
  have hcl : cellP n 2 i = 8 + 2 * n + i := by unfold cellP; rw [if_pos (by omega)]
  have hlt : 0 ≤ 8 + 2 * n + i ∧ 8 + 2 * n + i < ((T3 ((8 + 4 * n).toNat - 3) u r w).length : Int) := by rw [t3_len]; omega
  obtain ⟨j, hj⟩ : ∃ j : Nat, (8 + 2 * n + i).toNat = j + 3 := ⟨(8 + 2 * n + i).toNat - 3, by omega⟩
  have hg : (T3 ((8 + 4 * n).toNat - 3) u r w).getD (8 + 2 * n + i).toNat 0 = 0 := by
    rw [hj]
    show (List.replicate _ (0 : Int)).getD j 0 = 0
    rw [List.getD_eq_getElem?_getD, List.getElem?_replicate]
    split <;> rfl
  rw [hcl]
  unfold doA
  rw [if_pos hlt]
  refine ⟨by simp, ?_⟩
  simp only [if_true]
  rw [hg]
  omega
theorem ahead_self (u : Int) : aheadA u u = 0 := by unfold aheadA; omega
theorem ahead_one (w : Int) (hw : 0 ≤ w ∧ w < 4294967296) : aheadA ((w + 1) % 4294967296) w = 1 := by unfold aheadA; omega

section
variable (n mode : Int)
theorem tfo_rlock (h1 : 1 ≤ n) (h2 : n ≤ 64) (q : Nat) (u w : Int) : ∃ s, aloneA tfA (q + n.toNat + 3) (start n mode 1 (T3 ((8 + 4 * n).toNat - 3) u u w)) = (2, s) ∧ s.L = T3 ((8 + 4 * n).toNat - 3) ((u + 1) % 4294967296) ((u + 1) % 4294967296) w := by
  have k1 : At n mode (tfA (RnF n mode 1 0 0 0 (T3 ((8 + 4 * n).toNat - 3) u u w))) 1 1 u 0 (T3 ((8 + 4 * n).toNat - 3) ((u + 1) % 4294967296) u w) := by
    simp [At, RnF, tfA, tf10, tfTicket, t3_add0, Rn.fresh, Rn.did, Rn.setA, Rn.note, Rn.goto]
  have k2 : At n mode (tfA (RnF n mode 1 1 u 0 (T3 ((8 + 4 * n).toNat - 3) ((u + 1) % 4294967296) u w))) 1 2 u 0 (T3 ((8 + 4 * n).toNat - 3) ((u + 1) % 4294967296) u w) := by
    simp [At, RnF, tfA, tf11, t3_wait1, Rn.fresh, Rn.waited, Rn.goto]
  have k3 : tfA (RnF n mode 1 2 u 0 (T3 ((8 + 4 * n).toNat - 3) ((u + 1) % 4294967296) u w)) = (tfEnter (RnF n mode 1 2 u 0 (T3 ((8 + 4 * n).toNat - 3) ((u + 1) % 4294967296) u w)) 4) := by
    simp [RnF, tfA, tf12]
  obtain ⟨s', e1, e2⟩ := At.ends (g := tfA) k2 1 k3 (by simp [tfEnter, Rn.fin]) rfl rfl h1 (by simp only [tfEnter, RnF, Rn.did, t3_add1, Rn.note, Rn.wake, Rn.fin]; exact t3_nowatch n 1 h1 h2 (by omega) _ _ _) q
  refine ⟨s', ?_, ?_⟩
  · rw [show q + n.toNat + 3 = (q + n.toNat + 1 + 1) + 1 from rfl, At.go (g := tfA) start_at rfl k1, At.go (g := tfA) k1 rfl k2, e1]
    rfl
  · rw [e2]
    simp [tfEnter, RnF, Rn.did, t3_add1, Rn.note, Rn.wake, Rn.fin]
theorem tfo_runlock (h1 : 1 ≤ n) (h2 : n ≤ 64) (q : Nat) (u r w : Int) : ∃ s, aloneA tfA (q + n.toNat + 1) (start n mode 2 (T3 ((8 + 4 * n).toNat - 3) u r w)) = (2, s) ∧ s.L = T3 ((8 + 4 * n).toNat - 3) u r ((w + 1) % 4294967296) := by
  have k3 : tfA (RnF n mode 2 0 0 0 (T3 ((8 + 4 * n).toNat - 3) u r w)) = tf20 (RnF n mode 2 0 0 0 (T3 ((8 + 4 * n).toNat - 3) u r w)) := by
    simp [RnF, tfA]
  obtain ⟨s', e1, e2⟩ := At.ends (g := tfA) (start_at (n := n) (mode := mode) (op := 2)) 2 k3 (by simp [tf20, Rn.fin]) rfl rfl h1 (by simp only [tf20, RnF, Rn.did, t3_add2, Rn.note, Rn.wake, Rn.fin]; exact t3_nowatch n 2 h1 h2 (by omega) _ _ _) q
  refine ⟨s', ?_, ?_⟩
  · rw [e1]
    rfl
  · rw [e2]
    simp [tf20, RnF, Rn.did, t3_add2, Rn.note, Rn.wake, Rn.fin]
theorem tfo_lock (h1 : 1 ≤ n) (h2 : n ≤ 64) (q : Nat) (u r : Int) : ∃ s, aloneA tfA (q + 2) (start n mode 3 (T3 ((8 + 4 * n).toNat - 3) u r u)) = (2, s) ∧ s.L = T3 ((8 + 4 * n).toNat - 3) ((u + 1) % 4294967296) r u := by
  have k1 : At n mode (tfA (RnF n mode 3 0 0 0 (T3 ((8 + 4 * n).toNat - 3) u r u))) 3 1 u 0 (T3 ((8 + 4 * n).toNat - 3) ((u + 1) % 4294967296) r u) := by
    simp [At, RnF, tfA, tf30, tfTicket, t3_add0, Rn.fresh, Rn.did, Rn.setA, Rn.note, Rn.goto]
  have k2 : tfA (RnF n mode 3 1 u 0 (T3 ((8 + 4 * n).toNat - 3) ((u + 1) % 4294967296) r u)) = tf31 (RnF n mode 3 1 u 0 (T3 ((8 + 4 * n).toNat - 3) ((u + 1) % 4294967296) r u)) := by
    simp [RnF, tfA]
  obtain ⟨s', e1, e2⟩ := At.fin2 (g := tfA) k1 k2 (by simp [tf31, RnF, t3_wait2, Rn.fin]) (by simp [tf31, RnF, t3_wait2, Rn.fin, Rn.waited, Rn.note]) q
  refine ⟨s', ?_, ?_⟩
  · rw [show q + 2 = (q + 1) + 1 from rfl, At.go (g := tfA) start_at rfl k1, e1]
    simp [tf31, RnF, t3_wait2, Rn.fin]
  · rw [e2]
    simp [tf31, RnF, t3_wait2, Rn.fin, Rn.waited, Rn.note]
theorem tfo_unlock (h1 : 1 ≤ n) (h2 : n ≤ 64) (q : Nat) (u r w : Int) : ∃ s, aloneA tfA (q + n.toNat + 1 + n.toNat + 1) (start n mode 4 (T3 ((8 + 4 * n).toNat - 3) u r w)) = (2, s) ∧ s.L = T3 ((8 + 4 * n).toNat - 3) u ((r + 1) % 4294967296) ((w + 1) % 4294967296) := by
  have k1 : tfA (RnF n mode 4 0 0 0 (T3 ((8 + 4 * n).toNat - 3) u r w)) = tf40 (RnF n mode 4 0 0 0 (T3 ((8 + 4 * n).toNat - 3) u r w)) := by
    simp [RnF, tfA]
  obtain ⟨s1, q1, a1, hq, e1⟩ := At.wakes (g := tfA) (start_at (n := n) (mode := mode) (op := 4)) (line' := 1) (a' := 0) (b' := 0) (L' := T3 ((8 + 4 * n).toNat - 3) u ((r + 1) % 4294967296) w) 1 k1 (by simp [tf40, RnF, Rn.did, t3_add1, Rn.note, Rn.wake, Rn.goto, Rn.rests]) rfl h1 (t3_nowatch n 1 h1 h2 (by omega) _ _ _) (q + n.toNat + 1)
  have k3 : tfA (RnF n mode 4 1 0 0 (T3 ((8 + 4 * n).toNat - 3) u ((r + 1) % 4294967296) w)) = tf41 (RnF n mode 4 1 0 0 (T3 ((8 + 4 * n).toNat - 3) u ((r + 1) % 4294967296) w)) := by
    simp [RnF, tfA]
  obtain ⟨s', e2, e3⟩ := At.ends (g := tfA) a1 2 k3 (by simp [tf41, Rn.fin]) rfl rfl h1 (by simp only [tf41, RnF, Rn.did, t3_add2, Rn.note, Rn.wake, Rn.fin]; exact t3_nowatch n 2 h1 h2 (by omega) _ _ _) (q1 - n.toNat - 1)
  refine ⟨s', ?_, ?_⟩
  · rw [e1]
    rw [show q1 - n.toNat - 1 + n.toNat + 1 = q1 from by omega] at e2
    rw [e2]
    rfl
  · rw [e3]
    simp [tf41, RnF, Rn.did, t3_add2, Rn.note, Rn.wake, Rn.fin]
theorem tfo_tryr (h1 : 1 ≤ n) (h2 : n ≤ 64) (q : Nat) (u w : Int) : ∃ s, aloneA tfA (q + n.toNat + 4) (start n mode 5 (T3 ((8 + 4 * n).toNat - 3) u u w)) = (2, s) ∧ s.L = T3 ((8 + 4 * n).toNat - 3) ((u + 1) % 4294967296) ((u + 1) % 4294967296) w := by
  have k1 : At n mode (tfA (RnF n mode 5 0 0 0 (T3 ((8 + 4 * n).toNat - 3) u u w))) 5 1 u 0 (T3 ((8 + 4 * n).toNat - 3) u u w) := by
    simp [At, RnF, tfA, tf50, t3_ld0, Rn.fresh, Rn.did, Rn.setA, Rn.goto]
  have k2 : At n mode (tfA (RnF n mode 5 1 u 0 (T3 ((8 + 4 * n).toNat - 3) u u w))) 5 2 u u (T3 ((8 + 4 * n).toNat - 3) u u w) := by
    simp [At, RnF, tfA, tf51, tfLook, t3_ld1, ahead_self, Rn.fresh, Rn.did, Rn.setB, Rn.goto]
  have k3 : At n mode (tfA (RnF n mode 5 2 u u (T3 ((8 + 4 * n).toNat - 3) u u w))) 5 3 u u (T3 ((8 + 4 * n).toNat - 3) ((u + 1) % 4294967296) u w) := by
    simp [At, RnF, tfA, tf52, tfTake, t3_cas, t3_casB, Rn.fresh, Rn.did, Rn.note, Rn.goto]
  have k4 : tfA (RnF n mode 5 3 u u (T3 ((8 + 4 * n).toNat - 3) ((u + 1) % 4294967296) u w)) = (tfEnter (RnF n mode 5 3 u u (T3 ((8 + 4 * n).toNat - 3) ((u + 1) % 4294967296) u w)) 4) := by
    simp [RnF, tfA, tf53]
  obtain ⟨s', e1, e2⟩ := At.ends (g := tfA) k3 1 k4 (by simp [tfEnter, Rn.fin]) rfl rfl h1 (by simp only [tfEnter, RnF, Rn.did, t3_add1, Rn.note, Rn.wake, Rn.fin]; exact t3_nowatch n 1 h1 h2 (by omega) _ _ _) q
  refine ⟨s', ?_, ?_⟩
  · rw [show q + n.toNat + 4 = (q + n.toNat + 1 + 1 + 1) + 1 from rfl, At.go (g := tfA) start_at rfl k1, At.go (g := tfA) k1 rfl k2, At.go (g := tfA) k2 rfl k3, e1]
    rfl
  · rw [e2]
    simp [tfEnter, RnF, Rn.did, t3_add1, Rn.note, Rn.wake, Rn.fin]
theorem tfo_tryw (h1 : 1 ≤ n) (h2 : n ≤ 64) (q : Nat) (u r : Int) : ∃ s, aloneA tfA (q + 3) (start n mode 6 (T3 ((8 + 4 * n).toNat - 3) u r u)) = (2, s) ∧ s.L = T3 ((8 + 4 * n).toNat - 3) ((u + 1) % 4294967296) r u := by
  have k1 : At n mode (tfA (RnF n mode 6 0 0 0 (T3 ((8 + 4 * n).toNat - 3) u r u))) 6 1 u 0 (T3 ((8 + 4 * n).toNat - 3) u r u) := by
    simp [At, RnF, tfA, tf60, t3_ld0, Rn.fresh, Rn.did, Rn.setA, Rn.goto]
  have k2 : At n mode (tfA (RnF n mode 6 1 u 0 (T3 ((8 + 4 * n).toNat - 3) u r u))) 6 2 u u (T3 ((8 + 4 * n).toNat - 3) u r u) := by
    simp [At, RnF, tfA, tf61, tfLook, t3_ld2, ahead_self, Rn.fresh, Rn.did, Rn.setB, Rn.goto]
  obtain ⟨s1, k3⟩ : ∃ s1, tfA (RnF n mode 6 2 u u (T3 ((8 + 4 * n).toNat - 3) u r u)) = s1 := ⟨_, rfl⟩
  have k4 := k3
  simp [RnF, tfA, tf62, tfTake, t3_cas, t3_casB, Rn.did, Rn.note, Rn.fin] at k4
  subst k4
  obtain ⟨s', e1, e2⟩ := At.fin2 (g := tfA) k2 k3 (by simp) rfl q
  refine ⟨s', ?_, e2⟩
  rw [show q + 3 = (q + 1 + 1) + 1 from rfl, At.go (g := tfA) start_at rfl k1, At.go (g := tfA) k1 rfl k2, e1]
theorem tfo_up (h1 : 1 ≤ n) (h2 : n ≤ 64) (q : Nat) (r w : Int) (hw : 0 ≤ w ∧ w < 4294967296) : ∃ s, aloneA tfA (q + 4) (start n mode 7 (T3 ((8 + 4 * n).toNat - 3) ((w + 1) % 4294967296) r w)) = (2, s) ∧ s.L = T3 ((8 + 4 * n).toNat - 3) (((w + 1) % 4294967296 + 1) % 4294967296) r ((w + 1) % 4294967296) := by
  have k1 : At n mode (tfA (RnF n mode 7 0 0 0 (T3 ((8 + 4 * n).toNat - 3) ((w + 1) % 4294967296) r w))) 7 1 ((w + 1) % 4294967296) 0 (T3 ((8 + 4 * n).toNat - 3) ((w + 1) % 4294967296) r w) := by
    simp [At, RnF, tfA, tf70, t3_ld0, Rn.fresh, Rn.did, Rn.setA, Rn.goto]
  have k2 : At n mode (tfA (RnF n mode 7 1 ((w + 1) % 4294967296) 0 (T3 ((8 + 4 * n).toNat - 3) ((w + 1) % 4294967296) r w))) 7 2 ((w + 1) % 4294967296) w (T3 ((8 + 4 * n).toNat - 3) ((w + 1) % 4294967296) r w) := by
    simp [At, RnF, tfA, tf71, tfLook, t3_ld2, ahead_one w hw, Rn.fresh, Rn.did, Rn.setB, Rn.goto]
  have k3 : At n mode (tfA (RnF n mode 7 2 ((w + 1) % 4294967296) w (T3 ((8 + 4 * n).toNat - 3) ((w + 1) % 4294967296) r w))) 7 3 ((w + 1) % 4294967296) w (T3 ((8 + 4 * n).toNat - 3) (((w + 1) % 4294967296 + 1) % 4294967296) r w) := by
    unfold At RnF tfA
    simp [tf72, tfTake, t3_cas, t3_casB, Rn.fresh, Rn.did, Rn.note, Rn.goto]
  obtain ⟨s1, k4⟩ : ∃ s1, tfA (RnF n mode 7 3 ((w + 1) % 4294967296) w (T3 ((8 + 4 * n).toNat - 3) (((w + 1) % 4294967296 + 1) % 4294967296) r w)) = s1 := ⟨_, rfl⟩
  have k5 : s1 = tf73 (RnF n mode 7 3 ((w + 1) % 4294967296) w (T3 ((8 + 4 * n).toNat - 3) (((w + 1) % 4294967296 + 1) % 4294967296) r w)) := by rw [← k4]; simp only [RnF, tfA]; rfl
  subst k5
  obtain ⟨s', e1, e2⟩ := At.fin2 (g := tfA) k3 k4 (by simp [tf73, Rn.fin]) rfl q
  refine ⟨s', ?_, ?_⟩
  · rw [show q + 4 = (q + 1 + 1 + 1) + 1 from rfl, At.go (g := tfA) start_at rfl k1, At.go (g := tfA) k1 rfl k2, At.go (g := tfA) k2 rfl k3, e1]
    rfl
  · rw [e2]
    simp only [tf73, RnF, Rn.did, t3_add2, Rn.fin]
theorem tfo_down (h1 : 1 ≤ n) (h2 : n ≤ 64) (q : Nat) (u r w : Int) : ∃ s, aloneA tfA (q + n.toNat + 1) (start n mode 8 (T3 ((8 + 4 * n).toNat - 3) u r w)) = (2, s) ∧ s.L = T3 ((8 + 4 * n).toNat - 3) u ((r + 1) % 4294967296) w := by
  have k3 : tfA (RnF n mode 8 0 0 0 (T3 ((8 + 4 * n).toNat - 3) u r w)) = tfEnter (RnF n mode 8 0 0 0 (T3 ((8 + 4 * n).toNat - 3) u r w)) 10 := by
    simp [RnF, tfA, tf80]
  obtain ⟨s', e1, e2⟩ := At.ends (g := tfA) (start_at (n := n) (mode := mode) (op := 8)) 1 k3 (by simp [tfEnter, Rn.fin]) rfl rfl h1 (by simp only [tfEnter, RnF, Rn.did, t3_add1, Rn.note, Rn.wake, Rn.fin]; exact t3_nowatch n 1 h1 h2 (by omega) _ _ _) q
  refine ⟨s', ?_, ?_⟩
  · rw [e1]
    rfl
  · rw [e2]
    simp [tfEnter, RnF, Rn.did, t3_add1, Rn.note, Rn.wake, Rn.fin]
theorem tfo_tryr_no (q : Nat) (N : Nat) (r w : Int) (hr : 0 ≤ r ∧ r < 4294967296) : ∃ s, aloneA tfA (q + 2) (start n mode 5 (T3 N ((r + 1) % 4294967296) r w)) = (1, s) ∧ s.L = T3 N ((r + 1) % 4294967296) r w := by
  have k1 : At n mode (tfA (RnF n mode 5 0 0 0 (T3 N ((r + 1) % 4294967296) r w))) 5 1 ((r + 1) % 4294967296) 0 (T3 N ((r + 1) % 4294967296) r w) := by
    simp [At, RnF, tfA, tf50, t3_ld0, Rn.fresh, Rn.did, Rn.setA, Rn.goto]
  obtain ⟨s1, k3⟩ : ∃ s1, tfA (RnF n mode 5 1 ((r + 1) % 4294967296) 0 (T3 N ((r + 1) % 4294967296) r w)) = s1 := ⟨_, rfl⟩
  have k4 := k3
  simp [RnF, tfA, tf51, tfLook, t3_ld1, ahead_one r hr, Rn.did, Rn.setB, Rn.note, Rn.fin] at k4
  subst k4
  obtain ⟨s', e1, e2⟩ := At.fin2 (g := tfA) k1 k3 (by simp) rfl q
  refine ⟨s', ?_, e2⟩
  rw [show q + 2 = (q + 1) + 1 from rfl, At.go (g := tfA) start_at rfl k1, e1]
theorem tfo_tryw_no (q : Nat) (N : Nat) (r w : Int) (hw : 0 ≤ w ∧ w < 4294967296) : ∃ s, aloneA tfA (q + 2) (start n mode 6 (T3 N ((w + 1) % 4294967296) r w)) = (1, s) ∧ s.L = T3 N ((w + 1) % 4294967296) r w := by
  have k1 : At n mode (tfA (RnF n mode 6 0 0 0 (T3 N ((w + 1) % 4294967296) r w))) 6 1 ((w + 1) % 4294967296) 0 (T3 N ((w + 1) % 4294967296) r w) := by
    simp [At, RnF, tfA, tf60, t3_ld0, Rn.fresh, Rn.did, Rn.setA, Rn.goto]
  obtain ⟨s1, k3⟩ : ∃ s1, tfA (RnF n mode 6 1 ((w + 1) % 4294967296) 0 (T3 N ((w + 1) % 4294967296) r w)) = s1 := ⟨_, rfl⟩
  have k4 := k3
  simp [RnF, tfA, tf61, tfLook, t3_ld2, ahead_one w hw, Rn.did, Rn.setB, Rn.note, Rn.fin] at k4
  subst k4
  obtain ⟨s', e1, e2⟩ := At.fin2 (g := tfA) k1 k3 (by simp) rfl q
  refine ⟨s', ?_, e2⟩
  rw [show q + 2 = (q + 1) + 1 from rfl, At.go (g := tfA) start_at rfl k1, e1]
end

/-- What one holds, what is tried, what that tells. -/
def tfTry : List (Int × Int × Int) := [(3, 5, 1), (3, 6, 1), (1, 6, 1), (1, 5, 2)]

/-- WHILE ONE HOLDS WHAT CONFLICTS A TRY IS REFUSED AT ONCE, AND NOTHING IS LEFT OF IT. -/
theorem tf_tries (n mode base : Int) (most : Nat) (h1 : 1 ≤ n) (h2 : n ≤ 64) (hb : 0 ≤ base ∧ base < 4294967296) (hm : 2 * n.toNat + 6 ≤ most) : ∀ x0 x1 x2, (x0, x1, x2) ∈ tfTry →
    ∃ s1 s2, aloneA tfA most (start n mode x0 (T3 ((8 + 4 * n).toNat - 3) base base base)) = (2, s1) ∧ aloneA tfA most (start n mode x1 s1.L) = (x2, s2) ∧ (x2 = 1 → s2.L = s1.L) := by
  have a1 := tfo_rlock n mode h1 h2 (most - n.toNat - 3) base base
  have a3 := tfo_lock n mode h1 h2 (most - 2) base base
  have a4 := tfo_tryr_no n mode (most - 2) ((8 + 4 * n).toNat - 3) base base hb
  have a5 := tfo_tryw_no n mode (most - 2) ((8 + 4 * n).toNat - 3) base base hb
  have a6 := tfo_tryw_no n mode (most - 2) ((8 + 4 * n).toNat - 3) ((base + 1) % 4294967296) base hb
  have a7 := tfo_tryr n mode h1 h2 (most - n.toNat - 4) ((base + 1) % 4294967296) base
  rw [show most - n.toNat - 3 + n.toNat + 3 = most from by omega] at a1
  rw [show most - 2 + 2 = most from by omega] at a3 a4 a5 a6
  rw [show most - n.toNat - 4 + n.toNat + 4 = most from by omega] at a7
  obtain ⟨s1, x1, y1⟩ := a1
  obtain ⟨s3, x3, y3⟩ := a3
  obtain ⟨s4, x4, y4⟩ := a4
  obtain ⟨s5, x5, y5⟩ := a5
  obtain ⟨s6, x6, y6⟩ := a6
  obtain ⟨s7, x7, y7⟩ := a7
  intro o0 o1 o2 hx
  simp only [tfTry, List.mem_cons, List.not_mem_nil, or_false, Prod.mk.injEq] at hx
  rcases hx with ⟨rfl, rfl, rfl⟩ | ⟨rfl, rfl, rfl⟩ | ⟨rfl, rfl, rfl⟩ | ⟨rfl, rfl, rfl⟩
  · exact ⟨s3, s4, x3, by rw [y3]; exact x4, fun _ => by rw [y4, y3]⟩
  · exact ⟨s3, s5, x3, by rw [y3]; exact x5, fun _ => by rw [y5, y3]⟩
  · exact ⟨s1, s6, x1, by rw [y1]; exact x6, fun _ => by rw [y6, y1]⟩
  · exact ⟨s1, s7, x1, by rw [y1]; exact x7, fun h => absurd h (by decide)⟩

/-- The lists of operations that the statement asks. -/
def tfLists : List (List Int) := [[1, 2], [3, 4], [5, 2], [6, 4], [3, 8, 2], [1, 7, 4]]
/-- The three cells are alike, and not what they were. -/
def tfEnd (base : Int) (E : List Int) : Prop := ldA E 0 = ldA E 1 ∧ ldA E 0 = ldA E 2 ∧ ldA E 0 ≠ base
theorem t3_end (N : Nat) (x base : Int) (h : x ≠ base) : tfEnd base (T3 N x x x) := by
  have e : ∀ c : Int, 0 ≤ c → c < 3 → ldA (T3 N x x x) c = x := fun c h0 h1 => by
    unfold ldA
    rw [if_pos (by rw [t3_len]; omega)]
    have : c = 0 ∨ c = 1 ∨ c = 2 := by omega
    rcases this with rfl | rfl | rfl <;> rfl
  refine ⟨?_, ?_, ?_⟩
  · rw [e 0 (by decide) (by decide), e 1 (by decide) (by decide)]
  · rw [e 0 (by decide) (by decide), e 2 (by decide) (by decide)]
  · rw [e 0 (by decide) (by decide)]; exact h

/-- BY ITSELF EACH OPERATION ENDS WITH TRUE; THE CELLS ARE ALIKE AGAIN. -/
theorem tf_runs (n mode base : Int) (most : Nat) (h1 : 1 ≤ n) (h2 : n ≤ 64) (hb : 0 ≤ base ∧ base < 4294967296) (hm : 2 * n.toNat + 6 ≤ most) : ∀ l, l ∈ tfLists → ∃ E, Runs tfA n mode most l (T3 ((8 + 4 * n).toNat - 3) base base base) E ∧ tfEnd base E := by
  have hne : (base + 1) % 4294967296 ≠ base := by omega
  have hne2 : ((base + 1) % 4294967296 + 1) % 4294967296 ≠ base := by omega
  have a1 := tfo_rlock n mode h1 h2 (most - n.toNat - 3) base base
  have a2 := tfo_runlock n mode h1 h2 (most - n.toNat - 1) ((base + 1) % 4294967296) ((base + 1) % 4294967296) base
  have a3 := tfo_lock n mode h1 h2 (most - 2) base base
  have a4 := tfo_unlock n mode h1 h2 (most - n.toNat - 1 - n.toNat - 1) ((base + 1) % 4294967296) base base
  have a5 := tfo_tryr n mode h1 h2 (most - n.toNat - 4) base base
  have a6 := tfo_tryw n mode h1 h2 (most - 3) base base
  have a7 := tfo_up n mode h1 h2 (most - 4) ((base + 1) % 4294967296) base hb
  have a8 := tfo_down n mode h1 h2 (most - n.toNat - 1) ((base + 1) % 4294967296) base base
  have a9 := tfo_unlock n mode h1 h2 (most - n.toNat - 1 - n.toNat - 1) (((base + 1) % 4294967296 + 1) % 4294967296) ((base + 1) % 4294967296) ((base + 1) % 4294967296)
  rw [show most - n.toNat - 3 + n.toNat + 3 = most from by omega] at a1
  rw [show most - n.toNat - 1 + n.toNat + 1 = most from by omega] at a2 a8
  rw [show most - 2 + 2 = most from by omega] at a3
  rw [show most - n.toNat - 1 - n.toNat - 1 + n.toNat + 1 + n.toNat + 1 = most from by omega] at a4 a9
  rw [show most - n.toNat - 4 + n.toNat + 4 = most from by omega] at a5
  rw [show most - 3 + 3 = most from by omega] at a6
  rw [show most - 4 + 4 = most from by omega] at a7
  generalize hb1 : (base + 1) % 4294967296 = b1 at *
  generalize hb2 : (b1 + 1) % 4294967296 = b2 at *
  obtain ⟨s1, x1, y1⟩ := a1
  obtain ⟨s2, x2, y2⟩ := a2
  obtain ⟨s3, x3, y3⟩ := a3
  obtain ⟨s4, x4, y4⟩ := a4
  obtain ⟨s5, x5, y5⟩ := a5
  obtain ⟨s6, x6, y6⟩ := a6
  obtain ⟨s7, x7, y7⟩ := a7
  obtain ⟨s8, x8, y8⟩ := a8
  obtain ⟨s9, x9, y9⟩ := a9
  intro l hl
  simp only [tfLists, List.mem_cons, List.not_mem_nil, or_false] at hl
  rcases hl with rfl | rfl | rfl | rfl | rfl | rfl
  · exact ⟨_, ⟨s1, x1, by rw [y1]; exact ⟨s2, x2, y2⟩⟩, t3_end _ _ _ hne⟩
  · exact ⟨_, ⟨s3, x3, by rw [y3]; exact ⟨s4, x4, y4⟩⟩, t3_end _ _ _ hne⟩
  · exact ⟨_, ⟨s5, x5, by rw [y5]; exact ⟨s2, x2, y2⟩⟩, t3_end _ _ _ hne⟩
  · exact ⟨_, ⟨s6, x6, by rw [y6]; exact ⟨s4, x4, y4⟩⟩, t3_end _ _ _ hne⟩
  · exact ⟨_, ⟨s3, x3, by rw [y3]; exact ⟨s8, x8, by rw [y8]; exact ⟨s2, x2, y2⟩⟩⟩, t3_end _ _ _ hne⟩
  · exact ⟨_, ⟨s1, x1, by rw [y1]; exact ⟨s7, x7, by rw [y7]; exact ⟨s9, x9, y9⟩⟩⟩, t3_end _ _ _ hne2⟩

end Go.Proofs.Ytdffdppkdbbdoaa.Z

/- A task that is let go on alone, from its operation's beginning to its end; many that read. No lock in sight. -/
set_option linter.unusedVariables false
set_option linter.unusedSimpArgs false
namespace Go.Proofs.Ytdffdppkdbbdoaa.Z
open Go.RowKit

/-- A run that waits for no permit here. -/
def Free (s : Rn) : Prop := s.f.wk.on = true ∨ s.f.st = 0
theorem free_stuck {s : Rn} (h : Free s) (L : List Int) (n mode task : Int) : (!s.f.wk.on && stuckA L n mode task s.f.st) = false := by
  rcases h with h | h
  · rw [h]; rfl
  · rw [h]
    unfold stuckA
    rw [stageA_0]
    simp

/-- In so many steps an operation ends. -/
inductive Does (g : Rn → Rn) : Nat → Rn → Rn → Prop
  | last {s s' : Rn} : Free s → stepR g s = s' → s'.over = true → Does g 1 s s'
  | more {n : Nat} {s s1 s' : Rn} : Free s → stepR g s = s1 → s1.over = false → s1.f.op ≠ 0 → Does g n s1 s' → Does g (n + 1) s s'

def Same (g : Rn → Rn) : Prop := ∀ s, (stepR g s).n = s.n ∧ (stepR g s).mode = s.mode ∧ (stepR g s).task = s.task

theorem run_fresh {s : Rn} {M : Mt} {i : Nat} {f : Fr} (h1 : s.n = M.n) (h2 : s.mode = M.mode) (h3 : s.task = i) (h4 : s.f = f) (h5 : s.L = M.L) : s.fresh = M.run i f := by
  obtain ⟨n, mode, task, f', acc, notes, L⟩ := s
  simp only at h1 h2 h3 h4 h5
  subst h1 h2 h3 h4 h5
  rfl
theorem step_of_fresh {g : Rn → Rn} {s : Rn} {M : Mt} {i : Nat} {f : Fr} (h : s.fresh = M.run i f) {s1 : Rn} (hs : stepR g s = s1) : stepR g (M.run i f) = s1 := by
  rw [← h, ← stepR_fresh, hs]

theorem put_put (M : Mt) (i : Nat) (f f' : Fr) (h h' : Int) (L L' : List Int) : (M.put i f h L).put i f' h' L' = M.put i f' h' L' := by
  unfold Mt.put
  simp [List.set_set]

theorem getD_set_self {α : Type} {l : List α} {i : Nat} {v d : α} (h : i < l.length) : (l.set i v).getD i d = v := by
  simp [List.getD, h]

/-- Of a task that is with an operation: let go on, it ends it. -/
theorem while_does {g : Rn → Rn} (hg : Same g) : ∀ {n : Nat} {s s' : Rn}, Does g n s s' → ∀ {M : Mt} {i m : Nat}, i < M.fs.length → M.hold.length = M.fs.length → s.fresh = M.run i s.f → M.fs.getD i Fr.zero = s.f → s.f.op ≠ 0 → n ≤ m →
    whileA g i m M = M.put i Fr.zero (behindA s'.f.op s'.f.ret (M.hold.getD i 0)) s'.L := by
  intro n s s' h
  induction h with
  | @last s s' hf hs ho =>
    intro M i m hi hh hr hM hop hm
    obtain ⟨m, rfl⟩ : ∃ j, m = j + 1 := ⟨m - 1, by omega⟩
    have hst := goes_of (h := M.hold.getD i 0) (step_of_fresh hr hs)
    rw [if_neg (by rw [free_stuck hf]; decide), if_pos ho] at hst
    unfold whileA
    rw [hM, if_neg hop]
    have hp : M.play g i 0 = M.put i Fr.zero (behindA s'.f.op s'.f.ret (M.hold.getD i 0)) s'.L := by
      unfold Mt.play
      rw [hM, if_neg hop, hst]
    rw [hp]
    cases m with
    | zero => rfl
    | succ m =>
      unfold whileA
      rw [if_pos]
      show ((M.fs.set i Fr.zero).getD i Fr.zero).op = 0
      rw [getD_set_self hi]
      rfl
  | @more n s s1 s' hf hs ho hop1 hd ih =>
    intro M i m hi hh hr hM hop hm
    obtain ⟨m, rfl⟩ : ∃ j, m = j + 1 := ⟨m - 1, by omega⟩
    have hst := goes_of (h := M.hold.getD i 0) (step_of_fresh hr hs)
    rw [if_neg (by rw [free_stuck hf]; decide), if_neg (by rw [ho]; decide)] at hst
    unfold whileA
    rw [hM, if_neg hop]
    have hp : M.play g i 0 = M.put i s1.f (M.hold.getD i 0) s1.L := by
      unfold Mt.play
      rw [hM, if_neg hop, hst]
    rw [hp]
    have hsm := hg s
    rw [hs] at hsm
    have hn : s.n = M.n ∧ s.mode = M.mode ∧ s.task = i := ⟨congrArg Rn.n hr, congrArg Rn.mode hr, congrArg Rn.task hr⟩
    have := ih (M := M.put i s1.f (M.hold.getD i 0) s1.L) (i := i) (m := m) (by simp [Mt.put]; exact hi) (by simp [Mt.put]; exact hh)
      (run_fresh (hsm.1.trans hn.1) (hsm.2.1.trans hn.2.1) (hsm.2.2.trans hn.2.2) rfl rfl) (getD_set_self hi) hop1 (by omega)
    rw [this, put_put]
    congr 2
    exact getD_set_self (by rw [hh]; exact hi)

/-- AN OPERATION, WHOLE. -/
theorem whole_does {g : Rn → Rn} (hg : Same g) {n : Nat} {s s' : Rn} (hd : Does g n s s') {M : Mt} {i : Nat} {op : Int} (hi : i < M.fs.length) (hh : M.hold.length = M.fs.length) (hM : M.fs.getD i Fr.zero = Fr.zero) (hmay : mayB op (M.hold.getD i 0) = true)
    (hr : s.fresh = M.run i (frOp op)) (hn : n ≤ 201) : wholeA g M i op = M.put i Fr.zero (behindA s'.f.op s'.f.ret (fromA op (M.hold.getD i 0))) s'.L := by
  have hsf : s.f = frOp op := congrArg Rn.f hr
  have hplay : M.play g i op = M.goes g i (frOp op) (fromA op (M.hold.getD i 0)) := by
    unfold Mt.play
    rw [hM, if_pos (show Fr.zero.op = 0 from rfl), if_pos hmay]
  unfold wholeA
  rw [hplay]
  cases hd with
  | last hf hs ho =>
    have hst := goes_of (h := fromA op (M.hold.getD i 0)) (step_of_fresh hr hs)
    rw [← hsf, if_neg (by rw [free_stuck hf]; decide), if_pos ho, hsf] at hst
    rw [hst]
    show whileA g i (199 + 1) _ = _
    unfold whileA
    rw [if_pos]
    show ((M.fs.set i Fr.zero).getD i Fr.zero).op = 0
    rw [getD_set_self hi]
    rfl
  | @more n _ s1 _ hf hs ho hop1 hd2 =>
    have hst := goes_of (h := fromA op (M.hold.getD i 0)) (step_of_fresh hr hs)
    rw [← hsf, if_neg (by rw [free_stuck hf]; decide), if_neg (by rw [ho]; decide), hsf] at hst
    rw [hst]
    have hsm := hg s
    rw [hs] at hsm
    have hn1 : s.n = M.n ∧ s.mode = M.mode ∧ s.task = i := ⟨congrArg Rn.n hr, congrArg Rn.mode hr, congrArg Rn.task hr⟩
    have := while_does hg hd2 (M := M.put i s1.f (fromA op (M.hold.getD i 0)) s1.L) (i := i) (m := 200) (by simp [Mt.put]; exact hi) (by simp [Mt.put]; exact hh)
      (run_fresh (hsm.1.trans hn1.1) (hsm.2.1.trans hn1.2.1) (hsm.2.2.trans hn1.2.2) rfl rfl) (getD_set_self hi) hop1 (by omega)
    rw [this, put_put]
    congr 2
    exact getD_set_self (by rw [hh]; exact hi)

/-- An operation of a task, from its beginning. -/
def startT (n mode : Int) (t : Nat) (op : Int) (L : List Int) : Rn := ⟨n, mode, t, frOp op, Acc.zero, [], L⟩

/-- Tasks that are idle. -/
structure Idle (M : Mt) (k : Nat) (d : Int) (f : Nat → Int) (L : List Int) : Prop where
  n : M.n = k
  mode : M.mode = d
  fs : M.fs = List.replicate k Fr.zero
  hold : M.hold = (List.range k).map f
  words : M.L = L

theorem range_set (k : Nat) (f : Nat → Int) (i : Nat) (v : Int) : ((List.range k).map f).set i v = (List.range k).map (fun x => if x = i then v else f x) := by
  refine List.ext_getElem? fun j => ?_
  rw [List.getElem?_set]
  by_cases hj : j < k
  · by_cases hij : i = j
    · subst hij
      simp [hj]
    · simp [hj, hij, Ne.symm hij]
  · by_cases hij : i = j
    · subst hij
      simp [hj]
    · simp [hj, hij]
theorem range_get {k : Nat} {f : Nat → Int} {i : Nat} (h : i < k) : ((List.range k).map f).getD i 0 = f i := by
  simp [List.getD, h]
theorem range_count (f : Nat → Int) (what : Int) (j : Nat) : ∀ k, (∀ i, i < k → (f i = what ↔ i < j)) → ((List.range k).map f).countP (· == what) = min j k := by
  intro k
  induction k with
  | zero => intro _; simp
  | succ k ih =>
    intro h
    rw [List.range_succ, List.map_append, List.countP_append, ih (fun i hi => h i (by omega))]
    have hk := h k (by omega)
    by_cases h1 : k < j
    · simp [hk.2 h1]; omega
    · have : ¬ f k = what := fun e => h1 (hk.1 e)
      simp [this]; omega

theorem Idle.whole {g : Rn → Rn} (hg : Same g) {M : Mt} {k : Nat} {d : Int} {f : Nat → Int} {L : List Int} (h : Idle M k d f L) {i : Nat} (hi : i < k) {op : Int} (hmay : mayB op (f i) = true) {n : Nat} {s' : Rn} (hn : n ≤ 201) (hd : Does g n (startT k d i op L) s') :
    Idle (wholeA g M i op) k d (fun x => if x = i then behindA s'.f.op s'.f.ret (fromA op (f i)) else f x) s'.L := by
  have hlen : M.fs.length = k := by rw [h.fs]; simp
  have hhl : M.hold.length = M.fs.length := by rw [h.hold, h.fs]; simp
  have hget : M.hold.getD i 0 = f i := by rw [h.hold]; exact range_get hi
  have hz : M.fs.getD i Fr.zero = Fr.zero := by rw [h.fs]; simp [List.getD, hi]
  have := whole_does hg hd (M := M) (i := i) (op := op) (by omega) hhl hz (by rw [hget]; exact hmay) (run_fresh h.n.symm h.mode.symm rfl rfl h.words.symm) hn
  rw [this, hget]
  refine ⟨h.n, h.mode, ?_, ?_, rfl⟩
  · show M.fs.set i Fr.zero = _
    rw [h.fs]
    refine List.ext_getElem? fun j => ?_
    rw [List.getElem?_set]
    split
    · rename_i hij
      subst hij
      simp [hi]
    · rfl
  · show M.hold.set i _ = _
    rw [h.hold, range_set]

/-- What is asked of a lock: of words at which so many read. -/
structure Together (g : Rn → Rn) (k : Nat) (d op : Int) (P : Nat → List Int → Prop) : Prop where
  same : Same g
  read : ∀ i j L, i < k → j + 1 < k → P j L → ∃ n s', n ≤ 201 ∧ Does g n (startT k d i op L) s' ∧ s'.f.ret = 2 ∧ (s'.f.op = 1 ∨ s'.f.op = 5) ∧ P (j + 1) s'.L
  refused : ∀ i j L, i < k → j + 1 < k → P (j + 1) L → ∃ n s', n ≤ 201 ∧ Does g n (startT k d i 6 L) s' ∧ s'.f.ret ≠ 2 ∧ P (j + 1) s'.L
  give : ∀ i j L, i < k → j + 1 < k → P (j + 1) L → ∃ n s', n ≤ 201 ∧ Does g n (startT k d i 2 L) s' ∧ s'.f.op = 2 ∧ P j s'.L
  take : ∀ i L, i < k → P 0 L → ∃ n s', n ≤ 201 ∧ Does g n (startT k d i 6 L) s' ∧ s'.f.ret = 2 ∧ s'.f.op = 6

theorem together_ok {g : Rn → Rn} {k : Nat} {d op : Int} {P : Nat → List Int → Prop} (hop : op = 1 ∨ op = 5) (T : Together g k d op P) {Z : List Int} (hZ : P 0 Z) (hk : 2 ≤ k) : TogetherOk g k op (Mt.start k d Z) := by
  have h0 : Idle (Mt.start k d Z) k d (fun _ => 0) Z := ⟨rfl, rfl, rfl, by simp [Mt.start, List.map_const'], rfl⟩
  have hmay : mayB op 0 = true := by rcases hop with rfl | rfl <;> decide
  have hR : ∀ j, j ≤ k - 1 → ∃ L, P j L ∧ Idle (readsA g op (Mt.start k d Z) j) k d (fun i => if i < j then 1 else 0) L := by
    intro j
    induction j with
    | zero => intro _; exact ⟨Z, hZ, by show Idle (Mt.start k d Z) _ _ _ _; simpa using h0⟩
    | succ j ih =>
      intro hj
      obtain ⟨L, hP, hI⟩ := ih (by omega)
      obtain ⟨n, s', hn, hd, hr, ho, hP'⟩ := T.read j j L (by omega) (by omega) hP
      refine ⟨s'.L, hP', ?_⟩
      have := hI.whole T.same (i := j) (by omega) (op := op) (by simpa using hmay) hn hd
      have e : (fun x => if x = j then behindA s'.f.op s'.f.ret (fromA op (if j < j then 1 else 0)) else if x < j then (1 : Int) else 0) = fun i => if i < j + 1 then 1 else 0 := by
        funext x
        by_cases h1 : x = j
        · subst h1
          have : behindA s'.f.op 2 (fromA op (if x < x then 1 else 0)) = 1 := by
            unfold behindA
            rcases ho with ho | ho <;> simp [ho]
          rw [if_pos rfl, hr, this, if_pos (Nat.lt_succ_self _)]
        · by_cases h2 : x < j
          · simp [h1, h2, Nat.lt_succ_of_lt h2]
          · have : ¬ x < j + 1 := by omega
            simp [h1, h2, this]
      rw [e] at this
      exact this
  have hG : ∀ j, j ≤ k - 1 → ∃ L, P (k - 1 - j) L ∧ Idle (givesA g k (readsA g op (Mt.start k d Z) (k - 1)) j) k d (fun i => if i < k - 1 then (if i < j then 0 else 1) else 0) L ∧
      (j < k - 1 → (wholeA g (givesA g k (readsA g op (Mt.start k d Z) (k - 1)) j) (k - 1) 6).hold.getD (k - 1) 0 = 0) := by
    have hno : ∀ j M L, j < k - 1 → P (k - 1 - j) L → Idle M k d (fun i => if i < k - 1 then (if i < j then 0 else 1) else 0) L →
        ∃ L', P (k - 1 - j) L' ∧ Idle (wholeA g M (k - 1) 6) k d (fun i => if i < k - 1 then (if i < j then 0 else 1) else 0) L' := by
      intro j M L hj hP hI
      obtain ⟨c, hc⟩ : ∃ c, k - 1 - j = c + 1 := ⟨k - 1 - j - 1, by omega⟩
      rw [hc] at hP ⊢
      obtain ⟨n, s', hn, hd, hr, hP'⟩ := T.refused (k - 1) c L (by omega) (by omega) hP
      refine ⟨s'.L, hP', ?_⟩
      have := hI.whole T.same (i := k - 1) (by omega) (op := 6) (by simp; decide) hn hd
      have e : (fun x => if x = k - 1 then behindA s'.f.op s'.f.ret (fromA 6 (if k - 1 < k - 1 then (if k - 1 < j then 0 else 1) else 0)) else if x < k - 1 then (if x < j then (0 : Int) else 1) else 0) = fun i => if i < k - 1 then (if i < j then 0 else 1) else 0 := by
        funext x
        by_cases h1 : x = k - 1
        · subst h1
          have : ∀ h, behindA s'.f.op s'.f.ret (fromA 6 h) = h := by
            intro h
            unfold behindA
            rw [if_pos hr]
            rfl
          rw [if_pos rfl, this]
        · simp [h1]
      rw [e] at this
      exact this
    intro j
    induction j with
    | zero =>
      intro _
      obtain ⟨L, hP, hI⟩ := hR (k - 1) (by omega)
      have hI' : Idle (givesA g k (readsA g op (Mt.start k d Z) (k - 1)) 0) k d (fun i => if i < k - 1 then (if i < 0 then 0 else 1) else 0) L := by
        have e : (fun i : Nat => if i < k - 1 then (if i < 0 then (0 : Int) else 1) else 0) = fun i => if i < k - 1 then 1 else 0 := by funext i; simp
        rw [e]
        exact hI
      refine ⟨L, hP, hI', fun hj => ?_⟩
      obtain ⟨L', _, h2⟩ := hno 0 _ L hj (by simpa using hP) hI'
      rw [h2.hold, range_get (by omega)]
      simp
    | succ j ih =>
      intro hj
      obtain ⟨L, hP, hI, _⟩ := ih (by omega)
      obtain ⟨L1, hP1, hI1⟩ := hno j _ L (by omega) hP hI
      obtain ⟨c, hc⟩ : ∃ c, k - 1 - j = c + 1 := ⟨k - 1 - j - 1, by omega⟩
      rw [hc] at hP1
      obtain ⟨n, s', hn, hd, ho, hP'⟩ := T.give j c L1 (by omega) (by omega) hP1
      have h3 := hI1.whole T.same (i := j) (by omega) (op := 2) (by rw [if_pos (by omega)]; simp; decide) hn hd
      have e : (fun x => if x = j then behindA s'.f.op s'.f.ret (fromA 2 (if j < k - 1 then (if j < j then 0 else 1) else 0)) else if x < k - 1 then (if x < j then (0 : Int) else 1) else 0) = fun i => if i < k - 1 then (if i < j + 1 then 0 else 1) else 0 := by
        funext x
        by_cases h1 : x = j
        · subst h1
          have : ∀ h, behindA s'.f.op s'.f.ret (fromA 2 h) = 0 := by
            intro h
            unfold behindA fromA
            rw [ho]
            split <;> simp
          rw [if_pos rfl, this, if_pos (by omega), if_pos (by omega)]
        · by_cases h2 : x < k - 1
          · by_cases h4 : x < j
            · simp [h1, h2, h4, Nat.lt_succ_of_lt h4]
            · have : ¬ x < j + 1 := by omega
              simp [h1, h2, h4, this]
          · simp [h1, h2]
      rw [e] at h3
      refine ⟨s'.L, by rw [show k - 1 - (j + 1) = c from by omega]; exact hP', h3, fun hj2 => ?_⟩
      obtain ⟨L', _, h2⟩ := hno (j + 1) _ s'.L hj2 (by rw [show k - 1 - (j + 1) = c from by omega]; exact hP') h3
      rw [show givesA g k (readsA g op (Mt.start k d Z) (k - 1)) (j + 1) = wholeA g (wholeA g (givesA g k (readsA g op (Mt.start k d Z) (k - 1)) j) (k - 1) 6) j 2 from rfl, h2.hold, range_get (by omega)]
      simp
  refine ⟨fun j hj => ?_, fun j hj => (hG j (by omega)).choose_spec.2.2 hj, ?_⟩
  · obtain ⟨L, _, hI⟩ := hR (j + 1) (by omega)
    unfold Mt.many
    rw [hI.hold, range_count _ 1 (j + 1) k (fun i hi => by by_cases h : i < j + 1 <;> simp [h])]
    omega
  · obtain ⟨L, hP, hI, _⟩ := hG (k - 1) (Nat.le_refl _)
    rw [Nat.sub_self] at hP
    obtain ⟨n, s', hn, hd, hr, ho⟩ := T.take (k - 1) L (by omega) hP
    have h3 := hI.whole T.same (i := k - 1) (by omega) (op := 6) (by simp; decide) hn hd
    have hb : ∀ h, behindA s'.f.op s'.f.ret h = 2 := by
      intro h
      unfold behindA
      rw [ho, hr]
      simp
    refine ⟨?_, ?_⟩
    · rw [h3.hold, range_get (by omega), if_pos rfl, hb]
    · unfold Mt.many
      rw [h3.hold, range_count _ 1 0 k (fun i hi => ?_)]
      · omega
      · by_cases h1 : i = k - 1
        · simp [h1, hb]
        · simp [h1]
          intro h2
          omega

/-- A wake-up that finds nobody, at an operation's end. -/
theorem does_wakes (g : Rn → Rn) (c : Int) : ∀ (d : Nat) (s : Rn) (i : Int), s.f.wk = ⟨true, c, i, false⟩ → 0 ≤ i → i + d = s.n → 1 ≤ d → NoWatch s.n c s.L → s.f.ret ≠ 0 → s.f.op ≠ 0 →
    ∃ s', Does g d s s' ∧ s'.L = s.L ∧ s'.f.ret = s.f.ret ∧ s'.f.op = s.f.op := by
  intro d
  induction d with
  | zero => intro s i hw h0 h1 h2; omega
  | succ d ih =>
    intro s i hw h0 h1 _ hc hr ho
    obtain ⟨e1, e2, e3, e4, e5, e6⟩ := woke_calm hw h0 (by omega) hc
    have hst : stepR g s = s.woke := by unfold stepR; rw [hw]; rfl
    have hf : Free s := Or.inl (by rw [hw])
    by_cases hd : d = 0
    · subst hd
      rw [if_pos (by omega)] at e2
      exact ⟨s.woke, Does.last hf hst (by unfold Rn.over; rw [e2]; simpa [Wk.zero] using hr), e1, by rw [e2], by rw [e2]⟩
    · rw [if_neg (by omega)] at e2
      obtain ⟨s', k1, k2, k3, k4⟩ := ih s.woke (i + 1) (by rw [e2]) (by omega) (by rw [e4]; omega) (by omega) (by rw [e4, e1]; exact hc) (by rw [e2]; exact hr) (by rw [e2]; exact ho)
      exact ⟨s', Does.more hf hst (by unfold Rn.over; rw [e2]; simp) (by rw [e2]; exact ho) k1, k2.trans e1, by rw [k3, e2], by rw [k4, e2]⟩

theorem does_ends {g : Rn → Rn} {s s1 : Rn} (c : Int) (hf : Free s) (hs : stepR g s = s1) (hk : s1.f.wk = beginA s1.mode c) (hr : s1.f.ret ≠ 0) (ho : s1.f.op ≠ 0) (h1 : 1 ≤ s1.n) (hc : NoWatch s1.n c s1.L) :
    ∃ n s', n ≤ s1.n.toNat + 1 ∧ Does g n s s' ∧ s'.L = s1.L ∧ s'.f.ret = s1.f.ret ∧ s'.f.op = s1.f.op := by
  unfold beginA at hk
  split at hk
  · obtain ⟨s', k1, k2, k3, k4⟩ := does_wakes g c s1.n.toNat s1 0 hk (Int.le_refl _) (by omega) (by omega) hc hr ho
    exact ⟨_, s', Nat.le_refl _, Does.more hf hs (by unfold Rn.over; rw [hk]; simp) ho k1, k2, k3, k4⟩
  · exact ⟨1, s1, by omega, Does.last hf hs (by unfold Rn.over; rw [hk]; simpa [Wk.zero] using hr), rfl, rfl, rfl⟩

/-- A task's run at a line, afresh. -/
def RnT (n mode : Int) (t : Nat) (op line a b : Int) (L : List Int) : Rn := ⟨n, mode, t, ⟨op, line, a, b, 0, Wk.zero, 0⟩, Acc.zero, [], L⟩
def AtT (n mode : Int) (t : Nat) (s : Rn) (op line a b : Int) (L : List Int) : Prop := s.fresh = RnT n mode t op line a b L
theorem startT_at (n mode : Int) (t : Nat) (op : Int) (L : List Int) : AtT n mode t (startT n mode t op L) op 0 0 0 L := rfl
section
variable {n mode : Int} {t : Nat} {s : Rn} {op line a b line' a' b' : Int} {L L' : List Int} {g : Rn → Rn}
theorem AtT.wk (h : AtT n mode t s op line a b L) : s.f.wk = Wk.zero := congrArg (fun x => x.f.wk) h
theorem AtT.free (h : AtT n mode t s op line a b L) : Free s := Or.inr (congrArg (fun x => x.f.st) h)
theorem AtT.step (h : AtT n mode t s op line a b L) : stepR g s = g (RnT n mode t op line a b L) := by
  unfold stepR
  rw [h.wk]
  show g s.fresh = _
  rw [show s.fresh = _ from h]
theorem AtT.over (h : AtT n mode t s op line a b L) : s.over = false := by unfold Rn.over; rw [show s.f.ret = 0 from congrArg (fun x => x.f.ret) h]; rfl
theorem AtT.op_ (h : AtT n mode t s op line a b L) : s.f.op = op := congrArg (fun x => x.f.op) h
/-- A line, and on. -/
theorem AtT.go {q : Nat} {s' : Rn} (h : AtT n mode t s op line a b L) (h1 : AtT n mode t (g (RnT n mode t op line a b L)) op line' a' b' L') (ho : op ≠ 0) (hd : Does g q (g (RnT n mode t op line a b L)) s') : Does g (q + 1) s s' :=
  Does.more h.free h.step h1.over (by rw [h1.op_]; exact ho) hd
/-- A line that ends the operation. -/
theorem AtT.fin (h : AtT n mode t s op line a b L) (hr : (g (RnT n mode t op line a b L)).f.ret ≠ 0) (hk : (g (RnT n mode t op line a b L)).f.wk = Wk.zero) : Does g 1 s (g (RnT n mode t op line a b L)) :=
  Does.last h.free h.step (by unfold Rn.over; rw [hk]; simpa [Wk.zero] using hr)
/-- A line that ends the operation, and begins a wake-up that finds nobody. -/
theorem AtT.ends {s1 : Rn} (h : AtT n mode t s op line a b L) (c : Int) (hg : g (RnT n mode t op line a b L) = s1) (hr : s1.f.ret ≠ 0) (ho : s1.f.op ≠ 0) (hk : s1.f.wk = beginA s1.mode c) (h1 : 1 ≤ s1.n) (hc : NoWatch s1.n c s1.L) :
    ∃ q s', q ≤ s1.n.toNat + 1 ∧ Does g q s s' ∧ s'.L = s1.L ∧ s'.f.ret = s1.f.ret ∧ s'.f.op = s1.f.op := does_ends c h.free (h.step.trans hg) hk hr ho h1 hc
end

end Go.Proofs.Ytdffdppkdbbdoaa.Z

/- The task-fair lock: many read. No program is in sight. -/
set_option linter.unusedVariables false
set_option linter.unusedSimpArgs false
namespace Go.Proofs.Ytdffdppkdbbdoaa.Z
open Go.RowKit

theorem t3_waitT1 (N : Nat) (u r w n mode task : Int) : waitA (T3 N u r w) n mode task 0 1 (fun v => v == r) = ⟨0, ⟨1, 1, 0, 0, r⟩, true, true, T3 N u r w⟩ := by
  rw [wait_hit (by rw [t3_ld1]; simp), t3_ld1]

/-- So many read: the turn to read has come, the turn to write is behind by as many. -/
def TfReads (N : Nat) (j : Nat) (L : List Int) : Prop := ∃ u : Int, 0 ≤ u ∧ u < 4294967296 ∧ L = T3 N u u ((u - j) % 4294967296)

theorem ahead_few (u : Int) (j : Nat) (hj : j < 64) : aheadA u ((u - j) % 4294967296) = j := by unfold aheadA; omega

theorem tf_together (k : Nat) (d op : Int) (h1 : 2 ≤ k) (h2 : k ≤ 64) (hop : op = 1 ∨ op = 5) : Together tfA k d op (TfReads ((8 + 4 * (k : Int)).toNat - 3)) := by
  have hnw : ∀ c u r w, 0 ≤ c ∧ c ≤ 2 → NoWatch k c (T3 ((8 + 4 * (k : Int)).toNat - 3) u r w) := fun c u r w hc => t3_nowatch k c (by omega) (by omega) hc u r w
  generalize (8 + 4 * (k : Int)).toNat - 3 = N at hnw
  refine ⟨tf_step_same, ?_, ?_, ?_, ?_⟩
  · rintro i j L hi hj ⟨u, hu1, hu2, rfl⟩
    generalize hw : (u - j) % 4294967296 = w
    have hw2 : w = (((u + 1) % 4294967296 - ((j + 1 : Nat) : Int)) % 4294967296) := by omega
    rcases hop with rfl | rfl
    · have k1 : AtT k d i (tfA (RnT k d i 1 0 0 0 (T3 N u u w))) 1 1 u 0 (T3 N ((u + 1) % 4294967296) u w) := by
        simp [AtT, RnT, tfA, tf10, tfTicket, t3_add0, Rn.fresh, Rn.did, Rn.setA, Rn.note, Rn.goto]
      have k2 : AtT k d i (tfA (RnT k d i 1 1 u 0 (T3 N ((u + 1) % 4294967296) u w))) 1 2 u 0 (T3 N ((u + 1) % 4294967296) u w) := by
        simp [AtT, RnT, tfA, tf11, t3_waitT1, Rn.fresh, Rn.waited, Rn.goto]
      have k3 : tfA (RnT k d i 1 2 u 0 (T3 N ((u + 1) % 4294967296) u w)) = tfEnter (RnT k d i 1 2 u 0 (T3 N ((u + 1) % 4294967296) u w)) 4 := by
        simp [RnT, tfA, tf12]
      obtain ⟨q, s', hq, hd, e1, e2, e3⟩ := AtT.ends (g := tfA) k2 1 k3 (by simp [tfEnter, Rn.fin]) (by simp [tfEnter, RnT, Rn.fin, Rn.wake, Rn.note, Rn.did]) rfl (by simp [tfEnter, RnT, Rn.fin, Rn.wake, Rn.note, Rn.did]; omega) (by simp only [tfEnter, RnT, Rn.did, t3_add1, Rn.note, Rn.wake, Rn.fin]; exact hnw 1 _ _ _ (by omega))
      refine ⟨_, s', ?_, (startT_at _ _ _ _ _).go k1 (by decide) (k1.go k2 (by decide) hd), ?_, ?_, ⟨(u + 1) % 4294967296, by omega, by omega, ?_⟩⟩
      · simp [tfEnter, RnT, Rn.fin, Rn.wake, Rn.note, Rn.did] at hq; omega
      · rw [e2]; simp [tfEnter, Rn.fin]
      · rw [e3]; simp [tfEnter, RnT, Rn.fin, Rn.wake, Rn.note, Rn.did]
      · rw [e1, ← hw2]; simp [tfEnter, RnT, Rn.fin, Rn.wake, Rn.note, Rn.did, t3_add1]
    · have k1 : AtT k d i (tfA (RnT k d i 5 0 0 0 (T3 N u u w))) 5 1 u 0 (T3 N u u w) := by
        simp [AtT, RnT, tfA, tf50, t3_ld0, Rn.fresh, Rn.did, Rn.setA, Rn.goto]
      have k2 : AtT k d i (tfA (RnT k d i 5 1 u 0 (T3 N u u w))) 5 2 u u (T3 N u u w) := by
        simp [AtT, RnT, tfA, tf51, tfLook, t3_ld1, ahead_self, Rn.fresh, Rn.did, Rn.setB, Rn.goto]
      have k3 : AtT k d i (tfA (RnT k d i 5 2 u u (T3 N u u w))) 5 3 u u (T3 N ((u + 1) % 4294967296) u w) := by
        simp [AtT, RnT, tfA, tf52, tfTake, t3_cas, t3_casB, Rn.fresh, Rn.did, Rn.note, Rn.goto]
      have k4 : tfA (RnT k d i 5 3 u u (T3 N ((u + 1) % 4294967296) u w)) = tfEnter (RnT k d i 5 3 u u (T3 N ((u + 1) % 4294967296) u w)) 4 := by
        simp [RnT, tfA, tf53]
      obtain ⟨q, s', hq, hd, e1, e2, e3⟩ := AtT.ends (g := tfA) k3 1 k4 (by simp [tfEnter, Rn.fin]) (by simp [tfEnter, RnT, Rn.fin, Rn.wake, Rn.note, Rn.did]) rfl (by simp [tfEnter, RnT, Rn.fin, Rn.wake, Rn.note, Rn.did]; omega) (by simp only [tfEnter, RnT, Rn.did, t3_add1, Rn.note, Rn.wake, Rn.fin]; exact hnw 1 _ _ _ (by omega))
      refine ⟨_, s', ?_, (startT_at _ _ _ _ _).go k1 (by decide) (k1.go k2 (by decide) (k2.go k3 (by decide) hd)), ?_, ?_, ⟨(u + 1) % 4294967296, by omega, by omega, ?_⟩⟩
      · simp [tfEnter, RnT, Rn.fin, Rn.wake, Rn.note, Rn.did] at hq; omega
      · rw [e2]; simp [tfEnter, Rn.fin]
      · rw [e3]; simp [tfEnter, RnT, Rn.fin, Rn.wake, Rn.note, Rn.did]
      · rw [e1, ← hw2]; simp [tfEnter, RnT, Rn.fin, Rn.wake, Rn.note, Rn.did, t3_add1]
  · rintro i j L hi hj ⟨u, hu1, hu2, rfl⟩
    have ha := ahead_few u (j + 1) (by omega)
    have hgt : (((j + 1 : Nat) : Int)) > 0 := by omega
    generalize hx : ((j + 1 : Nat) : Int) = x at ha hgt
    generalize hw : (u - x) % 4294967296 = w at ha
    have k1 : AtT k d i (tfA (RnT k d i 6 0 0 0 (T3 N u u w))) 6 1 u 0 (T3 N u u w) := by
      simp [AtT, RnT, tfA, tf60, t3_ld0, Rn.fresh, Rn.did, Rn.setA, Rn.goto]
    have e1 : tfA (RnT k d i 6 1 u 0 (T3 N u u w)) = (((RnT k d i 6 1 u 0 (T3 N u u w)).did (⟨1, 2, 0, 0, w⟩, true, T3 N u u w)).setB w |>.note 5 0).fin false := by
      simp [RnT, tfA, tf61, tfLook, t3_ld2, ha, hgt, Rn.did, Rn.setB, Rn.note, Rn.fin]
    refine ⟨2, _, by omega, (startT_at _ _ _ _ _).go k1 (by decide) (k1.fin (by rw [e1]; simp [Rn.fin]) (by rw [e1]; rfl)), by rw [e1]; simp [Rn.fin], ?_⟩
    rw [e1]
    exact ⟨u, hu1, hu2, by rw [hx, hw]; rfl⟩
  · rintro i j L hi hj ⟨u, hu1, hu2, rfl⟩
    generalize hw : (u - ((j + 1 : Nat) : Int)) % 4294967296 = w
    have hw2 : (w + 1) % 4294967296 = (u - j) % 4294967296 := by omega
    have k1 : tfA (RnT k d i 2 0 0 0 (T3 N u u w)) = tf20 (RnT k d i 2 0 0 0 (T3 N u u w)) := by
      simp [RnT, tfA]
    obtain ⟨q, s', hq, hd, e1, e2, e3⟩ := AtT.ends (g := tfA) (startT_at k d i 2 (T3 N u u w)) 2 k1 (by simp [tf20, Rn.fin]) (by simp [tf20, RnT, Rn.fin, Rn.wake, Rn.note, Rn.did]) rfl (by simp [tf20, RnT, Rn.fin, Rn.wake, Rn.note, Rn.did]; omega) (by simp only [tf20, RnT, Rn.did, t3_add2, Rn.note, Rn.wake, Rn.fin]; exact hnw 2 _ _ _ (by omega))
    refine ⟨_, s', ?_, hd, ?_, ⟨u, hu1, hu2, ?_⟩⟩
    · simp [tf20, RnT, Rn.fin, Rn.wake, Rn.note, Rn.did] at hq; omega
    · rw [e3]; simp [tf20, RnT, Rn.fin, Rn.wake, Rn.note, Rn.did]
    · rw [e1, ← hw2]; simp [tf20, RnT, Rn.fin, Rn.wake, Rn.note, Rn.did, t3_add2]
  · rintro i L hi ⟨u, hu1, hu2, rfl⟩
    rw [show (u - ((0 : Nat) : Int)) % 4294967296 = u from by omega]
    have k1 : AtT k d i (tfA (RnT k d i 6 0 0 0 (T3 N u u u))) 6 1 u 0 (T3 N u u u) := by
      simp [AtT, RnT, tfA, tf60, t3_ld0, Rn.fresh, Rn.did, Rn.setA, Rn.goto]
    have k2 : AtT k d i (tfA (RnT k d i 6 1 u 0 (T3 N u u u))) 6 2 u u (T3 N u u u) := by
      simp [AtT, RnT, tfA, tf61, tfLook, t3_ld2, ahead_self, Rn.fresh, Rn.did, Rn.setB, Rn.goto]
    obtain ⟨s1, k3⟩ : ∃ s1, tfA (RnT k d i 6 2 u u (T3 N u u u)) = s1 := ⟨_, rfl⟩
    have k4 := k3
    simp [RnT, tfA, tf62, tfTake, t3_cas, t3_casB, Rn.did, Rn.note, Rn.fin] at k4
    subst k4
    refine ⟨3, _, by omega, (startT_at _ _ _ _ _).go k1 (by decide) (k1.go k2 (by decide) (k2.fin (by rw [k3]; simp) (by rw [k3]))), by rw [k3], by rw [k3]⟩

theorem tf_first (k : Nat) (base : Int) (h1 : 1 ≤ k) (h2 : k ≤ 64) (hb : 0 ≤ base ∧ base < 4294967296) : TfReads ((8 + 4 * (k : Int)).toNat - 3) 0 (own1 base ++ List.replicate ((8 + 4 * (k : Int)).toNat - 3) 0) :=
  ⟨base, hb.1, hb.2, by rw [show (base - ((0 : Nat) : Int)) % 4294967296 = base from by omega]; rfl⟩

end Go.Proofs.Ytdffdppkdbbdoaa.Z

/- Law 10: the statement TfTogether. Written by genmat.py. -/
set_option linter.unusedVariables false
set_option linter.unusedSimpArgs false
namespace Go.Proofs.Ytdffdppkdbbdoaa.Z
open Go.RowKit

theorem tfTogether_any (n mode base : Int) (try_ : Bool) (w : World) (hn : 0 ≤ n ∧ n < 256) (hm : 0 ≤ mode ∧ mode < 256) (hb : 0 ≤ base ∧ base < 4294967296) :
    Calls Try.prog 12 #[.int .u8 n, .int .u8 mode, .int .u32 base, .bool try_] w fun e w' => e = .returned (.bool true) ∧ Touch [] w w' := by
  refine tf_together_walk n mode base try_ w hb hn hm (if try_ then 5 else 1) rfl fun k hk => ?_
  have hop : (if try_ = true then (5 : Int) else 1) = 1 ∨ (if try_ = true then (5 : Int) else 1) = 5 := by cases try_ <;> simp
  exact together_ok hop (tf_together k (1 + mode % 2) _ (by omega) (by omega) hop) (tf_first k base (by omega) (by omega) hb) (by omega)

end Go.Proofs.Ytdffdppkdbbdoaa.Z

/- Arguments opened: whole numbers, structs of whole numbers, slices of these. No statement is in sight. -/
set_option linter.unusedVariables false
set_option linter.unusedSimpArgs false
namespace Go.Proofs.Ytdffdppkdbbdoaa.Z
open Go.RowKit Go.ChangeShapes Go.WideShapes Go.ChangeAt Go.Deep

/-- Whatever reads as a value of type t has cells of this form. -/
def Flat (P : Program) (t : TypeId) (ok : List Value → Prop) : Prop :=
  ∀ (H : Type) (enc : TypeId × Value → H) (w : World) (base : Nat) (spare : Nat → Bool) (held : Bool) (fuel : Nat) (cs : List Value) (x : DataW H × List MemPlace),
    DataW.trod enc P w base spare held fuel t cs = some x → ok cs

theorem flat_int {P : Program} {t : TypeId} {k : IntKind} (ht : P.underlying t = some (.int k)) : Flat P t (fun cs => ∃ n, cs = [.int k n] ∧ (Lit.int k n).wf = true) := by
  intro H enc w base spare held fuel cs x h
  obtain ⟨n, h1, _, h2⟩ := DataW.trod_int ht h
  exact ⟨n, h1, h2⟩

theorem flat_bool {P : Program} {t : TypeId} (ht : P.underlying t = some .bool) : Flat P t (fun cs => ∃ b, cs = [.bool b]) := by
  intro H enc w base spare held fuel cs x h
  obtain ⟨n, h1, _⟩ := DataW.trod_bool ht h
  exact ⟨n, h1⟩

theorem flat_mono {P : Program} {t : TypeId} {ok ok' : List Value → Prop} (h : Flat P t ok) (hm : ∀ cs, ok cs → ok' cs) : Flat P t ok' :=
  fun H enc w base spare held fuel cs x hx => hm _ (h H enc w base spare held fuel cs x hx)

/-- A struct: each field's cells are of that field's form. -/
theorem flat_struct {P : Program} {t : TypeId} {fs : Array Field} (ht : P.underlying t = some (.struct fs)) :
    Flat P t (fun cs => cs.length = P.cellsOf t ∧ ∀ (i : Nat) (f : Field) (ok : List Value → Prop), fs[i]? = some f → Flat P f.type ok → ok ((cs.drop f.offset).take (P.cellsOf f.type))) := by
  intro H enc w base spare held fuel cs x h
  obtain ⟨xs, n, _, _, hl, hxl, hf⟩ := DataW.trod_struct ht h
  refine ⟨hl, fun i f ok hi hok => ?_⟩
  have hil : i < fs.size := (Array.getElem?_eq_some_iff.1 hi).1
  have := hf i f hi
  rw [List.getElem?_eq_getElem (by omega)] at this
  exact hok H enc w base spare held n _ _ this

theorem wf_u32 {n : Int} (h : (Lit.int .u32 n).wf = true) : 0 ≤ n ∧ n < 4294967296 := by
  simp [Lit.wf, IntKind.min, IntKind.max, IntKind.signed, IntKind.bits] at h; omega
theorem wf_u8 {n : Int} (h : (Lit.int .u8 n).wf = true) : 0 ≤ n ∧ n < 256 := by
  simp [Lit.wf, IntKind.min, IntKind.max, IntKind.signed, IntKind.bits] at h; omega
theorem wf_i64 {n : Int} (h : (Lit.int .i64 n).wf = true) : -9223372036854775808 ≤ n ∧ n ≤ 9223372036854775807 := by
  simp [Lit.wf, IntKind.min, IntKind.max, IntKind.signed, IntKind.bits] at h; omega
theorem wf_i32 {n : Int} (h : (Lit.int .i32 n).wf = true) : -2147483648 ≤ n ∧ n < 2147483648 := by
  simp [Lit.wf, IntKind.min, IntKind.max, IntKind.signed, IntKind.bits] at h; omega

theorem flatMap_at {α : Type} {dec : α → List Value} {size : Nat} (hs : 0 < size) (hlen : ∀ a, (dec a).length = size) : ∀ (l : List α) (i j : Nat) (h : i < l.length), j < size → (l.flatMap dec)[i * size + j]? = (dec l[i])[j]? := by
  intro l
  induction l with
  | nil => intro i j h; simp at h
  | cons a l ih =>
    intro i j h hj
    rw [List.flatMap_cons]
    cases i with
    | zero =>
      rw [List.getElem?_append_left (by rw [hlen]; omega)]
      simp
    | succ i =>
      rw [List.getElem?_append_right (by rw [hlen, Nat.succ_mul]; omega), hlen, show (i + 1) * size + j - size = i * size + j by rw [Nat.succ_mul]; omega, ih i j (by simpa using h) hj]
      rfl

theorem flatMap_length {α : Type} {dec : α → List Value} {size : Nat} (hlen : ∀ a, (dec a).length = size) (l : List α) : (l.flatMap dec).length = l.length * size := by
  induction l with
  | nil => simp
  | cons a l ih => rw [List.flatMap_cons, List.length_append, ih, hlen, List.length_cons, Nat.succ_mul]; omega

/-- A slice of flat elements, as a list. -/
theorem open_list {P : Program} {H : Type} {enc : TypeId × Value → H} {w : World} {t e : TypeId} {α : Type} {dec : α → List Value} {ok : α → Prop} {size : Nat} {A : Option Addr} {n c : Nat} {d : DataW H} {p : List MemPlace}
    (ht : P.underlying t = some (.slice e)) (hF : Flat P e (fun cs => ∃ a, ok a ∧ cs = dec a)) (hC : P.cellsOf e = size) (hs : 0 < size) (hlen : ∀ a, (dec a).length = size)
    (h : DataW.Trod enc P w 0 (fun _ => true) true t (.slice A n c) d p) (lt : ∀ x ∈ p, x.block < w.heap.size) :
    ∃ l : List α, l.length = n ∧ (∀ a, a ∈ l → ok a) ∧ Rd w size A n (l.flatMap dec) ∧ n ≤ c ∧ c ≤ 9223372036854775807 := by
  obtain ⟨fuel, hf⟩ := h
  rcases open_slice ht hf with ⟨hcs, _⟩ | ⟨a, len, cap, m, n', D, Pl, hcs, hb, hl, hm, hmm, hx, hi⟩
  · simp [Value.cells] at hcs
    obtain ⟨rfl, rfl, rfl⟩ := hcs
    exact ⟨[], rfl, by simp, Rd.nil _ _ _, Nat.le_refl _, by decide⟩
  · simp [Value.cells] at hcs
    obtain ⟨rfl, rfl, rfl⟩ := hcs
    simp at hmm
    subst hmm
    have hE : ∀ i, i < n → ∃ y : α, ok y ∧ ∀ j, j < size → w.cell? (a.add (i * size + j)) = (dec y)[j]? := by
      intro i hin
      obtain ⟨cs', hc, htr⟩ := hi i (by omega)
      obtain ⟨y, hy, rfl⟩ := hF H enc w 0 _ true n' cs' _ htr
      rw [hC] at hc
      obtain ⟨_, hcl, hat⟩ := World.cells?_some hc
      exact ⟨y, hy, fun j hj => by rw [← Go.Deep.add_add]; exact hat j hj⟩
    have hL : ∀ n0, n0 ≤ n → ∃ l : List α, l.length = n0 ∧ ∀ i (h : i < l.length), ok l[i] ∧ ∀ j, j < size → w.cell? (a.add (i * size + j)) = (dec l[i])[j]? := by
      intro n0
      induction n0 with
      | zero => intro _; exact ⟨[], rfl, fun i h => by simp at h⟩
      | succ k ih =>
        intro hk
        obtain ⟨l, hl, hlp⟩ := ih (by omega)
        obtain ⟨y, hy, hyc⟩ := hE k (by omega)
        refine ⟨l ++ [y], by simp [hl], fun i h => ?_⟩
        by_cases hik : i < l.length
        · rw [List.getElem_append_left hik]; exact hlp i hik
        · have : i = k := by simp at h; omega
          subst this
          rw [List.getElem_append_right (by omega)]
          simp [hl]
          exact ⟨hy, hyc⟩
    obtain ⟨l, hll, hlp⟩ := hL n (Nat.le_refl _)
    refine ⟨l, hll, fun y hy => ?_, ⟨by rw [flatMap_length hlen, hll], fun h0 => ⟨a, rfl, ?_, fun j u hu => ?_⟩⟩, hl, hm⟩
    · obtain ⟨i, hi, rfl⟩ := List.getElem_of_mem hy
      exact (hlp i hi).1
    · have := (hlp 0 (by omega)).2 0 hs
      have h1 : (dec l[0])[0]? = some ((dec l[0])[0]'(by rw [hlen]; exact hs)) := List.getElem?_eq_getElem _
      rw [h1] at this
      have := World.block_lt_of_cell? w _ this
      rw [addr_block] at this
      exact this
    · have hj : j < l.length * size := by
        have := (List.getElem?_eq_some_iff.1 hu).1
        rwa [flatMap_length hlen] at this
      have e := Nat.div_add_mod j size
      have hd : j / size < l.length := Nat.div_lt_of_lt_mul (by rw [Nat.mul_comm]; exact hj)
      have hm := Nat.mod_lt j hs
      rw [Nat.mul_comm] at e
      have := (hlp _ hd).2 _ hm
      rw [e] at this
      rw [this, ← flatMap_at hs hlen l _ _ hd hm, e, hu]

/-- A struct by value, as its cells. -/
theorem open_flat {P : Program} {H : Type} {enc : TypeId × Value → H} {w : World} {t : TypeId} {fs : Array Field} {α : Type} {dec : α → List Value} {ok : α → Prop} {v : Value} {d : DataW H} {p : List MemPlace} {r : Reach} {base : Nat}
    (ht : P.underlying t = some (.struct fs)) (hF : Flat P t (fun cs => ∃ a, ok a ∧ cs = dec a)) (hv : Value.okWide P w r base t v) (h : DataW.Trod enc P w 0 (fun _ => true) true t v d p) :
    ∃ a, ok a ∧ v = .agg (dec a).toArray := by
  obtain ⟨cs, rfl, _⟩ := okWide_struct ht hv
  obtain ⟨fuel, hf⟩ := h
  obtain ⟨a, ha, hc⟩ := hF H enc w 0 _ true fuel _ _ hf
  refine ⟨a, ha, ?_⟩
  rw [← hc]
  simp [Value.cells]

/-- A number's value, its data left as they are. -/
theorem open_num {P : Program} {H : Type} {enc : TypeId × Value → H} {w : World} {t : TypeId} {k : IntKind} {v : Value} {d : DataW H} {p : List MemPlace} {r : Reach} {base : Nat}
    (ht : P.underlying t = some (.int k)) (hv : Value.okWide P w r base t v) (h : DataW.Trod enc P w 0 (fun _ => true) true t v d p) : ∃ n, v = .int k n ∧ (Lit.int k n).wf = true := by
  obtain ⟨n, h1, _, _, h2⟩ := open_int ht hv h
  exact ⟨n, h1, h2⟩

theorem open_truth {P : Program} {H : Type} {enc : TypeId × Value → H} {w : World} {t : TypeId} {v : Value} {d : DataW H} {p : List MemPlace} {r : Reach} {base : Nat}
    (ht : P.underlying t = some .bool) (hv : Value.okWide P w r base t v) (h : DataW.Trod enc P w 0 (fun _ => true) true t v d p) : ∃ b, v = .bool b := by
  obtain ⟨n, h1, _⟩ := open_bool ht hv h
  exact ⟨n, h1⟩

end Go.Proofs.Ytdffdppkdbbdoaa.Z
