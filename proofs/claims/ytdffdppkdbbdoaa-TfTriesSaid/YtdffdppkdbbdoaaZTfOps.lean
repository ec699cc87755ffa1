/- The task-fair lock: its operations, each by itself. No program is in sight. -/
import Derived.Test.YtdffdppkdbbdoaaZTfFine
import Derived.Test.YtdffdppkdbbdoaaZAlone2
set_option linter.unusedVariables false
set_option linter.unusedSimpArgs false
namespace Go.Proofs.Ytdffdppkdbbdoaa.Z
open Go.RowKit

/-- The three cells, and nothing besides. -/
def T3 (N : Nat) (u r w : Int) : List Int := u :: r :: w :: List.replicate N 0
theorem t3_len (N : Nat) (u r w : Int) : (T3 N u r w).length = N + 3 := by simp [T3]
section
variable (N : Nat) (u r w : Int)
theorem t3_ld0 : doA (T3 N u r w) ⟨1, 0, 0, 0, 0⟩ = (⟨1, 0, 0, 0, u⟩, true, T3 N u r w) := by
  unfold doA
  rw [if_pos (by rw [t3_len]; dsimp only; omega)]
  simp [T3]
theorem t3_ld1 : doA (T3 N u r w) ⟨1, 1, 0, 0, 0⟩ = (⟨1, 1, 0, 0, r⟩, true, T3 N u r w) := by
  unfold doA
  rw [if_pos (by rw [t3_len]; dsimp only; omega)]
  simp [T3]
theorem t3_ld2 : doA (T3 N u r w) ⟨1, 2, 0, 0, 0⟩ = (⟨1, 2, 0, 0, w⟩, true, T3 N u r w) := by
  unfold doA
  rw [if_pos (by rw [t3_len]; dsimp only; omega)]
  simp [T3]
theorem t3_add0 : doA (T3 N u r w) ⟨3, 0, 1, 0, 0⟩ = (⟨3, 0, 1, 0, u⟩, true, T3 N ((u + 1) % 4294967296) r w) := by
  unfold doA
  rw [if_pos (by rw [t3_len]; dsimp only; omega)]
  simp [T3]
theorem t3_add1 : doA (T3 N u r w) ⟨3, 1, 1, 0, 0⟩ = (⟨3, 1, 1, 0, r⟩, true, T3 N u ((r + 1) % 4294967296) w) := by
  unfold doA
  rw [if_pos (by rw [t3_len]; dsimp only; omega)]
  simp [T3]
theorem t3_add2 : doA (T3 N u r w) ⟨3, 2, 1, 0, 0⟩ = (⟨3, 2, 1, 0, w⟩, true, T3 N u r ((w + 1) % 4294967296)) := by
  unfold doA
  rw [if_pos (by rw [t3_len]; dsimp only; omega)]
  simp [T3]
theorem t3_cas (x y : Int) : doA (T3 N u r w) ⟨5, 0, x, y, 0⟩ = (⟨5, 0, x, y, u⟩, true, if u = x then T3 N y r w else T3 N u r w) := by
  unfold doA
  rw [if_pos (by rw [t3_len]; dsimp only; omega)]
  by_cases h : u = x
  · simp [T3, h]
  · simp [T3, h]
theorem t3_casB (x y : Int) : casB (T3 N u r w) 0 x y = (u == x) := by
  unfold casB
  rw [t3_cas]
  simp
theorem t3_wait1 (n mode : Int) : waitA (T3 N u r w) n mode 0 0 1 (fun v => v == r) = ⟨0, ⟨1, 1, 0, 0, r⟩, true, true, T3 N u r w⟩ := by
  rw [wait_hit (by rw [t3_ld1]; simp), t3_ld1]
theorem t3_wait2 (n mode : Int) : waitA (T3 N u r w) n mode 0 0 2 (fun v => v == w) = ⟨0, ⟨1, 2, 0, 0, w⟩, true, true, T3 N u r w⟩ := by
  rw [wait_hit (by rw [t3_ld2]; simp), t3_ld2]
end
theorem t3_nowatch (n c : Int) (h1 : 1 ≤ n) (h2 : n ≤ 64) (hc : 0 ≤ c ∧ c ≤ 2) (u r w : Int) : NoWatch n c (T3 ((8 + 4 * n).toNat - 3) u r w) := by
  intro i h0 hi
  have hcl : cellP n 2 i = 8 + 2 * n + i := by unfold cellP; rw [if_pos (by omega)]
  have hlt : 0 ≤ 8 + 2 * n + i ∧ 8 + 2 * n + i < ((T3 ((8 + 4 * n).toNat - 3) u r w).length : Int) := by rw [t3_len]; omega
  obtain ⟨j, hj⟩ : ∃ j : Nat, (8 + 2 * n + i).toNat = j + 3 := ⟨(8 + 2 * n + i).toNat - 3, by omega⟩
  have hg : (T3 ((8 + 4 * n).toNat - 3) u r w).getD (8 + 2 * n + i).toNat 0 = 0 := by
    rw [hj]
    show (List.replicate _ (0 : Int)).getD j 0 = 0
    rw [List.getD_eq_getElem?_getD, List.getElem?_replicate]
    split <;> rfl
  rw [hcl]
  unfold doA
  rw [if_pos hlt]
  refine ⟨by simp, ?_⟩
  simp only [if_true]
  rw [hg]
  omega
theorem ahead_self (u : Int) : aheadA u u = 0 := by unfold aheadA; omega
theorem ahead_one (w : Int) (hw : 0 ≤ w ∧ w < 4294967296) : aheadA ((w + 1) % 4294967296) w = 1 := by unfold aheadA; omega

section
variable (n mode : Int)
theorem tfo_rlock (h1 : 1 ≤ n) (h2 : n ≤ 64) (q : Nat) (u w : Int) : ∃ s, aloneA tfA (q + n.toNat + 3) (start n mode 1 (T3 ((8 + 4 * n).toNat - 3) u u w)) = (2, s) ∧ s.L = T3 ((8 + 4 * n).toNat - 3) ((u + 1) % 4294967296) ((u + 1) % 4294967296) w := by
  have k1 : At n mode (tfA (RnF n mode 1 0 0 0 (T3 ((8 + 4 * n).toNat - 3) u u w))) 1 1 u 0 (T3 ((8 + 4 * n).toNat - 3) ((u + 1) % 4294967296) u w) := by
    simp [At, RnF, tfA, tf10, tfTicket, t3_add0, Rn.fresh, Rn.did, Rn.setA, Rn.note, Rn.goto]
  have k2 : At n mode (tfA (RnF n mode 1 1 u 0 (T3 ((8 + 4 * n).toNat - 3) ((u + 1) % 4294967296) u w))) 1 2 u 0 (T3 ((8 + 4 * n).toNat - 3) ((u + 1) % 4294967296) u w) := by
    simp [At, RnF, tfA, tf11, t3_wait1, Rn.fresh, Rn.waited, Rn.goto]
  have k3 : tfA (RnF n mode 1 2 u 0 (T3 ((8 + 4 * n).toNat - 3) ((u + 1) % 4294967296) u w)) = (tfEnter (RnF n mode 1 2 u 0 (T3 ((8 + 4 * n).toNat - 3) ((u + 1) % 4294967296) u w)) 4) := by
    simp [RnF, tfA, tf12]
  obtain ⟨s', e1, e2⟩ := At.ends (g := tfA) k2 1 k3 (by simp [tfEnter, Rn.fin]) rfl rfl h1 (by simp only [tfEnter, RnF, Rn.did, t3_add1, Rn.note, Rn.wake, Rn.fin]; exact t3_nowatch n 1 h1 h2 (by omega) _ _ _) q
  refine ⟨s', ?_, ?_⟩
  · rw [show q + n.toNat + 3 = (q + n.toNat + 1 + 1) + 1 from rfl, At.go (g := tfA) start_at rfl k1, At.go (g := tfA) k1 rfl k2, e1]
    rfl
  · rw [e2]
    simp [tfEnter, RnF, Rn.did, t3_add1, Rn.note, Rn.wake, Rn.fin]
theorem tfo_runlock (h1 : 1 ≤ n) (h2 : n ≤ 64) (q : Nat) (u r w : Int) : ∃ s, aloneA tfA (q + n.toNat + 1) (start n mode 2 (T3 ((8 + 4 * n).toNat - 3) u r w)) = (2, s) ∧ s.L = T3 ((8 + 4 * n).toNat - 3) u r ((w + 1) % 4294967296) := by
  have k3 : tfA (RnF n mode 2 0 0 0 (T3 ((8 + 4 * n).toNat - 3) u r w)) = tf20 (RnF n mode 2 0 0 0 (T3 ((8 + 4 * n).toNat - 3) u r w)) := by
    simp [RnF, tfA]
  obtain ⟨s', e1, e2⟩ := At.ends (g := tfA) (start_at (n := n) (mode := mode) (op := 2)) 2 k3 (by simp [tf20, Rn.fin]) rfl rfl h1 (by simp only [tf20, RnF, Rn.did, t3_add2, Rn.note, Rn.wake, Rn.fin]; exact t3_nowatch n 2 h1 h2 (by omega) _ _ _) q
  refine ⟨s', ?_, ?_⟩
  · rw [e1]
    rfl
  · rw [e2]
    simp [tf20, RnF, Rn.did, t3_add2, Rn.note, Rn.wake, Rn.fin]
theorem tfo_lock (h1 : 1 ≤ n) (h2 : n ≤ 64) (q : Nat) (u r : Int) : ∃ s, aloneA tfA (q + 2) (start n mode 3 (T3 ((8 + 4 * n).toNat - 3) u r u)) = (2, s) ∧ s.L = T3 ((8 + 4 * n).toNat - 3) ((u + 1) % 4294967296) r u := by
  have k1 : At n mode (tfA (RnF n mode 3 0 0 0 (T3 ((8 + 4 * n).toNat - 3) u r u))) 3 1 u 0 (T3 ((8 + 4 * n).toNat - 3) ((u + 1) % 4294967296) r u) := by
    simp [At, RnF, tfA, tf30, tfTicket, t3_add0, Rn.fresh, Rn.did, Rn.setA, Rn.note, Rn.goto]
  have k2 : tfA (RnF n mode 3 1 u 0 (T3 ((8 + 4 * n).toNat - 3) ((u + 1) % 4294967296) r u)) = tf31 (RnF n mode 3 1 u 0 (T3 ((8 + 4 * n).toNat - 3) ((u + 1) % 4294967296) r u)) := by
    simp [RnF, tfA]
  obtain ⟨s', e1, e2⟩ := At.fin2 (g := tfA) k1 k2 (by simp [tf31, RnF, t3_wait2, Rn.fin]) (by simp [tf31, RnF, t3_wait2, Rn.fin, Rn.waited, Rn.note]) q
  refine ⟨s', ?_, ?_⟩
  · rw [show q + 2 = (q + 1) + 1 from rfl, At.go (g := tfA) start_at rfl k1, e1]
    simp [tf31, RnF, t3_wait2, Rn.fin]
  · rw [e2]
    simp [tf31, RnF, t3_wait2, Rn.fin, Rn.waited, Rn.note]
theorem tfo_unlock (h1 : 1 ≤ n) (h2 : n ≤ 64) (q : Nat) (u r w : Int) : ∃ s, aloneA tfA (q + n.toNat + 1 + n.toNat + 1) (start n mode 4 (T3 ((8 + 4 * n).toNat - 3) u r w)) = (2, s) ∧ s.L = T3 ((8 + 4 * n).toNat - 3) u ((r + 1) % 4294967296) ((w + 1) % 4294967296) := by
  have k1 : tfA (RnF n mode 4 0 0 0 (T3 ((8 + 4 * n).toNat - 3) u r w)) = tf40 (RnF n mode 4 0 0 0 (T3 ((8 + 4 * n).toNat - 3) u r w)) := by
    simp [RnF, tfA]
  obtain ⟨s1, q1, a1, hq, e1⟩ := At.wakes (g := tfA) (start_at (n := n) (mode := mode) (op := 4)) (line' := 1) (a' := 0) (b' := 0) (L' := T3 ((8 + 4 * n).toNat - 3) u ((r + 1) % 4294967296) w) 1 k1 (by simp [tf40, RnF, Rn.did, t3_add1, Rn.note, Rn.wake, Rn.goto, Rn.rests]) rfl h1 (t3_nowatch n 1 h1 h2 (by omega) _ _ _) (q + n.toNat + 1)
  have k3 : tfA (RnF n mode 4 1 0 0 (T3 ((8 + 4 * n).toNat - 3) u ((r + 1) % 4294967296) w)) = tf41 (RnF n mode 4 1 0 0 (T3 ((8 + 4 * n).toNat - 3) u ((r + 1) % 4294967296) w)) := by
    simp [RnF, tfA]
  obtain ⟨s', e2, e3⟩ := At.ends (g := tfA) a1 2 k3 (by simp [tf41, Rn.fin]) rfl rfl h1 (by simp only [tf41, RnF, Rn.did, t3_add2, Rn.note, Rn.wake, Rn.fin]; exact t3_nowatch n 2 h1 h2 (by omega) _ _ _) (q1 - n.toNat - 1)
  refine ⟨s', ?_, ?_⟩
  · rw [e1]
    rw [show q1 - n.toNat - 1 + n.toNat + 1 = q1 from by omega] at e2
    rw [e2]
    rfl
  · rw [e3]
    simp [tf41, RnF, Rn.did, t3_add2, Rn.note, Rn.wake, Rn.fin]
theorem tfo_tryr (h1 : 1 ≤ n) (h2 : n ≤ 64) (q : Nat) (u w : Int) : ∃ s, aloneA tfA (q + n.toNat + 4) (start n mode 5 (T3 ((8 + 4 * n).toNat - 3) u u w)) = (2, s) ∧ s.L = T3 ((8 + 4 * n).toNat - 3) ((u + 1) % 4294967296) ((u + 1) % 4294967296) w := by
  have k1 : At n mode (tfA (RnF n mode 5 0 0 0 (T3 ((8 + 4 * n).toNat - 3) u u w))) 5 1 u 0 (T3 ((8 + 4 * n).toNat - 3) u u w) := by
    simp [At, RnF, tfA, tf50, t3_ld0, Rn.fresh, Rn.did, Rn.setA, Rn.goto]
  have k2 : At n mode (tfA (RnF n mode 5 1 u 0 (T3 ((8 + 4 * n).toNat - 3) u u w))) 5 2 u u (T3 ((8 + 4 * n).toNat - 3) u u w) := by
    simp [At, RnF, tfA, tf51, tfLook, t3_ld1, ahead_self, Rn.fresh, Rn.did, Rn.setB, Rn.goto]
  have k3 : At n mode (tfA (RnF n mode 5 2 u u (T3 ((8 + 4 * n).toNat - 3) u u w))) 5 3 u u (T3 ((8 + 4 * n).toNat - 3) ((u + 1) % 4294967296) u w) := by
    simp [At, RnF, tfA, tf52, tfTake, t3_cas, t3_casB, Rn.fresh, Rn.did, Rn.note, Rn.goto]
  have k4 : tfA (RnF n mode 5 3 u u (T3 ((8 + 4 * n).toNat - 3) ((u + 1) % 4294967296) u w)) = (tfEnter (RnF n mode 5 3 u u (T3 ((8 + 4 * n).toNat - 3) ((u + 1) % 4294967296) u w)) 4) := by
    simp [RnF, tfA, tf53]
  obtain ⟨s', e1, e2⟩ := At.ends (g := tfA) k3 1 k4 (by simp [tfEnter, Rn.fin]) rfl rfl h1 (by simp only [tfEnter, RnF, Rn.did, t3_add1, Rn.note, Rn.wake, Rn.fin]; exact t3_nowatch n 1 h1 h2 (by omega) _ _ _) q
  refine ⟨s', ?_, ?_⟩
  · rw [show q + n.toNat + 4 = (q + n.toNat + 1 + 1 + 1) + 1 from rfl, At.go (g := tfA) start_at rfl k1, At.go (g := tfA) k1 rfl k2, At.go (g := tfA) k2 rfl k3, e1]
    rfl
  · rw [e2]
    simp [tfEnter, RnF, Rn.did, t3_add1, Rn.note, Rn.wake, Rn.fin]
theorem tfo_tryw (h1 : 1 ≤ n) (h2 : n ≤ 64) (q : Nat) (u r : Int) : ∃ s, aloneA tfA (q + 3) (start n mode 6 (T3 ((8 + 4 * n).toNat - 3) u r u)) = (2, s) ∧ s.L = T3 ((8 + 4 * n).toNat - 3) ((u + 1) % 4294967296) r u := by
  have k1 : At n mode (tfA (RnF n mode 6 0 0 0 (T3 ((8 + 4 * n).toNat - 3) u r u))) 6 1 u 0 (T3 ((8 + 4 * n).toNat - 3) u r u) := by
    simp [At, RnF, tfA, tf60, t3_ld0, Rn.fresh, Rn.did, Rn.setA, Rn.goto]
  have k2 : At n mode (tfA (RnF n mode 6 1 u 0 (T3 ((8 + 4 * n).toNat - 3) u r u))) 6 2 u u (T3 ((8 + 4 * n).toNat - 3) u r u) := by
    simp [At, RnF, tfA, tf61, tfLook, t3_ld2, ahead_self, Rn.fresh, Rn.did, Rn.setB, Rn.goto]
  obtain ⟨s1, k3⟩ : ∃ s1, tfA (RnF n mode 6 2 u u (T3 ((8 + 4 * n).toNat - 3) u r u)) = s1 := ⟨_, rfl⟩
  have k4 := k3
  simp [RnF, tfA, tf62, tfTake, t3_cas, t3_casB, Rn.did, Rn.note, Rn.fin] at k4
  subst k4
  obtain ⟨s', e1, e2⟩ := At.fin2 (g := tfA) k2 k3 (by simp) rfl q
  refine ⟨s', ?_, e2⟩
  rw [show q + 3 = (q + 1 + 1) + 1 from rfl, At.go (g := tfA) start_at rfl k1, At.go (g := tfA) k1 rfl k2, e1]
theorem tfo_up (h1 : 1 ≤ n) (h2 : n ≤ 64) (q : Nat) (r w : Int) (hw : 0 ≤ w ∧ w < 4294967296) : ∃ s, aloneA tfA (q + 4) (start n mode 7 (T3 ((8 + 4 * n).toNat - 3) ((w + 1) % 4294967296) r w)) = (2, s) ∧ s.L = T3 ((8 + 4 * n).toNat - 3) (((w + 1) % 4294967296 + 1) % 4294967296) r ((w + 1) % 4294967296) := by
  have k1 : At n mode (tfA (RnF n mode 7 0 0 0 (T3 ((8 + 4 * n).toNat - 3) ((w + 1) % 4294967296) r w))) 7 1 ((w + 1) % 4294967296) 0 (T3 ((8 + 4 * n).toNat - 3) ((w + 1) % 4294967296) r w) := by
    simp [At, RnF, tfA, tf70, t3_ld0, Rn.fresh, Rn.did, Rn.setA, Rn.goto]
  have k2 : At n mode (tfA (RnF n mode 7 1 ((w + 1) % 4294967296) 0 (T3 ((8 + 4 * n).toNat - 3) ((w + 1) % 4294967296) r w))) 7 2 ((w + 1) % 4294967296) w (T3 ((8 + 4 * n).toNat - 3) ((w + 1) % 4294967296) r w) := by
    simp [At, RnF, tfA, tf71, tfLook, t3_ld2, ahead_one w hw, Rn.fresh, Rn.did, Rn.setB, Rn.goto]
  have k3 : At n mode (tfA (RnF n mode 7 2 ((w + 1) % 4294967296) w (T3 ((8 + 4 * n).toNat - 3) ((w + 1) % 4294967296) r w))) 7 3 ((w + 1) % 4294967296) w (T3 ((8 + 4 * n).toNat - 3) (((w + 1) % 4294967296 + 1) % 4294967296) r w) := by
    unfold At RnF tfA
    simp [tf72, tfTake, t3_cas, t3_casB, Rn.fresh, Rn.did, Rn.note, Rn.goto]
  obtain ⟨s1, k4⟩ : ∃ s1, tfA (RnF n mode 7 3 ((w + 1) % 4294967296) w (T3 ((8 + 4 * n).toNat - 3) (((w + 1) % 4294967296 + 1) % 4294967296) r w)) = s1 := ⟨_, rfl⟩
  have k5 : s1 = tf73 (RnF n mode 7 3 ((w + 1) % 4294967296) w (T3 ((8 + 4 * n).toNat - 3) (((w + 1) % 4294967296 + 1) % 4294967296) r w)) := by rw [← k4]; simp only [RnF, tfA]; rfl
  subst k5
  obtain ⟨s', e1, e2⟩ := At.fin2 (g := tfA) k3 k4 (by simp [tf73, Rn.fin]) rfl q
  refine ⟨s', ?_, ?_⟩
  · rw [show q + 4 = (q + 1 + 1 + 1) + 1 from rfl, At.go (g := tfA) start_at rfl k1, At.go (g := tfA) k1 rfl k2, At.go (g := tfA) k2 rfl k3, e1]
    rfl
  · rw [e2]
    simp only [tf73, RnF, Rn.did, t3_add2, Rn.fin]
theorem tfo_down (h1 : 1 ≤ n) (h2 : n ≤ 64) (q : Nat) (u r w : Int) : ∃ s, aloneA tfA (q + n.toNat + 1) (start n mode 8 (T3 ((8 + 4 * n).toNat - 3) u r w)) = (2, s) ∧ s.L = T3 ((8 + 4 * n).toNat - 3) u ((r + 1) % 4294967296) w := by
  have k3 : tfA (RnF n mode 8 0 0 0 (T3 ((8 + 4 * n).toNat - 3) u r w)) = tfEnter (RnF n mode 8 0 0 0 (T3 ((8 + 4 * n).toNat - 3) u r w)) 10 := by
    simp [RnF, tfA, tf80]
  obtain ⟨s', e1, e2⟩ := At.ends (g := tfA) (start_at (n := n) (mode := mode) (op := 8)) 1 k3 (by simp [tfEnter, Rn.fin]) rfl rfl h1 (by simp only [tfEnter, RnF, Rn.did, t3_add1, Rn.note, Rn.wake, Rn.fin]; exact t3_nowatch n 1 h1 h2 (by omega) _ _ _) q
  refine ⟨s', ?_, ?_⟩
  · rw [e1]
    rfl
  · rw [e2]
    simp [tfEnter, RnF, Rn.did, t3_add1, Rn.note, Rn.wake, Rn.fin]
theorem tfo_tryr_no (q : Nat) (N : Nat) (r w : Int) (hr : 0 ≤ r ∧ r < 4294967296) : ∃ s, aloneA tfA (q + 2) (start n mode 5 (T3 N ((r + 1) % 4294967296) r w)) = (1, s) ∧ s.L = T3 N ((r + 1) % 4294967296) r w := by
  have k1 : At n mode (tfA (RnF n mode 5 0 0 0 (T3 N ((r + 1) % 4294967296) r w))) 5 1 ((r + 1) % 4294967296) 0 (T3 N ((r + 1) % 4294967296) r w) := by
    simp [At, RnF, tfA, tf50, t3_ld0, Rn.fresh, Rn.did, Rn.setA, Rn.goto]
  obtain ⟨s1, k3⟩ : ∃ s1, tfA (RnF n mode 5 1 ((r + 1) % 4294967296) 0 (T3 N ((r + 1) % 4294967296) r w)) = s1 := ⟨_, rfl⟩
  have k4 := k3
  simp [RnF, tfA, tf51, tfLook, t3_ld1, ahead_one r hr, Rn.did, Rn.setB, Rn.note, Rn.fin] at k4
  subst k4
  obtain ⟨s', e1, e2⟩ := At.fin2 (g := tfA) k1 k3 (by simp) rfl q
  refine ⟨s', ?_, e2⟩
  rw [show q + 2 = (q + 1) + 1 from rfl, At.go (g := tfA) start_at rfl k1, e1]
theorem tfo_tryw_no (q : Nat) (N : Nat) (r w : Int) (hw : 0 ≤ w ∧ w < 4294967296) : ∃ s, aloneA tfA (q + 2) (start n mode 6 (T3 N ((w + 1) % 4294967296) r w)) = (1, s) ∧ s.L = T3 N ((w + 1) % 4294967296) r w := by
  have k1 : At n mode (tfA (RnF n mode 6 0 0 0 (T3 N ((w + 1) % 4294967296) r w))) 6 1 ((w + 1) % 4294967296) 0 (T3 N ((w + 1) % 4294967296) r w) := by
    simp [At, RnF, tfA, tf60, t3_ld0, Rn.fresh, Rn.did, Rn.setA, Rn.goto]
  obtain ⟨s1, k3⟩ : ∃ s1, tfA (RnF n mode 6 1 ((w + 1) % 4294967296) 0 (T3 N ((w + 1) % 4294967296) r w)) = s1 := ⟨_, rfl⟩
  have k4 := k3
  simp [RnF, tfA, tf61, tfLook, t3_ld2, ahead_one w hw, Rn.did, Rn.setB, Rn.note, Rn.fin] at k4
  subst k4
  obtain ⟨s', e1, e2⟩ := At.fin2 (g := tfA) k1 k3 (by simp) rfl q
  refine ⟨s', ?_, e2⟩
  rw [show q + 2 = (q + 1) + 1 from rfl, At.go (g := tfA) start_at rfl k1, e1]
end

/-- What one holds, what is tried, what that tells. -/
def tfTry : List (Int × Int × Int) := [(3, 5, 1), (3, 6, 1), (1, 6, 1), (1, 5, 2)]

/-- WHILE ONE HOLDS WHAT CONFLICTS A TRY IS REFUSED AT ONCE, AND NOTHING IS LEFT OF IT. -/
theorem tf_tries (n mode base : Int) (most : Nat) (h1 : 1 ≤ n) (h2 : n ≤ 64) (hb : 0 ≤ base ∧ base < 4294967296) (hm : 2 * n.toNat + 6 ≤ most) : ∀ x0 x1 x2, (x0, x1, x2) ∈ tfTry →
    ∃ s1 s2, aloneA tfA most (start n mode x0 (T3 ((8 + 4 * n).toNat - 3) base base base)) = (2, s1) ∧ aloneA tfA most (start n mode x1 s1.L) = (x2, s2) ∧ (x2 = 1 → s2.L = s1.L) := by
  have a1 := tfo_rlock n mode h1 h2 (most - n.toNat - 3) base base
  have a3 := tfo_lock n mode h1 h2 (most - 2) base base
  have a4 := tfo_tryr_no n mode (most - 2) ((8 + 4 * n).toNat - 3) base base hb
  have a5 := tfo_tryw_no n mode (most - 2) ((8 + 4 * n).toNat - 3) base base hb
  have a6 := tfo_tryw_no n mode (most - 2) ((8 + 4 * n).toNat - 3) ((base + 1) % 4294967296) base hb
  have a7 := tfo_tryr n mode h1 h2 (most - n.toNat - 4) ((base + 1) % 4294967296) base
  rw [show most - n.toNat - 3 + n.toNat + 3 = most from by omega] at a1
  rw [show most - 2 + 2 = most from by omega] at a3 a4 a5 a6
  rw [show most - n.toNat - 4 + n.toNat + 4 = most from by omega] at a7
  obtain ⟨s1, x1, y1⟩ := a1
  obtain ⟨s3, x3, y3⟩ := a3
  obtain ⟨s4, x4, y4⟩ := a4
  obtain ⟨s5, x5, y5⟩ := a5
  obtain ⟨s6, x6, y6⟩ := a6
  obtain ⟨s7, x7, y7⟩ := a7
  intro o0 o1 o2 hx
  simp only [tfTry, List.mem_cons, List.not_mem_nil, or_false, Prod.mk.injEq] at hx
  rcases hx with ⟨rfl, rfl, rfl⟩ | ⟨rfl, rfl, rfl⟩ | ⟨rfl, rfl, rfl⟩ | ⟨rfl, rfl, rfl⟩
  · exact ⟨s3, s4, x3, by rw [y3]; exact x4, fun _ => by rw [y4, y3]⟩
  · exact ⟨s3, s5, x3, by rw [y3]; exact x5, fun _ => by rw [y5, y3]⟩
  · exact ⟨s1, s6, x1, by rw [y1]; exact x6, fun _ => by rw [y6, y1]⟩
  · exact ⟨s1, s7, x1, by rw [y1]; exact x7, fun h => absurd h (by decide)⟩

/-- The lists of operations that the statement asks. -/
def tfLists : List (List Int) := [[1, 2], [3, 4], [5, 2], [6, 4], [3, 8, 2], [1, 7, 4]]
/-- The three cells are alike, and not what they were. -/
def tfEnd (base : Int) (E : List Int) : Prop := ldA E 0 = ldA E 1 ∧ ldA E 0 = ldA E 2 ∧ ldA E 0 ≠ base
theorem t3_end (N : Nat) (x base : Int) (h : x ≠ base) : tfEnd base (T3 N x x x) := by
  have e : ∀ c : Int, 0 ≤ c → c < 3 → ldA (T3 N x x x) c = x := fun c h0 h1 => by
    unfold ldA
    rw [if_pos (by rw [t3_len]; omega)]
    have : c = 0 ∨ c = 1 ∨ c = 2 := by omega
    rcases this with rfl | rfl | rfl <;> rfl
  refine ⟨?_, ?_, ?_⟩
  · rw [e 0 (by decide) (by decide), e 1 (by decide) (by decide)]
  · rw [e 0 (by decide) (by decide), e 2 (by decide) (by decide)]
  · rw [e 0 (by decide) (by decide)]; exact h

/-- BY ITSELF EACH OPERATION ENDS WITH TRUE; THE CELLS ARE ALIKE AGAIN. -/
theorem tf_runs (n mode base : Int) (most : Nat) (h1 : 1 ≤ n) (h2 : n ≤ 64) (hb : 0 ≤ base ∧ base < 4294967296) (hm : 2 * n.toNat + 6 ≤ most) : ∀ l, l ∈ tfLists → ∃ E, Runs tfA n mode most l (T3 ((8 + 4 * n).toNat - 3) base base base) E ∧ tfEnd base E := by
  have hne : (base + 1) % 4294967296 ≠ base := by omega
  have hne2 : ((base + 1) % 4294967296 + 1) % 4294967296 ≠ base := by omega
  have a1 := tfo_rlock n mode h1 h2 (most - n.toNat - 3) base base
  have a2 := tfo_runlock n mode h1 h2 (most - n.toNat - 1) ((base + 1) % 4294967296) ((base + 1) % 4294967296) base
  have a3 := tfo_lock n mode h1 h2 (most - 2) base base
  have a4 := tfo_unlock n mode h1 h2 (most - n.toNat - 1 - n.toNat - 1) ((base + 1) % 4294967296) base base
  have a5 := tfo_tryr n mode h1 h2 (most - n.toNat - 4) base base
  have a6 := tfo_tryw n mode h1 h2 (most - 3) base base
  have a7 := tfo_up n mode h1 h2 (most - 4) ((base + 1) % 4294967296) base hb
  have a8 := tfo_down n mode h1 h2 (most - n.toNat - 1) ((base + 1) % 4294967296) base base
  have a9 := tfo_unlock n mode h1 h2 (most - n.toNat - 1 - n.toNat - 1) (((base + 1) % 4294967296 + 1) % 4294967296) ((base + 1) % 4294967296) ((base + 1) % 4294967296)
  rw [show most - n.toNat - 3 + n.toNat + 3 = most from by omega] at a1
  rw [show most - n.toNat - 1 + n.toNat + 1 = most from by omega] at a2 a8
  rw [show most - 2 + 2 = most from by omega] at a3
  rw [show most - n.toNat - 1 - n.toNat - 1 + n.toNat + 1 + n.toNat + 1 = most from by omega] at a4 a9
  rw [show most - n.toNat - 4 + n.toNat + 4 = most from by omega] at a5
  rw [show most - 3 + 3 = most from by omega] at a6
  rw [show most - 4 + 4 = most from by omega] at a7
  generalize hb1 : (base + 1) % 4294967296 = b1 at *
  generalize hb2 : (b1 + 1) % 4294967296 = b2 at *
  obtain ⟨s1, x1, y1⟩ := a1
  obtain ⟨s2, x2, y2⟩ := a2
  obtain ⟨s3, x3, y3⟩ := a3
  obtain ⟨s4, x4, y4⟩ := a4
  obtain ⟨s5, x5, y5⟩ := a5
  obtain ⟨s6, x6, y6⟩ := a6
  obtain ⟨s7, x7, y7⟩ := a7
  obtain ⟨s8, x8, y8⟩ := a8
  obtain ⟨s9, x9, y9⟩ := a9
  intro l hl
  simp only [tfLists, List.mem_cons, List.not_mem_nil, or_false] at hl
  rcases hl with rfl | rfl | rfl | rfl | rfl | rfl
  · exact ⟨_, ⟨s1, x1, by rw [y1]; exact ⟨s2, x2, y2⟩⟩, t3_end _ _ _ hne⟩
  · exact ⟨_, ⟨s3, x3, by rw [y3]; exact ⟨s4, x4, y4⟩⟩, t3_end _ _ _ hne⟩
  · exact ⟨_, ⟨s5, x5, by rw [y5]; exact ⟨s2, x2, y2⟩⟩, t3_end _ _ _ hne⟩
  · exact ⟨_, ⟨s6, x6, by rw [y6]; exact ⟨s4, x4, y4⟩⟩, t3_end _ _ _ hne⟩
  · exact ⟨_, ⟨s3, x3, by rw [y3]; exact ⟨s8, x8, by rw [y8]; exact ⟨s2, x2, y2⟩⟩⟩, t3_end _ _ _ hne⟩
  · exact ⟨_, ⟨s1, x1, by rw [y1]; exact ⟨s7, x7, by rw [y7]; exact ⟨s9, x9, y9⟩⟩⟩, t3_end _ _ _ hne2⟩

end Go.Proofs.Ytdffdppkdbbdoaa.Z
