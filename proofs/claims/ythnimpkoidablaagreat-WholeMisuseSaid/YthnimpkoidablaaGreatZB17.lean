/- 3 texts of this claim, joined: what Package world needs of them. -/
import Derived.Test.YthnimpkoidablaaGreatZB11
import Derived.Test.YthnimpkoidablaaGreatZB12
import Derived.Test.YthnimpkoidablaaGreatZB13
import Derived.Test.YthnimpkoidablaaGreatZB06
set_option linter.unusedVariables false
set_option linter.unusedSimpArgs false
namespace Go.Proofs.YthnimpkoidablaaGreat.Z
open Go.RowKit
def RnF (n mode op line a b : Int) (L : List Int) : Rn := ⟨n, mode, 0, ⟨op, line, a, b, 0, Wk.zero, 0⟩, Acc.zero, [], L⟩
def At (n mode : Int) (s : Rn) (op line a b : Int) (L : List Int) : Prop := s.fresh = RnF n mode op line a b L
section
variable {n mode : Int} {s s1 : Rn} {op line a b line' a' b' : Int} {L L' : List Int} {g : Rn → Rn}
theorem At.wk (h : At n mode s op line a b L) : s.f.wk = Wk.zero := congrArg (fun x => x.f.wk) h
theorem At.ret (h : At n mode s op line a b L) : s.f.ret = 0 := congrArg (fun x => x.f.ret) h
theorem At.over (h : At n mode s op line a b L) : s.over = false := by unfold Rn.over; rw [h.ret]; rfl
theorem At.step (h : At n mode s op line a b L) : stepR g s = g (RnF n mode op line a b L) := by
  unfold stepR
  rw [h.wk]
  show g s.fresh = _
  rw [show s.fresh = _ from h]
theorem At.fin (h : At n mode s op line a b L) (hg : g (RnF n mode op line a b L) = s1) (hr : s1.f.ret ≠ 0) (hk : s1.f.wk = Wk.zero) (q : Nat) : aloneA g (q + 1) s = (s1.f.ret, s1) := by
  show (if (stepR g s).over then ((stepR g s).f.ret, stepR g s) else aloneA g q (stepR g s)) = _
  rw [h.step, hg, if_pos (by unfold Rn.over; rw [hk]; simpa [Wk.zero] using hr)]
theorem At.ends (h : At n mode s op line a b L) (c : Int) (hg : g (RnF n mode op line a b L) = s1) (hr : s1.f.ret ≠ 0) (hk : s1.f.wk = beginA mode c) (hn : s1.n = n) (h1 : 1 ≤ n) (hc : NoWatch n c s1.L) (q : Nat) :
    ∃ s', aloneA g (q + n.toNat + 1) s = (s1.f.ret, s') ∧ s'.L = s1.L := by
  have hgo : aloneA g (q + n.toNat + 1) s = if s1.over then (s1.f.ret, s1) else aloneA g (q + n.toNat) s1 := by
    show (if (stepR g s).over then ((stepR g s).f.ret, stepR g s) else aloneA g (q + n.toNat) (stepR g s)) = _
    rw [h.step, hg]
  by_cases h2 : mode = 2
  · have hk2 : s1.f.wk = ⟨true, c, 0, false⟩ := by rw [hk]; unfold beginA; rw [if_pos h2]
    obtain ⟨s', _, _, k3, _, k5, _⟩ := alone_wakes g c n.toNat s1 0 (q + n.toNat) hk2 (Int.le_refl _) (by omega) (by omega) (by rw [hn]; exact hc) (by omega)
    refine ⟨s', ?_, k3⟩
    rw [hgo, if_neg (by unfold Rn.over; rw [hk2]; simp), k5 hr]
  · have hk2 : s1.f.wk = Wk.zero := by rw [hk]; unfold beginA; rw [if_neg h2]
    refine ⟨s1, ?_, rfl⟩
    rw [hgo, if_pos (by unfold Rn.over; rw [hk2]; simpa [Wk.zero] using hr)]
end
end Go.Proofs.YthnimpkoidablaaGreat.Z

set_option linter.unusedVariables false
set_option linter.unusedSimpArgs false
namespace Go.Proofs.YthnimpkoidablaaGreat.Z
open Go.RowKit
def Free (s : Rn) : Prop := s.f.wk.on = true ∨ s.f.st = 0
inductive Does (g : Rn → Rn) : Nat → Rn → Rn → Prop
  | last {s s' : Rn} : Free s → stepR g s = s' → s'.over = true → Does g 1 s s'
  | more {n : Nat} {s s1 s' : Rn} : Free s → stepR g s = s1 → s1.over = false → s1.f.op ≠ 0 → Does g n s1 s' → Does g (n + 1) s s'
theorem does_wakes (g : Rn → Rn) (c : Int) : ∀ (d : Nat) (s : Rn) (i : Int), s.f.wk = ⟨true, c, i, false⟩ → 0 ≤ i → i + d = s.n → 1 ≤ d → NoWatch s.n c s.L → s.f.ret ≠ 0 → s.f.op ≠ 0 →
    ∃ s', Does g d s s' ∧ s'.L = s.L ∧ s'.f.ret = s.f.ret ∧ s'.f.op = s.f.op := by
  intro d
  induction d with
  | zero => intro s i hw h0 h1 h2; omega
  | succ d ih =>
    intro s i hw h0 h1 _ hc hr ho
    obtain ⟨e1, e2, e3, e4, e5, e6⟩ := woke_calm hw h0 (by omega) hc
    have hst : stepR g s = s.woke := by unfold stepR; rw [hw]; rfl
    have hf : Free s := Or.inl (by rw [hw])
    by_cases hd : d = 0
    · subst hd
      rw [if_pos (by omega)] at e2
      exact ⟨s.woke, Does.last hf hst (by unfold Rn.over; rw [e2]; simpa [Wk.zero] using hr), e1, by rw [e2], by rw [e2]⟩
    · rw [if_neg (by omega)] at e2
      obtain ⟨s', k1, k2, k3, k4⟩ := ih s.woke (i + 1) (by rw [e2]) (by omega) (by rw [e4]; omega) (by omega) (by rw [e4, e1]; exact hc) (by rw [e2]; exact hr) (by rw [e2]; exact ho)
      exact ⟨s', Does.more hf hst (by unfold Rn.over; rw [e2]; simp) (by rw [e2]; exact ho) k1, k2.trans e1, by rw [k3, e2], by rw [k4, e2]⟩
theorem does_ends {g : Rn → Rn} {s s1 : Rn} (c : Int) (hf : Free s) (hs : stepR g s = s1) (hk : s1.f.wk = beginA s1.mode c) (hr : s1.f.ret ≠ 0) (ho : s1.f.op ≠ 0) (h1 : 1 ≤ s1.n) (hc : NoWatch s1.n c s1.L) :
    ∃ n s', n ≤ s1.n.toNat + 1 ∧ Does g n s s' ∧ s'.L = s1.L ∧ s'.f.ret = s1.f.ret ∧ s'.f.op = s1.f.op := by
  unfold beginA at hk
  split at hk
  · obtain ⟨s', k1, k2, k3, k4⟩ := does_wakes g c s1.n.toNat s1 0 hk (Int.le_refl _) (by omega) (by omega) hc hr ho
    exact ⟨_, s', Nat.le_refl _, Does.more hf hs (by unfold Rn.over; rw [hk]; simp) ho k1, k2, k3, k4⟩
  · exact ⟨1, s1, by omega, Does.last hf hs (by unfold Rn.over; rw [hk]; simpa [Wk.zero] using hr), rfl, rfl, rfl⟩
def RnT (n mode : Int) (t : Nat) (op line a b : Int) (L : List Int) : Rn := ⟨n, mode, t, ⟨op, line, a, b, 0, Wk.zero, 0⟩, Acc.zero, [], L⟩
def AtT (n mode : Int) (t : Nat) (s : Rn) (op line a b : Int) (L : List Int) : Prop := s.fresh = RnT n mode t op line a b L
section
variable {n mode : Int} {t : Nat} {s : Rn} {op line a b line' a' b' : Int} {L L' : List Int} {g : Rn → Rn}
theorem AtT.wk (h : AtT n mode t s op line a b L) : s.f.wk = Wk.zero := congrArg (fun x => x.f.wk) h
theorem AtT.free (h : AtT n mode t s op line a b L) : Free s := Or.inr (congrArg (fun x => x.f.st) h)
theorem AtT.step (h : AtT n mode t s op line a b L) : stepR g s = g (RnT n mode t op line a b L) := by
  unfold stepR
  rw [h.wk]
  show g s.fresh = _
  rw [show s.fresh = _ from h]
theorem AtT.over (h : AtT n mode t s op line a b L) : s.over = false := by unfold Rn.over; rw [show s.f.ret = 0 from congrArg (fun x => x.f.ret) h]; rfl
theorem AtT.fin (h : AtT n mode t s op line a b L) (hr : (g (RnT n mode t op line a b L)).f.ret ≠ 0) (hk : (g (RnT n mode t op line a b L)).f.wk = Wk.zero) : Does g 1 s (g (RnT n mode t op line a b L)) :=
  Does.last h.free h.step (by unfold Rn.over; rw [hk]; simpa [Wk.zero] using hr)
theorem AtT.ends {s1 : Rn} (h : AtT n mode t s op line a b L) (c : Int) (hg : g (RnT n mode t op line a b L) = s1) (hr : s1.f.ret ≠ 0) (ho : s1.f.op ≠ 0) (hk : s1.f.wk = beginA s1.mode c) (h1 : 1 ≤ s1.n) (hc : NoWatch s1.n c s1.L) :
    ∃ q s', q ≤ s1.n.toNat + 1 ∧ Does g q s s' ∧ s'.L = s1.L ∧ s'.f.ret = s1.f.ret ∧ s'.f.op = s1.f.op := does_ends c h.free (h.step.trans hg) hk hr ho h1 hc
end
end Go.Proofs.YthnimpkoidablaaGreat.Z

set_option linter.unusedVariables false
set_option linter.unusedSimpArgs false
namespace Go.Proofs.YthnimpkoidablaaGreat.Z
open Go.RowKit ZB
theorem diff_field0 (w : World) : Calls Tryz.prog 155 #[.int .i64 0, .int .i64 8] w fun e w' => e = .returned (.bool true) ∧ w = w' := by
  go_enter Tryz.func155, Tryz.ntmps155
  go_wp2
  go_ret
  exact ⟨rfl, rfl⟩
theorem diff_mask0 (w : World) : Calls Tryz.prog 156 #[.int .i64 0, .int .i64 8] w fun e w' => e = .returned (.int .u32 255) ∧ w = w' := by
  go_enter Tryz.func156, Tryz.ntmps156
  go_wp2
  go_ret
  exact ⟨rfl, rfl⟩
theorem and8_0 (v : Int) (hv : 0 ≤ v ∧ v < 4294967296) : Go.bits .and .u32 v 255 = v / 1 % 256 * 1 := by
  obtain ⟨n, rfl⟩ : ∃ n : Nat, v = n := ⟨v.toNat, by omega⟩
  have h := bits_and n 255 (by omega) (by decide)
  have h2 : n &&& 255 = n / 1 % 256 * 1 := and_mask n 0 8
  rw [h2] at h
  refine Eq.trans h ?_
  omega
theorem diff_get0 (v : Int) (w : World) (hv : 0 ≤ v ∧ v < 4294967296) : Calls Tryz.prog 119 #[.int .u32 v, .int .i64 0, .int .i64 8] w fun e w' => e = .returned (.int .u32 (v / 1 % 256)) ∧ w = w' := by
  have ha := and8_0 v hv
  have HA := Lib.hid ha
  clear ha
  go_enter Tryz.func119, Tryz.ntmps119
  go_wp2_with fail
  refine (diff_field0 _).mono ?_
  rintro e w1 ⟨rfl, rfl⟩
  go_wp2_with fail
  refine (diff_mask0 _).mono ?_
  rintro e w2 ⟨rfl, rfl⟩
  go_wp2_with fail
  go_ret
  refine ⟨?_, rfl⟩
  show Ending.returned (Value.int .u32 _) = Ending.returned (Value.int .u32 _)
  rw [HA.out]
  congr 2
  omega
theorem diff_field8 (w : World) : Calls Tryz.prog 155 #[.int .i64 8, .int .i64 8] w fun e w' => e = .returned (.bool true) ∧ w = w' := by
  go_enter Tryz.func155, Tryz.ntmps155
  go_wp2
  go_ret
  exact ⟨rfl, rfl⟩
theorem diff_mask8 (w : World) : Calls Tryz.prog 156 #[.int .i64 8, .int .i64 8] w fun e w' => e = .returned (.int .u32 65280) ∧ w = w' := by
  go_enter Tryz.func156, Tryz.ntmps156
  go_wp2
  go_ret
  exact ⟨rfl, rfl⟩
theorem and8_8 (v : Int) (hv : 0 ≤ v ∧ v < 4294967296) : Go.bits .and .u32 v 65280 = v / 256 % 256 * 256 := by
  obtain ⟨n, rfl⟩ : ∃ n : Nat, v = n := ⟨v.toNat, by omega⟩
  have h := bits_and n 65280 (by omega) (by decide)
  have h2 : n &&& 65280 = n / 256 % 256 * 256 := and_mask n 8 8
  rw [h2] at h
  refine Eq.trans h ?_
  omega
theorem diff_get8 (v : Int) (w : World) (hv : 0 ≤ v ∧ v < 4294967296) : Calls Tryz.prog 119 #[.int .u32 v, .int .i64 8, .int .i64 8] w fun e w' => e = .returned (.int .u32 (v / 256 % 256)) ∧ w = w' := by
  have ha := and8_8 v hv
  have HA := Lib.hid ha
  clear ha
  go_enter Tryz.func119, Tryz.ntmps119
  go_wp2_with fail
  refine (diff_field8 _).mono ?_
  rintro e w1 ⟨rfl, rfl⟩
  go_wp2_with fail
  refine (diff_mask8 _).mono ?_
  rintro e w2 ⟨rfl, rfl⟩
  go_wp2_with fail
  go_ret
  refine ⟨?_, rfl⟩
  show Ending.returned (Value.int .u32 _) = Ending.returned (Value.int .u32 _)
  rw [HA.out]
  congr 2
  omega
theorem diff_field16 (w : World) : Calls Tryz.prog 155 #[.int .i64 16, .int .i64 8] w fun e w' => e = .returned (.bool true) ∧ w = w' := by
  go_enter Tryz.func155, Tryz.ntmps155
  go_wp2
  go_ret
  exact ⟨rfl, rfl⟩
theorem diff_mask16 (w : World) : Calls Tryz.prog 156 #[.int .i64 16, .int .i64 8] w fun e w' => e = .returned (.int .u32 16711680) ∧ w = w' := by
  go_enter Tryz.func156, Tryz.ntmps156
  go_wp2
  go_ret
  exact ⟨rfl, rfl⟩
theorem and8_16 (v : Int) (hv : 0 ≤ v ∧ v < 4294967296) : Go.bits .and .u32 v 16711680 = v / 65536 % 256 * 65536 := by
  obtain ⟨n, rfl⟩ : ∃ n : Nat, v = n := ⟨v.toNat, by omega⟩
  have h := bits_and n 16711680 (by omega) (by decide)
  have h2 : n &&& 16711680 = n / 65536 % 256 * 65536 := and_mask n 16 8
  rw [h2] at h
  refine Eq.trans h ?_
  omega
theorem diff_get16 (v : Int) (w : World) (hv : 0 ≤ v ∧ v < 4294967296) : Calls Tryz.prog 119 #[.int .u32 v, .int .i64 16, .int .i64 8] w fun e w' => e = .returned (.int .u32 (v / 65536 % 256)) ∧ w = w' := by
  have ha := and8_16 v hv
  have HA := Lib.hid ha
  clear ha
  go_enter Tryz.func119, Tryz.ntmps119
  go_wp2_with fail
  refine (diff_field16 _).mono ?_
  rintro e w1 ⟨rfl, rfl⟩
  go_wp2_with fail
  refine (diff_mask16 _).mono ?_
  rintro e w2 ⟨rfl, rfl⟩
  go_wp2_with fail
  go_ret
  refine ⟨?_, rfl⟩
  show Ending.returned (Value.int .u32 _) = Ending.returned (Value.int .u32 _)
  rw [HA.out]
  congr 2
  omega
def bump8 (v : Int) : Int := ((v / 256 % 256 + 1) % 256 * 256 - v / 256 % 256 * 256) % 4294967296
theorem put8_val (v x : Int) (hv : 0 ≤ v ∧ v < 4294967296) (hx : 0 ≤ x ∧ x < 4294967296) : Go.bits .or .u32 (Go.bits .andNot .u32 v 65280) (Go.bits .and .u32 x 65280) = v - v / 256 % 256 * 256 + x / 256 % 256 * 256 := by
  obtain ⟨n, rfl⟩ : ∃ n : Nat, v = n := ⟨v.toNat, by omega⟩
  obtain ⟨m, rfl⟩ : ∃ m : Nat, x = m := ⟨x.toNat, by omega⟩
  have h := bits_put n m 65280 (by omega) (by omega) (by decide)
  have h2 : n &&& 65280 = n / 256 % 256 * 256 := and_mask n 8 8
  have h3 : m &&& 65280 = m / 256 % 256 * 256 := and_mask m 8 8
  rw [h2, h3] at h
  refine Eq.trans h ?_
  omega
theorem diff_put8 (v x : Int) (w : World) (hv : 0 ≤ v ∧ v < 4294967296) (hx : 0 ≤ x ∧ x ≤ 256) : Calls Tryz.prog 186 #[.int .u32 v, .int .i64 8, .int .i64 8, .int .u32 x] w fun e w' => e = .returned (.int .u32 (v - v / 256 % 256 * 256 + x % 256 * 256)) ∧ w = w' := by
  have ha := put8_val v (x * 256) hv (by omega)
  have HA := Lib.hid ha
  clear ha
  go_enter Tryz.func186, Tryz.ntmps186
  go_wp2_with fail
  refine (diff_field8 _).mono ?_
  rintro e w1 ⟨rfl, rfl⟩
  go_wp2_with fail
  refine (diff_mask8 _).mono ?_
  rintro e w2 ⟨rfl, rfl⟩
  go_wp2_with fail
  go_ret
  refine ⟨?_, rfl⟩
  show Ending.returned (Value.int .u32 _) = Ending.returned (Value.int .u32 _)
  rw [HA.out]
  congr 2
  omega
theorem diff_bump8 (v : Int) (w : World) (hv : 0 ≤ v ∧ v < 4294967296) : Calls Tryz.prog 182 #[.int .u32 v, .int .i64 8, .int .i64 8] w fun e w' => e = .returned (.int .u32 (bump8 v)) ∧ w = w' := by
  have hg := fun W => diff_get8 v W hv
  have hb : 0 ≤ v / 256 % 256 ∧ v / 256 % 256 < 256 := by omega
  have hp := fun W => diff_put8 v (v / 256 % 256 + 1) W hv (by omega)
  unfold bump8
  generalize hq : v / 256 % 256 = q at hg hb hp
  have HQ := Lib.hid hq
  have HG := Lib.hid hg
  have HP := Lib.hid hp
  clear hq hg hp
  go_enter Tryz.func182, Tryz.ntmps182
  go_wp2_with fail
  refine (diff_field8 _).mono ?_
  rintro e w1 ⟨rfl, rfl⟩
  go_wp2_with fail
  refine (HG.out _).mono ?_
  rintro e w2 ⟨rfl, rfl⟩
  go_wp2_with fail
  refine (HP.out _).mono ?_
  rintro e w3 ⟨rfl, rfl⟩
  go_wp2_with fail
  go_ret
  refine ⟨?_, rfl⟩
  show Ending.returned (Value.int .u32 _) = Ending.returned (Value.int .u32 _)
  congr 2
  rw [← HQ.out]
  omega
end Go.Proofs.YthnimpkoidablaaGreat.Z
