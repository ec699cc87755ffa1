/- 6 texts of this claim, joined: what each shows stands at its own head. -/
import Derived.Test.YtbcppehpfckgoaaZM01PqExcludes
import Derived.Test.YtbcppehpfckgoaaZAlone
import Derived.Test.YtbcppehpfckgoaaZMat2
import Derived.Test.YtbcppehpfckgoaaZHas3
/- Package mutex: what a line keeps. Written by genmxfine.py. -/
set_option linter.unusedVariables false
set_option linter.unusedSimpArgs false
namespace Go.Proofs.Ytbcppehpfckgoaa.Z
open Go.RowKit

theorem keep_fine {s : Rn} (hw : Words s.L) {n mode task st c : Int} {p : Int → Bool} (h2 : 0 ≤ s.f.a ∧ s.f.a < 4294967296) : 0 ≤ (s.keep (waitA s.L n mode task st c p)).f.a ∧ (s.keep (waitA s.L n mode task st c p)).f.a < 4294967296 := by
  unfold Rn.keep
  split
  · rcases stageA_is mode st with e | e | e | e | e
    · rw [waitA0 e]; exact doA_old s.L hw _
    · rw [waitA1 e]; exact doA_old s.L hw _
    · rw [waitA2 e]; exact doA_old s.L hw _
    · rename_i h; rw [waitA3 e] at h; cases h
    · rw [waitA4 e]; exact doA_old s.L hw _
  · exact h2
theorem keep_rest (s : Rn) (R : WaitR) : (s.keep R).n = s.n ∧ (s.keep R).f.b = s.f.b ∧ (s.keep R).notes = s.notes := by
  unfold Rn.keep
  split <;> exact ⟨rfl, rfl, rfl⟩

/-- Whose run it is stays; what is kept is words; so many notes more at most. -/
def FK (k : Nat) (s s' : Rn) : Prop := (s'.n = s.n ∧ s'.mode = s.mode ∧ s'.task = s.task) ∧ ((0 ≤ s'.f.a ∧ s'.f.a < 4294967296) ∧ (0 ≤ s'.f.b ∧ s'.f.b < 4294967296)) ∧ s'.notes.length ≤ s.notes.length + k
section
variable {k : Nat} {s s' : Rn}
theorem FK.refl (h : (0 ≤ s.f.a ∧ s.f.a < 4294967296) ∧ (0 ≤ s.f.b ∧ s.f.b < 4294967296)) : FK 0 s s := ⟨⟨rfl, rfl, rfl⟩, h, Nat.le_refl _⟩
theorem FK.goto (h : FK k s s') (l : Int) : FK k s (s'.goto l) := h
theorem FK.fin (h : FK k s s') (b : Bool) : FK k s (s'.fin b) := h
theorem FK.wake (h : FK k s s') (c : Int) : FK k s (s'.wake c) := h
theorem FK.did (h : FK k s s') (R : Acc × Bool × List Int) : FK k s (s'.did R) := h
theorem FK.waited (h : FK k s s') (R : WaitR) : FK k s (s'.waited R) := h
theorem FK.setA (h : FK k s s') {v : Int} (hv : 0 ≤ v ∧ v < 4294967296) : FK k s (s'.setA v) := ⟨h.1, ⟨hv, h.2.1.2⟩, h.2.2⟩
theorem FK.setB (h : FK k s s') {v : Int} (hv : 0 ≤ v ∧ v < 4294967296) : FK k s (s'.setB v) := ⟨h.1, ⟨h.2.1.1, hv⟩, h.2.2⟩
theorem FK.note (h : FK k s s') (x y : Int) : FK (k + 1) s (s'.note x y) := ⟨h.1, h.2.1, by have := h.2.2; simp [Rn.note]; omega⟩
theorem FK.more (h : FK k s s') {j : Nat} (hj : k ≤ j) : FK j s s' := ⟨h.1, h.2.1, Nat.le_trans h.2.2 (Nat.add_le_add_left hj _)⟩
theorem FK.noted (h : FK k s s') (l : List Int) : FK (k + l.length) s (s'.noted l) := by
  induction l generalizing s' k with
  | nil => exact h
  | cons x l ih => exact (ih (h.note x 0)).more (by simp; omega)
theorem FK.keep (h : FK k s s') (hw : Words s'.L) (n mode task st c : Int) (p : Int → Bool) : FK k s (s'.keep (waitA s'.L n mode task st c p)) := by
  have h1 := keep_fine (s := s') hw (n := n) (mode := mode) (task := task) (st := st) (c := c) (p := p) h.2.1.1
  have h2 := keep_rest s' (waitA s'.L n mode task st c p)
  unfold Rn.keep at h1 h2 ⊢
  split
  · rename_i hs
    rw [if_pos hs] at h1
    exact h.setA h1
  · exact h
end
variable {s : Rn}
theorem mxEnter_fk (tail cls : Int) (hw : Words s.L) (h : (0 ≤ s.f.a ∧ s.f.a < 4294967296) ∧ (0 ≤ s.f.b ∧ s.f.b < 4294967296)) : FK 1 s (mxEnter tail cls s).2 := by
  have R := FK.refl h
  have hold := fun b => doA_old s.L hw b
  unfold mxEnter
  split
  · exact ((R.did _).goto _).more (by decide)
  split
  · exact ((R.did _).goto _).more (by decide)
  split
  · unfold mxE2
    dsimp only
    split
    · exact ((R.did _).setA (hold _)).note _ _
    · exact (((R.did _).setA (hold _)).note _ _).goto _
  split
  · exact (((R.did _).wake _).goto _).more (by decide)
  split
  · exact (R.waited _).more (by decide)
  · exact R.more (by decide)
theorem mxTry_fk (tail : Int) (h : (0 ≤ s.f.a ∧ s.f.a < 4294967296) ∧ (0 ≤ s.f.b ∧ s.f.b < 4294967296)) : FK 0 s (mxTry tail s).2.2 := by
  have R := FK.refl h
  unfold mxTry
  split
  · exact (R.did _).goto _
  split
  · exact R.did _
  · exact R
theorem mxGive_fk (tail q : Int) (nl : List Int) (hw : Words s.L) (h : (0 ≤ s.f.a ∧ s.f.a < 4294967296) ∧ (0 ≤ s.f.b ∧ s.f.b < 4294967296)) : FK nl.length s (mxGive tail q nl s).2 := by
  have R := FK.refl h
  have hold := fun b => doA_old s.L hw b
  unfold mxGive
  split
  · unfold mxG0
    dsimp only
    split
    · exact (((R.did _).setA (hold _)).goto _).more (Nat.zero_le _)
    · exact (((R.did _).setA (hold _)).goto _).more (Nat.zero_le _)
  split
  · unfold mxG1
    split
    · exact ((R.did _).noted nl).more (by omega)
    · exact ((R.did _).goto _).more (Nat.zero_le _)
  split
  · unfold mxG2
    dsimp only
    split
    · exact (((R.keep hw _ _ _ _ _ _).waited _).goto _).more (Nat.zero_le _)
    · exact ((R.keep hw _ _ _ _ _ _).waited _).more (Nat.zero_le _)
  split
  · exact (((R.did _).noted nl).wake _).more (by omega)
  · exact R.more (Nat.zero_le _)
end Go.Proofs.Ytbcppehpfckgoaa.Z

/- A lock's operation by itself, line by line. No program is in sight but the model's words. -/
set_option linter.unusedVariables false
set_option linter.unusedSimpArgs false
namespace Go.Proofs.Ytbcppehpfckgoaa.Z
open Go.RowKit

/-- A run at a line, afresh. -/
def RnF (n mode op line a b : Int) (L : List Int) : Rn := ⟨n, mode, 0, ⟨op, line, a, b, 0, Wk.zero, 0⟩, Acc.zero, [], L⟩
def At (n mode : Int) (s : Rn) (op line a b : Int) (L : List Int) : Prop := s.fresh = RnF n mode op line a b L

section
variable {n mode : Int} {s s1 : Rn} {op line a b line' a' b' : Int} {L L' : List Int} {g : Rn → Rn}
theorem At.wk (h : At n mode s op line a b L) : s.f.wk = Wk.zero := congrArg (fun x => x.f.wk) h
theorem At.ret (h : At n mode s op line a b L) : s.f.ret = 0 := congrArg (fun x => x.f.ret) h
theorem At.over (h : At n mode s op line a b L) : s.over = false := by unfold Rn.over; rw [h.ret]; rfl
theorem At.step (h : At n mode s op line a b L) : stepR g s = g (RnF n mode op line a b L) := by
  unfold stepR
  rw [h.wk]
  show g s.fresh = _
  rw [show s.fresh = _ from h]
theorem start_at : At n mode (start n mode op L) op 0 0 0 L := rfl

/-- A line, and on. -/
theorem At.go (h : At n mode s op line a b L) (hg : g (RnF n mode op line a b L) = s1) (h1 : At n mode s1 op line' a' b' L') (q : Nat) : aloneA g (q + 1) s = aloneA g q s1 := by
  show (if (stepR g s).over then ((stepR g s).f.ret, stepR g s) else aloneA g q (stepR g s)) = _
  rw [h.step, hg, h1.over]
  rfl
/-- A line that ends the operation. -/
theorem At.fin (h : At n mode s op line a b L) (hg : g (RnF n mode op line a b L) = s1) (hr : s1.f.ret ≠ 0) (hk : s1.f.wk = Wk.zero) (q : Nat) : aloneA g (q + 1) s = (s1.f.ret, s1) := by
  show (if (stepR g s).over then ((stepR g s).f.ret, stepR g s) else aloneA g q (stepR g s)) = _
  rw [h.step, hg, if_pos (by unfold Rn.over; rw [hk]; simpa [Wk.zero] using hr)]
theorem At.fin2 (h : At n mode s op line a b L) (hg : g (RnF n mode op line a b L) = s1) (hr : s1.f.ret ≠ 0) (hk : s1.f.wk = Wk.zero) (q : Nat) : ∃ s', aloneA g (q + 1) s = (s1.f.ret, s') ∧ s'.L = s1.L := ⟨s1, h.fin hg hr hk q, rfl⟩
/-- A line that ends the operation, and begins a wake-up. -/
theorem At.ends (h : At n mode s op line a b L) (c : Int) (hg : g (RnF n mode op line a b L) = s1) (hr : s1.f.ret ≠ 0) (hk : s1.f.wk = beginA mode c) (hn : s1.n = n) (h1 : 1 ≤ n) (hc : NoWatch n c s1.L) (q : Nat) :
    ∃ s', aloneA g (q + n.toNat + 1) s = (s1.f.ret, s') ∧ s'.L = s1.L := by
  have hgo : aloneA g (q + n.toNat + 1) s = if s1.over then (s1.f.ret, s1) else aloneA g (q + n.toNat) s1 := by
    show (if (stepR g s).over then ((stepR g s).f.ret, stepR g s) else aloneA g (q + n.toNat) (stepR g s)) = _
    rw [h.step, hg]
  by_cases h2 : mode = 2
  · have hk2 : s1.f.wk = ⟨true, c, 0, false⟩ := by rw [hk]; unfold beginA; rw [if_pos h2]
    obtain ⟨s', _, _, k3, _, k5, _⟩ := alone_wakes g c n.toNat s1 0 (q + n.toNat) hk2 (Int.le_refl _) (by omega) (by omega) (by rw [hn]; exact hc) (by omega)
    refine ⟨s', ?_, k3⟩
    rw [hgo, if_neg (by unfold Rn.over; rw [hk2]; simp), k5 hr]
  · have hk2 : s1.f.wk = Wk.zero := by rw [hk]; unfold beginA; rw [if_neg h2]
    refine ⟨s1, ?_, rfl⟩
    rw [hgo, if_pos (by unfold Rn.over; rw [hk2]; simpa [Wk.zero] using hr)]
/-- A line that begins a wake-up, behind which the operation goes on. -/
theorem At.wakes (h : At n mode s op line a b L) (c : Int) (hg : g (RnF n mode op line a b L) = s1) (hr : s1.rests = RnF n mode op line' a' b' L') (hk : s1.f.wk = beginA mode c) (h1 : 1 ≤ n) (hc : NoWatch n c L') (q : Nat) :
    ∃ s' q', At n mode s' op line' a' b' L' ∧ q ≤ q' ∧ aloneA g (q + n.toNat + 1) s = aloneA g q' s' := by
  have hL : s1.L = L' := congrArg (fun x => x.L) hr
  have hn : s1.n = n := congrArg (fun x => x.n) hr
  have hret : s1.f.ret = 0 := congrArg (fun x => x.f.ret) hr
  have hgo : aloneA g (q + n.toNat + 1) s = if s1.over then (s1.f.ret, s1) else aloneA g (q + n.toNat) s1 := by
    show (if (stepR g s).over then ((stepR g s).f.ret, stepR g s) else aloneA g (q + n.toNat) (stepR g s)) = _
    rw [h.step, hg]
  have hov : s1.over = false := by unfold Rn.over; rw [hret]; rfl
  rw [hov] at hgo
  by_cases h2 : mode = 2
  · have hk2 : s1.f.wk = ⟨true, c, 0, false⟩ := by rw [hk]; unfold beginA; rw [if_pos h2]
    obtain ⟨s', k1, _, _, _, _, k6⟩ := alone_wakes g c n.toNat s1 0 (q + n.toNat) hk2 (Int.le_refl _) (by omega) (by omega) (by rw [hn, hL]; exact hc) (by omega)
    refine ⟨s', q, k1.trans hr, Nat.le_refl _, ?_⟩
    rw [hgo]
    have := k6 hret
    rw [Nat.add_sub_cancel] at this
    exact this
  · have hk2 : s1.f.wk = Wk.zero := by rw [hk]; unfold beginA; rw [if_neg h2]
    refine ⟨s1, q + n.toNat, ?_, by omega, hgo⟩
    unfold At
    rw [← hr]
    unfold Rn.fresh Rn.rests
    rw [← hk2]
end

theorem stageA_0 (mode : Int) : stageA mode 0 = 0 := by unfold stageA; split <;> rfl
/-- What is waited for holds. -/
theorem wait_hit {L : List Int} {n mode task c : Int} {p : Int → Bool} (h : p (doA L ⟨1, c, 0, 0, 0⟩).1.old = true) : waitA L n mode task 0 c p = ⟨0, (doA L ⟨1, c, 0, 0, 0⟩).1, true, true, L⟩ := by
  rw [waitA0 (stageA_0 mode), h]
  rfl

end Go.Proofs.Ytbcppehpfckgoaa.Z

/- A task that is let go on alone, from its operation's beginning to its end; many that read. No lock in sight. -/
set_option linter.unusedVariables false
set_option linter.unusedSimpArgs false
namespace Go.Proofs.Ytbcppehpfckgoaa.Z
open Go.RowKit

/-- A run that waits for no permit here. -/
def Free (s : Rn) : Prop := s.f.wk.on = true ∨ s.f.st = 0
theorem free_stuck {s : Rn} (h : Free s) (L : List Int) (n mode task : Int) : (!s.f.wk.on && stuckA L n mode task s.f.st) = false := by
  rcases h with h | h
  · rw [h]; rfl
  · rw [h]
    unfold stuckA
    rw [stageA_0]
    simp

/-- In so many steps an operation ends. -/
inductive Does (g : Rn → Rn) : Nat → Rn → Rn → Prop
  | last {s s' : Rn} : Free s → stepR g s = s' → s'.over = true → Does g 1 s s'
  | more {n : Nat} {s s1 s' : Rn} : Free s → stepR g s = s1 → s1.over = false → s1.f.op ≠ 0 → Does g n s1 s' → Does g (n + 1) s s'

def Same (g : Rn → Rn) : Prop := ∀ s, (stepR g s).n = s.n ∧ (stepR g s).mode = s.mode ∧ (stepR g s).task = s.task

theorem run_fresh {s : Rn} {M : Mt} {i : Nat} {f : Fr} (h1 : s.n = M.n) (h2 : s.mode = M.mode) (h3 : s.task = i) (h4 : s.f = f) (h5 : s.L = M.L) : s.fresh = M.run i f := by
  obtain ⟨n, mode, task, f', acc, notes, L⟩ := s
  simp only at h1 h2 h3 h4 h5
  subst h1 h2 h3 h4 h5
  rfl
theorem step_of_fresh {g : Rn → Rn} {s : Rn} {M : Mt} {i : Nat} {f : Fr} (h : s.fresh = M.run i f) {s1 : Rn} (hs : stepR g s = s1) : stepR g (M.run i f) = s1 := by
  rw [← h, ← stepR_fresh, hs]

theorem put_put (M : Mt) (i : Nat) (f f' : Fr) (h h' : Int) (L L' : List Int) : (M.put i f h L).put i f' h' L' = M.put i f' h' L' := by
  unfold Mt.put
  simp [List.set_set]

theorem getD_set_self {α : Type} {l : List α} {i : Nat} {v d : α} (h : i < l.length) : (l.set i v).getD i d = v := by
  simp [List.getD, h]

/-- Of a task that is with an operation: let go on, it ends it. -/
theorem while_does {g : Rn → Rn} (hg : Same g) : ∀ {n : Nat} {s s' : Rn}, Does g n s s' → ∀ {M : Mt} {i m : Nat}, i < M.fs.length → M.hold.length = M.fs.length → s.fresh = M.run i s.f → M.fs.getD i Fr.zero = s.f → s.f.op ≠ 0 → n ≤ m →
    whileA g i m M = M.put i Fr.zero (behindA s'.f.op s'.f.ret (M.hold.getD i 0)) s'.L := by
  intro n s s' h
  induction h with
  | @last s s' hf hs ho =>
    intro M i m hi hh hr hM hop hm
    obtain ⟨m, rfl⟩ : ∃ j, m = j + 1 := ⟨m - 1, by omega⟩
    have hst := goes_of (h := M.hold.getD i 0) (step_of_fresh hr hs)
    rw [if_neg (by rw [free_stuck hf]; decide), if_pos ho] at hst
    unfold whileA
    rw [hM, if_neg hop]
    have hp : M.play g i 0 = M.put i Fr.zero (behindA s'.f.op s'.f.ret (M.hold.getD i 0)) s'.L := by
      unfold Mt.play
      rw [hM, if_neg hop, hst]
    rw [hp]
    cases m with
    | zero => rfl
    | succ m =>
      unfold whileA
      rw [if_pos]
      show ((M.fs.set i Fr.zero).getD i Fr.zero).op = 0
      rw [getD_set_self hi]
      rfl
  | @more n s s1 s' hf hs ho hop1 hd ih =>
    intro M i m hi hh hr hM hop hm
    obtain ⟨m, rfl⟩ : ∃ j, m = j + 1 := ⟨m - 1, by omega⟩
    have hst := goes_of (h := M.hold.getD i 0) (step_of_fresh hr hs)
    rw [if_neg (by rw [free_stuck hf]; decide), if_neg (by rw [ho]; decide)] at hst
    unfold whileA
    rw [hM, if_neg hop]
    have hp : M.play g i 0 = M.put i s1.f (M.hold.getD i 0) s1.L := by
      unfold Mt.play
      rw [hM, if_neg hop, hst]
    rw [hp]
    have hsm := hg s
    rw [hs] at hsm
    have hn : s.n = M.n ∧ s.mode = M.mode ∧ s.task = i := ⟨congrArg Rn.n hr, congrArg Rn.mode hr, congrArg Rn.task hr⟩
    have := ih (M := M.put i s1.f (M.hold.getD i 0) s1.L) (i := i) (m := m) (by simp [Mt.put]; exact hi) (by simp [Mt.put]; exact hh)
      (run_fresh (hsm.1.trans hn.1) (hsm.2.1.trans hn.2.1) (hsm.2.2.trans hn.2.2) rfl rfl) (getD_set_self hi) hop1 (by omega)
    rw [this, put_put]
    congr 2
    exact getD_set_self (by rw [hh]; exact hi)

/-- AN OPERATION, WHOLE. -/
theorem whole_does {g : Rn → Rn} (hg : Same g) {n : Nat} {s s' : Rn} (hd : Does g n s s') {M : Mt} {i : Nat} {op : Int} (hi : i < M.fs.length) (hh : M.hold.length = M.fs.length) (hM : M.fs.getD i Fr.zero = Fr.zero) (hmay : mayB op (M.hold.getD i 0) = true)
    (hr : s.fresh = M.run i (frOp op)) (hn : n ≤ 201) : wholeA g M i op = M.put i Fr.zero (behindA s'.f.op s'.f.ret (fromA op (M.hold.getD i 0))) s'.L := by
  have hsf : s.f = frOp op := congrArg Rn.f hr
  have hplay : M.play g i op = M.goes g i (frOp op) (fromA op (M.hold.getD i 0)) := by
    unfold Mt.play
    rw [hM, if_pos (show Fr.zero.op = 0 from rfl), if_pos hmay]
  unfold wholeA
  rw [hplay]
  cases hd with
  | last hf hs ho =>
    have hst := goes_of (h := fromA op (M.hold.getD i 0)) (step_of_fresh hr hs)
    rw [← hsf, if_neg (by rw [free_stuck hf]; decide), if_pos ho, hsf] at hst
    rw [hst]
    show whileA g i (199 + 1) _ = _
    unfold whileA
    rw [if_pos]
    show ((M.fs.set i Fr.zero).getD i Fr.zero).op = 0
    rw [getD_set_self hi]
    rfl
  | @more n _ s1 _ hf hs ho hop1 hd2 =>
    have hst := goes_of (h := fromA op (M.hold.getD i 0)) (step_of_fresh hr hs)
    rw [← hsf, if_neg (by rw [free_stuck hf]; decide), if_neg (by rw [ho]; decide), hsf] at hst
    rw [hst]
    have hsm := hg s
    rw [hs] at hsm
    have hn1 : s.n = M.n ∧ s.mode = M.mode ∧ s.task = i := ⟨congrArg Rn.n hr, congrArg Rn.mode hr, congrArg Rn.task hr⟩
    have := while_does hg hd2 (M := M.put i s1.f (fromA op (M.hold.getD i 0)) s1.L) (i := i) (m := 200) (by simp [Mt.put]; exact hi) (by simp [Mt.put]; exact hh)
      (run_fresh (hsm.1.trans hn1.1) (hsm.2.1.trans hn1.2.1) (hsm.2.2.trans hn1.2.2) rfl rfl) (getD_set_self hi) hop1 (by omega)
    rw [this, put_put]
    congr 2
    exact getD_set_self (by rw [hh]; exact hi)

/-- An operation of a task, from its beginning. -/
def startT (n mode : Int) (t : Nat) (op : Int) (L : List Int) : Rn := ⟨n, mode, t, frOp op, Acc.zero, [], L⟩

/-- Tasks that are idle. -/
structure Idle (M : Mt) (k : Nat) (d : Int) (f : Nat → Int) (L : List Int) : Prop where
  n : M.n = k
  mode : M.mode = d
  fs : M.fs = List.replicate k Fr.zero
  hold : M.hold = (List.range k).map f
  words : M.L = L

theorem range_set (k : Nat) (f : Nat → Int) (i : Nat) (v : Int) : ((List.range k).map f).set i v = (List.range k).map (fun x => if x = i then v else f x) := by
  refine List.ext_getElem? fun j => ?_
  rw [List.getElem?_set]
  by_cases hj : j < k
  · by_cases hij : i = j
    · subst hij
      simp [hj]
    · simp [hj, hij, Ne.symm hij]
  · by_cases hij : i = j
    · subst hij
      simp [hj]
    · simp [hj, hij]
theorem range_get {k : Nat} {f : Nat → Int} {i : Nat} (h : i < k) : ((List.range k).map f).getD i 0 = f i := by
  simp [List.getD, h]
theorem range_count (f : Nat → Int) (what : Int) (j : Nat) : ∀ k, (∀ i, i < k → (f i = what ↔ i < j)) → ((List.range k).map f).countP (· == what) = min j k := by
  intro k
  induction k with
  | zero => intro _; simp
  | succ k ih =>
    intro h
    rw [List.range_succ, List.map_append, List.countP_append, ih (fun i hi => h i (by omega))]
    have hk := h k (by omega)
    by_cases h1 : k < j
    · simp [hk.2 h1]; omega
    · have : ¬ f k = what := fun e => h1 (hk.1 e)
      simp [this]; omega

theorem Idle.whole {g : Rn → Rn} (hg : Same g) {M : Mt} {k : Nat} {d : Int} {f : Nat → Int} {L : List Int} (h : Idle M k d f L) {i : Nat} (hi : i < k) {op : Int} (hmay : mayB op (f i) = true) {n : Nat} {s' : Rn} (hn : n ≤ 201) (hd : Does g n (startT k d i op L) s') :
    Idle (wholeA g M i op) k d (fun x => if x = i then behindA s'.f.op s'.f.ret (fromA op (f i)) else f x) s'.L := by
  have hlen : M.fs.length = k := by rw [h.fs]; simp
  have hhl : M.hold.length = M.fs.length := by rw [h.hold, h.fs]; simp
  have hget : M.hold.getD i 0 = f i := by rw [h.hold]; exact range_get hi
  have hz : M.fs.getD i Fr.zero = Fr.zero := by rw [h.fs]; simp [List.getD, hi]
  have := whole_does hg hd (M := M) (i := i) (op := op) (by omega) hhl hz (by rw [hget]; exact hmay) (run_fresh h.n.symm h.mode.symm rfl rfl h.words.symm) hn
  rw [this, hget]
  refine ⟨h.n, h.mode, ?_, ?_, rfl⟩
  · show M.fs.set i Fr.zero = _
    rw [h.fs]
    refine List.ext_getElem? fun j => ?_
    rw [List.getElem?_set]
    split
    · rename_i hij
      subst hij
      simp [hi]
    · rfl
  · show M.hold.set i _ = _
    rw [h.hold, range_set]

/-- What is asked of a lock: of words at which so many read. -/
structure Together (g : Rn → Rn) (k : Nat) (d op : Int) (P : Nat → List Int → Prop) : Prop where
  same : Same g
  read : ∀ i j L, i < k → j + 1 < k → P j L → ∃ n s', n ≤ 201 ∧ Does g n (startT k d i op L) s' ∧ s'.f.ret = 2 ∧ (s'.f.op = 1 ∨ s'.f.op = 5) ∧ P (j + 1) s'.L
  refused : ∀ i j L, i < k → j + 1 < k → P (j + 1) L → ∃ n s', n ≤ 201 ∧ Does g n (startT k d i 6 L) s' ∧ s'.f.ret ≠ 2 ∧ P (j + 1) s'.L
  give : ∀ i j L, i < k → j + 1 < k → P (j + 1) L → ∃ n s', n ≤ 201 ∧ Does g n (startT k d i 2 L) s' ∧ s'.f.op = 2 ∧ P j s'.L
  take : ∀ i L, i < k → P 0 L → ∃ n s', n ≤ 201 ∧ Does g n (startT k d i 6 L) s' ∧ s'.f.ret = 2 ∧ s'.f.op = 6

theorem together_ok {g : Rn → Rn} {k : Nat} {d op : Int} {P : Nat → List Int → Prop} (hop : op = 1 ∨ op = 5) (T : Together g k d op P) {Z : List Int} (hZ : P 0 Z) (hk : 2 ≤ k) : TogetherOk g k op (Mt.start k d Z) := by
  have h0 : Idle (Mt.start k d Z) k d (fun _ => 0) Z := ⟨rfl, rfl, rfl, by simp [Mt.start, List.map_const'], rfl⟩
  have hmay : mayB op 0 = true := by rcases hop with rfl | rfl <;> decide
  have hR : ∀ j, j ≤ k - 1 → ∃ L, P j L ∧ Idle (readsA g op (Mt.start k d Z) j) k d (fun i => if i < j then 1 else 0) L := by
    intro j
    induction j with
    | zero => intro _; exact ⟨Z, hZ, by show Idle (Mt.start k d Z) _ _ _ _; simpa using h0⟩
    | succ j ih =>
      intro hj
      obtain ⟨L, hP, hI⟩ := ih (by omega)
      obtain ⟨n, s', hn, hd, hr, ho, hP'⟩ := T.read j j L (by omega) (by omega) hP
      refine ⟨s'.L, hP', ?_⟩
      have := hI.whole T.same (i := j) (by omega) (op := op) (by simpa using hmay) hn hd
      have e : (fun x => if x = j then behindA s'.f.op s'.f.ret (fromA op (if j < j then 1 else 0)) else if x < j then (1 : Int) else 0) = fun i => if i < j + 1 then 1 else 0 := by
        funext x
        by_cases h1 : x = j
        · subst h1
          have : behindA s'.f.op 2 (fromA op (if x < x then 1 else 0)) = 1 := by
            unfold behindA
            rcases ho with ho | ho <;> simp [ho]
          rw [if_pos rfl, hr, this, if_pos (Nat.lt_succ_self _)]
        · by_cases h2 : x < j
          · simp [h1, h2, Nat.lt_succ_of_lt h2]
          · have : ¬ x < j + 1 := by omega
            simp [h1, h2, this]
      rw [e] at this
      exact this
  have hG : ∀ j, j ≤ k - 1 → ∃ L, P (k - 1 - j) L ∧ Idle (givesA g k (readsA g op (Mt.start k d Z) (k - 1)) j) k d (fun i => if i < k - 1 then (if i < j then 0 else 1) else 0) L ∧
      (j < k - 1 → (wholeA g (givesA g k (readsA g op (Mt.start k d Z) (k - 1)) j) (k - 1) 6).hold.getD (k - 1) 0 = 0) := by
    have hno : ∀ j M L, j < k - 1 → P (k - 1 - j) L → Idle M k d (fun i => if i < k - 1 then (if i < j then 0 else 1) else 0) L →
        ∃ L', P (k - 1 - j) L' ∧ Idle (wholeA g M (k - 1) 6) k d (fun i => if i < k - 1 then (if i < j then 0 else 1) else 0) L' := by
      intro j M L hj hP hI
      obtain ⟨c, hc⟩ : ∃ c, k - 1 - j = c + 1 := ⟨k - 1 - j - 1, by omega⟩
      rw [hc] at hP ⊢
      obtain ⟨n, s', hn, hd, hr, hP'⟩ := T.refused (k - 1) c L (by omega) (by omega) hP
      refine ⟨s'.L, hP', ?_⟩
      have := hI.whole T.same (i := k - 1) (by omega) (op := 6) (by simp; decide) hn hd
      have e : (fun x => if x = k - 1 then behindA s'.f.op s'.f.ret (fromA 6 (if k - 1 < k - 1 then (if k - 1 < j then 0 else 1) else 0)) else if x < k - 1 then (if x < j then (0 : Int) else 1) else 0) = fun i => if i < k - 1 then (if i < j then 0 else 1) else 0 := by
        funext x
        by_cases h1 : x = k - 1
        · subst h1
          have : ∀ h, behindA s'.f.op s'.f.ret (fromA 6 h) = h := by
            intro h
            unfold behindA
            rw [if_pos hr]
            rfl
          rw [if_pos rfl, this]
        · simp [h1]
      rw [e] at this
      exact this
    intro j
    induction j with
    | zero =>
      intro _
      obtain ⟨L, hP, hI⟩ := hR (k - 1) (by omega)
      have hI' : Idle (givesA g k (readsA g op (Mt.start k d Z) (k - 1)) 0) k d (fun i => if i < k - 1 then (if i < 0 then 0 else 1) else 0) L := by
        have e : (fun i : Nat => if i < k - 1 then (if i < 0 then (0 : Int) else 1) else 0) = fun i => if i < k - 1 then 1 else 0 := by funext i; simp
        rw [e]
        exact hI
      refine ⟨L, hP, hI', fun hj => ?_⟩
      obtain ⟨L', _, h2⟩ := hno 0 _ L hj (by simpa using hP) hI'
      rw [h2.hold, range_get (by omega)]
      simp
    | succ j ih =>
      intro hj
      obtain ⟨L, hP, hI, _⟩ := ih (by omega)
      obtain ⟨L1, hP1, hI1⟩ := hno j _ L (by omega) hP hI
      obtain ⟨c, hc⟩ : ∃ c, k - 1 - j = c + 1 := ⟨k - 1 - j - 1, by omega⟩
      rw [hc] at hP1
      obtain ⟨n, s', hn, hd, ho, hP'⟩ := T.give j c L1 (by omega) (by omega) hP1
      have h3 := hI1.whole T.same (i := j) (by omega) (op := 2) (by rw [if_pos (by omega)]; simp; decide) hn hd
      have e : (fun x => if x = j then behindA s'.f.op s'.f.ret (fromA 2 (if j < k - 1 then (if j < j then 0 else 1) else 0)) else if x < k - 1 then (if x < j then (0 : Int) else 1) else 0) = fun i => if i < k - 1 then (if i < j + 1 then 0 else 1) else 0 := by
        funext x
        by_cases h1 : x = j
        · subst h1
          have : ∀ h, behindA s'.f.op s'.f.ret (fromA 2 h) = 0 := by
            intro h
            unfold behindA fromA
            rw [ho]
            split <;> simp
          rw [if_pos rfl, this, if_pos (by omega), if_pos (by omega)]
        · by_cases h2 : x < k - 1
          · by_cases h4 : x < j
            · simp [h1, h2, h4, Nat.lt_succ_of_lt h4]
            · have : ¬ x < j + 1 := by omega
              simp [h1, h2, h4, this]
          · simp [h1, h2]
      rw [e] at h3
      refine ⟨s'.L, by rw [show k - 1 - (j + 1) = c from by omega]; exact hP', h3, fun hj2 => ?_⟩
      obtain ⟨L', _, h2⟩ := hno (j + 1) _ s'.L hj2 (by rw [show k - 1 - (j + 1) = c from by omega]; exact hP') h3
      rw [show givesA g k (readsA g op (Mt.start k d Z) (k - 1)) (j + 1) = wholeA g (wholeA g (givesA g k (readsA g op (Mt.start k d Z) (k - 1)) j) (k - 1) 6) j 2 from rfl, h2.hold, range_get (by omega)]
      simp
  refine ⟨fun j hj => ?_, fun j hj => (hG j (by omega)).choose_spec.2.2 hj, ?_⟩
  · obtain ⟨L, _, hI⟩ := hR (j + 1) (by omega)
    unfold Mt.many
    rw [hI.hold, range_count _ 1 (j + 1) k (fun i hi => by by_cases h : i < j + 1 <;> simp [h])]
    omega
  · obtain ⟨L, hP, hI, _⟩ := hG (k - 1) (Nat.le_refl _)
    rw [Nat.sub_self] at hP
    obtain ⟨n, s', hn, hd, hr, ho⟩ := T.take (k - 1) L (by omega) hP
    have h3 := hI.whole T.same (i := k - 1) (by omega) (op := 6) (by simp; decide) hn hd
    have hb : ∀ h, behindA s'.f.op s'.f.ret h = 2 := by
      intro h
      unfold behindA
      rw [ho, hr]
      simp
    refine ⟨?_, ?_⟩
    · rw [h3.hold, range_get (by omega), if_pos rfl, hb]
    · unfold Mt.many
      rw [h3.hold, range_count _ 1 0 k (fun i hi => ?_)]
      · omega
      · by_cases h1 : i = k - 1
        · simp [h1, hb]
        · simp [h1]
          intro h2
          omega

/-- A wake-up that finds nobody, at an operation's end. -/
theorem does_wakes (g : Rn → Rn) (c : Int) : ∀ (d : Nat) (s : Rn) (i : Int), s.f.wk = ⟨true, c, i, false⟩ → 0 ≤ i → i + d = s.n → 1 ≤ d → NoWatch s.n c s.L → s.f.ret ≠ 0 → s.f.op ≠ 0 →
    ∃ s', Does g d s s' ∧ s'.L = s.L ∧ s'.f.ret = s.f.ret ∧ s'.f.op = s.f.op := by
  intro d
  induction d with
  | zero => intro s i hw h0 h1 h2; omega
  | succ d ih =>
    intro s i hw h0 h1 _ hc hr ho
    obtain ⟨e1, e2, e3, e4, e5, e6⟩ := woke_calm hw h0 (by omega) hc
    have hst : stepR g s = s.woke := by unfold stepR; rw [hw]; rfl
    have hf : Free s := Or.inl (by rw [hw])
    by_cases hd : d = 0
    · subst hd
      rw [if_pos (by omega)] at e2
      exact ⟨s.woke, Does.last hf hst (by unfold Rn.over; rw [e2]; simpa [Wk.zero] using hr), e1, by rw [e2], by rw [e2]⟩
    · rw [if_neg (by omega)] at e2
      obtain ⟨s', k1, k2, k3, k4⟩ := ih s.woke (i + 1) (by rw [e2]) (by omega) (by rw [e4]; omega) (by omega) (by rw [e4, e1]; exact hc) (by rw [e2]; exact hr) (by rw [e2]; exact ho)
      exact ⟨s', Does.more hf hst (by unfold Rn.over; rw [e2]; simp) (by rw [e2]; exact ho) k1, k2.trans e1, by rw [k3, e2], by rw [k4, e2]⟩

theorem does_ends {g : Rn → Rn} {s s1 : Rn} (c : Int) (hf : Free s) (hs : stepR g s = s1) (hk : s1.f.wk = beginA s1.mode c) (hr : s1.f.ret ≠ 0) (ho : s1.f.op ≠ 0) (h1 : 1 ≤ s1.n) (hc : NoWatch s1.n c s1.L) :
    ∃ n s', n ≤ s1.n.toNat + 1 ∧ Does g n s s' ∧ s'.L = s1.L ∧ s'.f.ret = s1.f.ret ∧ s'.f.op = s1.f.op := by
  unfold beginA at hk
  split at hk
  · obtain ⟨s', k1, k2, k3, k4⟩ := does_wakes g c s1.n.toNat s1 0 hk (Int.le_refl _) (by omega) (by omega) hc hr ho
    exact ⟨_, s', Nat.le_refl _, Does.more hf hs (by unfold Rn.over; rw [hk]; simp) ho k1, k2, k3, k4⟩
  · exact ⟨1, s1, by omega, Does.last hf hs (by unfold Rn.over; rw [hk]; simpa [Wk.zero] using hr), rfl, rfl, rfl⟩

/-- A task's run at a line, afresh. -/
def RnT (n mode : Int) (t : Nat) (op line a b : Int) (L : List Int) : Rn := ⟨n, mode, t, ⟨op, line, a, b, 0, Wk.zero, 0⟩, Acc.zero, [], L⟩
def AtT (n mode : Int) (t : Nat) (s : Rn) (op line a b : Int) (L : List Int) : Prop := s.fresh = RnT n mode t op line a b L
theorem startT_at (n mode : Int) (t : Nat) (op : Int) (L : List Int) : AtT n mode t (startT n mode t op L) op 0 0 0 L := rfl
section
variable {n mode : Int} {t : Nat} {s : Rn} {op line a b line' a' b' : Int} {L L' : List Int} {g : Rn → Rn}
theorem AtT.wk (h : AtT n mode t s op line a b L) : s.f.wk = Wk.zero := congrArg (fun x => x.f.wk) h
theorem AtT.free (h : AtT n mode t s op line a b L) : Free s := Or.inr (congrArg (fun x => x.f.st) h)
theorem AtT.step (h : AtT n mode t s op line a b L) : stepR g s = g (RnT n mode t op line a b L) := by
  unfold stepR
  rw [h.wk]
  show g s.fresh = _
  rw [show s.fresh = _ from h]
theorem AtT.over (h : AtT n mode t s op line a b L) : s.over = false := by unfold Rn.over; rw [show s.f.ret = 0 from congrArg (fun x => x.f.ret) h]; rfl
theorem AtT.op_ (h : AtT n mode t s op line a b L) : s.f.op = op := congrArg (fun x => x.f.op) h
/-- A line, and on. -/
theorem AtT.go {q : Nat} {s' : Rn} (h : AtT n mode t s op line a b L) (h1 : AtT n mode t (g (RnT n mode t op line a b L)) op line' a' b' L') (ho : op ≠ 0) (hd : Does g q (g (RnT n mode t op line a b L)) s') : Does g (q + 1) s s' :=
  Does.more h.free h.step h1.over (by rw [h1.op_]; exact ho) hd
/-- A line that ends the operation. -/
theorem AtT.fin (h : AtT n mode t s op line a b L) (hr : (g (RnT n mode t op line a b L)).f.ret ≠ 0) (hk : (g (RnT n mode t op line a b L)).f.wk = Wk.zero) : Does g 1 s (g (RnT n mode t op line a b L)) :=
  Does.last h.free h.step (by unfold Rn.over; rw [hk]; simpa [Wk.zero] using hr)
/-- A line that ends the operation, and begins a wake-up that finds nobody. -/
theorem AtT.ends {s1 : Rn} (h : AtT n mode t s op line a b L) (c : Int) (hg : g (RnT n mode t op line a b L) = s1) (hr : s1.f.ret ≠ 0) (ho : s1.f.op ≠ 0) (hk : s1.f.wk = beginA s1.mode c) (h1 : 1 ≤ s1.n) (hc : NoWatch s1.n c s1.L) :
    ∃ q s', q ≤ s1.n.toNat + 1 ∧ Does g q s s' ∧ s'.L = s1.L ∧ s'.f.ret = s1.f.ret ∧ s'.f.op = s1.f.op := does_ends c h.free (h.step.trans hg) hk hr ho h1 hc
end

end Go.Proofs.Ytbcppehpfckgoaa.Z

/- Package pq: what a line keeps. Written by genpqfine.py. -/
set_option linter.unusedVariables false
set_option linter.unusedSimpArgs false
namespace Go.Proofs.Ytbcppehpfckgoaa.Z
open Go.RowKit


variable {s : Rn}
section
theorem pfR10_fk (hw : Words s.L) (h : (0 ≤ s.f.a ∧ s.f.a < 4294967296) ∧ (0 ≤ s.f.b ∧ s.f.b < 4294967296)) : FK 2 s (pfR10 s) := by
  have R := FK.refl h
  have hold := fun b => doA_old s.L hw b
  unfold pfR10
  dsimp only
  split
  · exact (((((R.did _).setA (hold _)).note _ _).note _ _).fin _).more (by decide)
  · exact ((((R.did _).setA (hold _)).note _ _).goto _).more (by decide)

theorem pfR11_fk (hw : Words s.L) (h : (0 ≤ s.f.a ∧ s.f.a < 4294967296) ∧ (0 ≤ s.f.b ∧ s.f.b < 4294967296)) : FK 2 s (pfR11 s) := by
  have R := FK.refl h
  have hold := fun b => doA_old s.L hw b
  unfold pfR11
  dsimp only
  split
  · split
    · exact (((R.waited _).note _ _).fin _).more (by decide)
    · exact ((R.waited _).fin _).more (by decide)
  · split
    · exact ((R.waited _).note _ _).more (by decide)
    · exact (R.waited _).more (by decide)

theorem pfR20_fk (hw : Words s.L) (h : (0 ≤ s.f.a ∧ s.f.a < 4294967296) ∧ (0 ≤ s.f.b ∧ s.f.b < 4294967296)) : FK 2 s (pfR20 s) := by
  have R := FK.refl h
  have hold := fun b => doA_old s.L hw b
  unfold pfR20
  exact ((((R.did _).note _ _).wake _).fin _).more (by decide)

theorem pfR50_fk (hw : Words s.L) (h : (0 ≤ s.f.a ∧ s.f.a < 4294967296) ∧ (0 ≤ s.f.b ∧ s.f.b < 4294967296)) : FK 2 s (pfR50 s) := by
  have R := FK.refl h
  have hold := fun b => doA_old s.L hw b
  unfold pfR50
  dsimp only
  split
  · exact (((R.did _).setA (hold _)).goto _).more (by decide)
  · exact ((((R.did _).setA (hold _)).note _ _).fin _).more (by decide)

theorem pfR51_fk (hw : Words s.L) (h : (0 ≤ s.f.a ∧ s.f.a < 4294967296) ∧ (0 ≤ s.f.b ∧ s.f.b < 4294967296)) : FK 2 s (pfR51 s) := by
  have R := FK.refl h
  have hold := fun b => doA_old s.L hw b
  unfold pfR51
  split
  · exact ((((R.did _).note _ _).note _ _).fin _).more (by decide)
  · exact ((R.did _).goto _).more (by decide)

theorem pqEnter_fk (hw : Words s.L) (h : (0 ≤ s.f.a ∧ s.f.a < 4294967296) ∧ (0 ≤ s.f.b ∧ s.f.b < 4294967296)) : FK 2 s (pqEnter s) := by
  have R := FK.refl h
  have hold := fun b => doA_old s.L hw b
  have Q := mxEnter_fk (s := s) 2 2 hw h
  unfold pqEnter
  split
  · exact (Q.goto _).more (by decide)
  · exact (Q).more (by decide)

theorem pqGive_fk (q : Int) (ok : Bool) (hw : Words s.L) (h : (0 ≤ s.f.a ∧ s.f.a < 4294967296) ∧ (0 ≤ s.f.b ∧ s.f.b < 4294967296)) : FK 2 s (pqGive q ok s) := by
  have R := FK.refl h
  have hold := fun b => doA_old s.L hw b
  have Q := mxGive_fk (s := s) 2 q [8] hw h
  unfold pqGive
  split
  · exact (Q.fin _).more (by decide)
  · exact (Q).more (by decide)

theorem pqTry_fk (hw : Words s.L) (h : (0 ≤ s.f.a ∧ s.f.a < 4294967296) ∧ (0 ≤ s.f.b ∧ s.f.b < 4294967296)) : FK 2 s (pqTry s) := by
  have R := FK.refl h
  have hold := fun b => doA_old s.L hw b
  have Q := mxTry_fk (s := s) 2 h
  unfold pqTry
  split
  · split
    · exact ((Q.note _ _).goto _).more (by decide)
    · exact ((Q.note _ _).fin _).more (by decide)
  · exact (Q).more (by decide)

theorem pqLock_fk (hw : Words s.L) (h : (0 ≤ s.f.a ∧ s.f.a < 4294967296) ∧ (0 ≤ s.f.b ∧ s.f.b < 4294967296)) : FK 2 s (pqLock s) := by
  have R := FK.refl h
  have hold := fun b => doA_old s.L hw b
  unfold pqLock
  split
  · exact (((R.did _).setB (hold _)).goto _).more (by decide)
  split
  · exact ((((R.did _).setA (hold _)).note _ _).goto _).more (by decide)
  split
  · dsimp only
    split
    · split
      · exact (((R.waited _).note _ _).fin _).more (by decide)
      · exact ((R.waited _).fin _).more (by decide)
    · split
      · exact ((R.waited _).note _ _).more (by decide)
      · exact (R.waited _).more (by decide)
  · exact pqEnter_fk hw h

theorem pqLeave_fk (hw : Words s.L) (h : (0 ≤ s.f.a ∧ s.f.a < 4294967296) ∧ (0 ≤ s.f.b ∧ s.f.b < 4294967296)) : FK 2 s (pqLeave s) := by
  have R := FK.refl h
  have hold := fun b => doA_old s.L hw b
  unfold pqLeave
  split
  · exact (((R.did _).setB (hold _)).goto _).more (by decide)
  split
  · exact (((R.did _).setB (hold _)).goto _).more (by decide)
  split
  · exact ((((R.did _).note _ _).wake _).goto _).more (by decide)
  split
  · exact ((((R.did _).note _ _).wake _).goto _).more (by decide)
  split
  · exact ((R.did _).goto _).more (by decide)
  split
  · exact ((R.did _).goto _).more (by decide)
  · exact pqGive_fk _ _ hw h

theorem pqIn6_fk (hw : Words s.L) (h : (0 ≤ s.f.a ∧ s.f.a < 4294967296) ∧ (0 ≤ s.f.b ∧ s.f.b < 4294967296)) : FK 2 s (pqIn6 s) := by
  have R := FK.refl h
  have hold := fun b => doA_old s.L hw b
  unfold pqIn6
  dsimp only
  split
  · exact ((((R.did _).setB (hold _)).note _ _).goto _).more (by decide)
  · exact (((R.did _).setB (hold _)).goto _).more (by decide)

theorem pqLast6_fk (hw : Words s.L) (h : (0 ≤ s.f.a ∧ s.f.a < 4294967296) ∧ (0 ≤ s.f.b ∧ s.f.b < 4294967296)) : FK 2 s (pqLast6 s) := by
  have R := FK.refl h
  have hold := fun b => doA_old s.L hw b
  unfold pqLast6
  dsimp only
  split
  · split
    · exact (((R.waited _).note _ _).fin _).more (by decide)
    · exact ((R.waited _).fin _).more (by decide)
  · split
    · exact ((R.waited _).note _ _).more (by decide)
    · exact (R.waited _).more (by decide)

theorem pqIn7_fk (hw : Words s.L) (h : (0 ≤ s.f.a ∧ s.f.a < 4294967296) ∧ (0 ≤ s.f.b ∧ s.f.b < 4294967296)) : FK 2 s (pqIn7 s) := by
  have R := FK.refl h
  have hold := fun b => doA_old s.L hw b
  unfold pqIn7
  dsimp only
  split
  · exact ((((R.did _).setB (hold _)).note _ _).goto _).more (by decide)
  · exact (((R.did _).setB (hold _)).goto _).more (by decide)

theorem pqLast7_fk (hw : Words s.L) (h : (0 ≤ s.f.a ∧ s.f.a < 4294967296) ∧ (0 ≤ s.f.b ∧ s.f.b < 4294967296)) : FK 2 s (pqLast7 s) := by
  have R := FK.refl h
  have hold := fun b => doA_old s.L hw b
  unfold pqLast7
  dsimp only
  split
  · split
    · exact (((R.waited _).note _ _).goto _).more (by decide)
    · exact ((R.waited _).goto _).more (by decide)
  · split
    · exact ((R.waited _).note _ _).more (by decide)
    · exact (R.waited _).more (by decide)

theorem pqDecide_fk (hw : Words s.L) (h : (0 ≤ s.f.a ∧ s.f.a < 4294967296) ∧ (0 ≤ s.f.b ∧ s.f.b < 4294967296)) : FK 2 s (pqDecide s) := by
  have R := FK.refl h
  have hold := fun b => doA_old s.L hw b
  unfold pqDecide
  split
  · exact (((R.did _).setA (hold _)).goto _).more (by decide)
  split
  · split
    · exact pqIn7_fk hw h
    · exact pqIn6_fk hw h
  split
  · exact (((R.did _).setB (hold _)).goto _).more (by decide)
  split
  · exact ((((R.did _).setA (hold _)).note _ _).goto _).more (by decide)
  split
  · split
    · exact pqLast7_fk hw h
    · exact pqLast6_fk hw h
  split
  · split
    · exact ((R.did _).fin _).more (by decide)
    · exact (R).more (by decide)
  · exact pqGive_fk _ _ hw h

theorem pqA_fk (hw : Words s.L) (h : (0 ≤ s.f.a ∧ s.f.a < 4294967296) ∧ (0 ≤ s.f.b ∧ s.f.b < 4294967296)) : FK 2 s (pqA s) := by
  have R := FK.refl h
  have hold := fun b => doA_old s.L hw b
  unfold pqA
  split
  · exact pfR10_fk hw h
  split
  · exact pfR11_fk hw h
  split
  · exact pfR20_fk hw h
  split
  · exact pfR50_fk hw h
  split
  · exact pfR51_fk hw h
  split
  · exact pqLock_fk hw h
  split
  · exact pqLeave_fk hw h
  split
  · exact pqLeave_fk hw h
  split
  · split
    · exact pqTry_fk hw h
    · exact pqDecide_fk hw h
  split
  · split
    · exact pqTry_fk hw h
    · exact pqDecide_fk hw h
  · exact (R).more (by decide)
end
theorem pqA_fine (s : Rn) (hw : Words s.L) (h : I64 s.n ∧ (0 ≤ s.f.a ∧ s.f.a < 4294967296) ∧ (0 ≤ s.f.b ∧ s.f.b < 4294967296)) : Fine s (pqA s) := by
  have F := pqA_fk hw h.2
  exact fine_mk ⟨⟨by rw [F.1.1]; exact h.1, F.2.1⟩, by have := F.2.2; omega⟩
end Go.Proofs.Ytbcppehpfckgoaa.Z

/- Law 14: a step; an operation by itself. Written by genlaw.py. -/
set_option linter.unusedVariables false
set_option linter.unusedSimpArgs false
namespace Go.Proofs.Ytbcppehpfckgoaa.Z
open Go.RowKit

theorem pq_stepR {S0 : List Nat} {w0 w : World} {m a r : Nat} {rs : List Res} {s : Rn} (H : RunHas S0 w0 m a r rs s w) (hok : s.ok) :
    Calls Try.prog 18 #[.pointer (some ⟨r, 0, none⟩), .func (.func 64) #[] #[]] w fun e w' => e = .returned (.bool (stepR pqA s).over) ∧ RunHas S0 w0 m a r rs (stepR pqA s) w' := by
  cases hw : s.f.wk.on with
  | true =>
    have e : stepR pqA s = s.woke := by unfold stepR; rw [hw]; rfl
    rw [e]
    exact run_step_wake H hw hok.1 _
  | false =>
    have e : stepR pqA s = pqA s.fresh := by unfold stepR; rw [hw]; rfl
    rw [e]
    exact run_step_lines H hw 64 #[] #[] (enters_of Try.func64 (by kernel_rfl) rfl) (fun W HW => pq_lines HW hok.1 hok.2.1 hok.2.2 (by simp [Rn.fresh]))

theorem pq_stepok {s : Rn} (hw : Words s.L) (h : s.ok) : (stepR pqA s).ok ∧ (stepR pqA s).notes.length ≤ 10 := by
  unfold stepR
  split
  · exact ⟨woke_ok h, by simp [Rn.woke]⟩
  · have := pqA_fine s.fresh hw (fresh_ok h)
    exact ⟨this.1, by simpa [Rn.fresh] using this.2⟩

set_option maxHeartbeats 3200000 in
set_option maxRecDepth 100000 in
theorem pq_alone {S0 : List Nat} {w0 w : World} {m a : Nat} {L : List Int} {rs : List Res} (H : Has S0 w0 w (.mem m a L :: rs)) (n mode op : Int) (hn : I64 n) (most : Nat) (hm : most ≤ 2000) :
    Calls Try.prog 30 #[.pointer (some ⟨m, 0, none⟩), .int .i64 n, .int .i64 mode, .int .i64 op, .int .i64 most] w
      (AloneEnd S0 w0 m a rs (aloneA pqA most (start n mode op L))) := by
  have hnew := RunHas.fresh_ (rs := .own 112 4 (.slice none 0 0) 0 [] :: rs) (start n mode op L) (H.ownNil 112 4).swap rfl 52
  obtain ⟨i0, hi0, hz0, hz1, hz2⟩ := info_parts note_info
  have HI := Lib.hid (show _ ∧ _ ∧ _ ∧ _ from ⟨hi0, hz0, hz1, hz2⟩)
  have hok0 := start_ok hn mode op L
  generalize hR : aloneA pqA most (start n mode op L) = R
  have HN := Lib.hid hnew
  have HR := Lib.hid hR
  have HOK := Lib.hid hok0
  clear H hnew hi0 hz0 hz1 hz2 hR hok0 hn
  go_enter Try.func30, Try.ntmps30
  go_wp2_with fail
  refine wp_from (Facts := fun W => RunHas S0 w0 m a w.heap.size (.own 112 4 (.slice none 0 0) 0 [] :: rs) (start n mode op L) W) ?_ HN.out
  intro W HW
  clear HN
  generalize w.heap.size = B at HW ⊢
  have HV := Lib.hid HW
  clear HW
  go_loopw [13, 14] (fun nt i wr => ∃ (k : Nat) (s : Rn) (nn : Nat) (xs : List Value), k ≤ most ∧ i = .int .i64 k ∧ RunHas S0 w0 m a B (.own 112 4 nt nn xs :: rs) s wr ∧ s.ok ∧ nn ≤ 10 * k ∧ aloneA pqA (most - k) s = R) (fun _ i _ => most - (intOf i).toNat)
  case atStart => exact ⟨0, _, 0, [], Nat.zero_le _, rfl, HV.out, HOK.out, by simp, HR.out⟩
  case round =>
    obtain ⟨k, s, nn, xs, hk, rfl, hH, hok, hnn, hal⟩ := hrel
    clear HV HR HOK
    by_cases hlt : k < most
    · obtain ⟨q, hq⟩ : ∃ q, most - k = q + 1 := ⟨most - k - 1, by omega⟩
      rw [hq] at hal
      have hal2 : (if (stepR pqA s).over then ((stepR pqA s).f.ret, stepR pqA s) else aloneA pqA q (stepR pqA s)) = R := hal
      have hso := pq_stepok hH.words hok
      have hst := pq_stepR hH hok
      cases hov : (stepR pqA s).over with
      | true =>
        rw [hov] at hst hal2
        simp only [if_true] at hal2
        subst hal2
        generalize stepR pqA s = s2 at hst hso
        have HST := Lib.hid hst
        have HSO := Lib.hid hso
        have HNN := Lib.hid hnn
        clear hst hso hH hok hnn hal hov
        have hi : (k : Int) < (most : Int) := by omega
        go_wp2_with fail
        refine HST.out.mono ?_
        rintro e w1 ⟨rfl, nv, H3⟩
        obtain ⟨pn, cn, rfl⟩ := owns_slice H3.own3
        have c19 : w1.cell? ⟨B, 19, none⟩ = some (.slice pn s2.notes.length cn) := H3.blk1.cell 19
        go_wp2_with (at_builtin; refine wpList_append_rd (P := Try.prog) _ rfl (.tmp 31) (.tmp 35) _ rfl 0 112 i0 _ 4 32 Try.underlying32 HI.out.1 HI.out.2.1 HI.out.2.2.1 HI.out.2.2.2 rfl (by omega) _ nn xs rfl (Has.ownAt H3 3 rfl) pn s2.notes.length cn (nts s2.notes) rfl (Rd.own H3.own3) (nts_one _) (by have h1 := HSO.out.2; have h2 := HNN.out; simp only [maxLen]; omega) (by have h1 := HSO.out.2; have h2 := HNN.out; omega) (by omega) ?_; intro v' w' hown hg hat; have H4 := H3.grown4 hown hg hat; clear H3 hown hg hat c19; have c13 : w'.cell? ⟨B, 13, none⟩ = some (.int .i64 s2.f.ret) := H4.blk1.cell 13)
        go_wp2
        go_ret2
        exact ⟨_, rfl, H4.cut3⟩
      | false =>
        rw [hov] at hst hal2
        simp only [Bool.false_eq_true, if_false] at hal2
        generalize stepR pqA s = s2 at hst hso hal2
        have HST := Lib.hid hst
        have HSO := Lib.hid hso
        have HNN := Lib.hid hnn
        have HAL := Lib.hid hal2
        clear hst hso hH hok hnn hal hov hal2
        have hi : (k : Int) < (most : Int) := by omega
        go_wp2_with fail
        refine HST.out.mono ?_
        rintro e w1 ⟨rfl, nv, H3⟩
        obtain ⟨pn, cn, rfl⟩ := owns_slice H3.own3
        have c19 : w1.cell? ⟨B, 19, none⟩ = some (.slice pn s2.notes.length cn) := H3.blk1.cell 19
        go_wp2_with (at_builtin; refine wpList_append_rd (P := Try.prog) _ rfl (.tmp 31) (.tmp 35) _ rfl 0 112 i0 _ 4 32 Try.underlying32 HI.out.1 HI.out.2.1 HI.out.2.2.1 HI.out.2.2.2 rfl (by omega) _ nn xs rfl (Has.ownAt H3 3 rfl) pn s2.notes.length cn (nts s2.notes) rfl (Rd.own H3.own3) (nts_one _) (by have h1 := HSO.out.2; have h2 := HNN.out; simp only [maxLen]; omega) (by have h1 := HSO.out.2; have h2 := HNN.out; omega) (by omega) ?_; intro v' w' hown hg hat; have H4 := H3.grown4 hown hg hat; clear H3 hown hg hat c19)
        go_wp2
        go_roundw
        case rel => exact ⟨k + 1, s2, nn + s2.notes.length, xs ++ nts s2.notes, by omega, by go_num, ⟨_, H4⟩, HSO.out.1, by have h1 := HSO.out.2; have h2 := HNN.out; omega, by rw [show most - (k + 1) = q from by omega]; exact HAL.out⟩
        case measure => simp [intOf]; omega
    · have hkm : k = most := by omega
      subst hkm
      rw [Nat.sub_self] at hal
      have hal2 : ((0 : Int), s) = R := hal
      subst hal2
      have HH := Lib.hid hH
      clear hH hok hnn hal hk hlt
      have hi : (k : Int) ≤ (k : Int) := Int.le_refl _
      go_wp2_with fail
      go_ret2
      obtain ⟨nv, H4⟩ := HH.out
      exact ⟨_, rfl, H4.cut3⟩

end Go.Proofs.Ytbcppehpfckgoaa.Z

/- Law 14: the document's example. Written by genlaw.py. -/
set_option linter.unusedVariables false
set_option linter.unusedSimpArgs false
namespace Go.Proofs.Ytbcppehpfckgoaa.Z
open Go.RowKit

theorem pq_awake_pure : (aloneA pqA 7 (start 1 1 6 (own3 1 ++ List.replicate ((8 + 4 * (1 : Int)).toNat - 4) 0))).1 = 2 ∧ (ldA (aloneA pqA 7 (start 1 1 6 (own3 1 ++ List.replicate ((8 + 4 * (1 : Int)).toNat - 4) 0))).2.L 2 = 1 ∧ ldA (aloneA pqA 7 (start 1 1 6 (own3 1 ++ List.replicate ((8 + 4 * (1 : Int)).toNat - 4) 0))).2.L 0 = 259) := by
  decide +kernel

set_option maxHeartbeats 1600000 in
theorem pq_awake (w : World) : Calls Try.prog 31 #[] w fun e w' => e = .returned (.bool true) ∧ Touch [] w w' := by
  have hp := pq_awake_pure
  have hf := fun W => first3 1 1 W (by decide) (by decide)
  generalize hL : own3 1 ++ List.replicate ((8 + 4 * (1 : Int)).toNat - 4) 0 = L at hf hp
  have HF := Lib.hid hf
  clear hf hL
  go_enter Try.func31, Try.ntmps31
  go_wp2_with fail
  refine (HF.out _).mono ?_
  rintro e w1 h1
  obtain ⟨p, g, cap, rfl, H1⟩ := has_newwords (Has.start [] w) h1
  clear h1
  go_wp2_with fail
  refine (fromRow_has H1 rfl).mono ?_
  rintro e w2 ⟨m, a, rfl, H2⟩
  clear H1
  go_wp2_with fail
  refine (pq_alone H2 1 1 6 (by unfold I64; decide) 7 (by decide)).mono ?_
  rintro e w3 ⟨v, he, H3⟩
  generalize aloneA pqA 7 (start 1 1 6 L) = R at hp he H3
  obtain ⟨r1, s3⟩ := R
  obtain ⟨rfl, hp2⟩ := hp
  simp only at he H3 hp2
  subst he
  clear H2
  have hld := fun (c : Int) W (H : Has [] w W (.mem m a s3.L :: .row p g cap L :: [])) => load_has H c
  have hl0 := hld 2
  have hl1 := hld 0
  rw [hp2.1] at hl0
  rw [hp2.2] at hl1
  have HL0 := Lib.hid hl0
  have HL1 := Lib.hid hl1
  clear hld hl0 hl1 hp2
  go_wp2_with fail
  refine (HL0.out _ H3).mono ?_
  rintro e w4 ⟨rfl, G4⟩
  go_wp2_with fail
  refine (HL1.out _ G4).mono ?_
  rintro e w5 ⟨rfl, H4⟩
  go_wp2_with fail
  go_ret
  exact ⟨by simp, H4.touch⟩

end Go.Proofs.Ytbcppehpfckgoaa.Z
