/- 6 texts of this claim, joined: what each shows stands at its own head. -/
import Derived.Test.YtlndihdlodempaaZXRun7
import Derived.Test.YtlndihdlodempaaZBits
import Derived.Test.YtlndihdlodempaaZXRun
import Derived.Test.YtlndihdlodempaaZRun7
import Derived.Test.YtlndihdlodempaaZRun2
/- The document's run: a box more; what a wait looks at. -/
set_option linter.unusedVariables false
set_option linter.unusedSimpArgs false
namespace Go.Proofs.Ytlndihdlodempaa.Z
open Go.RowKit

/-- A box more. -/
theorem XHas.box {S0 : List Nat} {w0 w : World} {p : Option Addr} {g cap x : Nat} {rs : List Res} {s : Rn} (H : XHas S0 w0 p g cap x rs s w) {b : Nat} (hb : w.heap.size = b) (cs : Array Value) (T : TypeId) : XHas S0 w0 p g cap x (.blk b cs :: rs) s (w.alloc (.cells cs T)) := by
  obtain ⟨nv, H⟩ := H
  exact ⟨nv, (H.new hb cs T).perm (perm_past3 (Res.row p g cap s.L) (Res.blk x (xcells p cap s nv)) (Res.own 98 4 nv s.notes.length (nts s.notes)) [Res.blk b cs] rs)⟩
theorem XHas.unbox {S0 : List Nat} {w0 w : World} {p : Option Addr} {g cap x : Nat} {y : Res} {rs : List Res} {s : Rn} (H : XHas S0 w0 p g cap x (y :: rs) s w) : XHas S0 w0 p g cap x rs s w := by
  obtain ⟨nv, H⟩ := H
  exact ⟨nv, H.cut31⟩
theorem XHas.first {S0 : List Nat} {w0 w : World} {p : Option Addr} {g cap x b : Nat} {cs : Array Value} {rs : List Res} {s : Rn} (H : XHas S0 w0 p g cap x (.blk b cs :: rs) s w) : Blk w b cs := by
  obtain ⟨nv, H⟩ := H
  exact H.at_ 3 rfl

theorem untilA_all {v : Int} (a : Int) (h : 0 ≤ v ∧ v < 4294967296) : untilA 0 4294967295 a v = (v == a) := by
  obtain ⟨n, rfl⟩ : ∃ n : Nat, v = n := ⟨v.toNat, by omega⟩
  show (bits .and .u32 (n : Int) 4294967295 == a) = _
  have h1 := ZB.bits_and n 4294967295 (by omega) (by decide)
  have h2 : n &&& 4294967295 = n := by
    rw [show (4294967295 : Nat) = 2 ^ 32 - 1 from rfl, Nat.and_two_pow_sub_one_eq_mod]
    omega
  rw [h2] at h1
  rw [show ((4294967295 : Nat) : Int) = 4294967295 from rfl] at h1
  rw [h1]
theorem untilA_some {v : Int} (a : Int) (h : 0 ≤ v ∧ v < 4294967296) : untilA 1 4294967295 a v = (v != a) := by
  have h1 := untilA_all a h
  unfold untilA at h1 ⊢
  simp only [if_true] at h1
  simp only [show ¬ ((1 : Int) = 0) from by decide, if_false, if_true]
  unfold bne
  rw [h1]
/-- A wait looks at a word: what else is so elsewhere doesn't matter. -/
theorem waitA_like {L : List Int} {n mode task st c : Int} {p q : Int → Bool} (hw : Words L) (h : ∀ v, 0 ≤ v ∧ v < 4294967296 → p v = q v) : waitA L n mode task st c p = waitA L n mode task st c q := by
  have h1 := fun b => h _ (doA_old L hw b)
  unfold waitA
  simp only [h1]
theorem XHas.words_ {S0 : List Nat} {w0 w : World} {p : Option Addr} {g cap x : Nat} {rs : List Res} {s : Rn} (H : XHas S0 w0 p g cap x rs s w) : Words s.L := by
  obtain ⟨nv, H⟩ := H
  exact H.row.words
theorem XHas.back_ {S0 : List Nat} {w0 w : World} {p : Option Addr} {g cap x : Nat} {rs : List Res} {s : Rn} {R : Acc × Bool × List Int} {k l : Int} (H : XHas S0 w0 p g cap x rs ((s.goto k).did R) w) (h : s.f.line = l) : XHas S0 w0 p g cap x rs (s.did R) (w.setCell ⟨x, 5, none⟩ (.int .i64 l)) := by
  have e : ((s.goto k).did R).goto l = s.did R := by
    obtain ⟨n, mode, task, ⟨op, line, fa, fb, st, wk, ret⟩, acc, notes, L⟩ := s
    simp only at h
    subst h
    rfl
  rw [← e]
  exact H.goto l

end Go.Proofs.Ytlndihdlodempaa.Z

/- The document's run stores and swaps. Written by genxrun.py. -/
set_option linter.unusedVariables false
set_option linter.unusedSimpArgs false
namespace Go.Proofs.Ytlndihdlodempaa.Z
open Go.RowKit

set_option maxRecDepth 100000 in
theorem x_store {S0 : List Nat} {w0 w : World} {p : Option Addr} {g cap x : Nat} {nv : Value} {rs : List Res} {s : Rn} (H : Has S0 w0 w (.row p g cap (s).L :: .blk x (xcells p cap (s) nv) :: rs)) (c : Int) (u : Int) (hu : 0 ≤ u ∧ u < 4294967296) :
    Calls Try.prog 64 #[.pointer (some ⟨x, 0, none⟩), .int .i64 c, .int .u32 u] w fun e w' => e = .returned (.tuple #[]) ∧ Has S0 w0 w' (.row p g cap (s.did (doA s.L ⟨2, c, u, 0, 0⟩)).L :: .blk x (xcells p cap (s.did (doA s.L ⟨2, c, u, 0, 0⟩)) nv) :: rs) := by
  have hd := fun W (H : Has S0 w0 W (.row p g cap (s).L :: .blk x (xcells p cap (s) nv) :: rs)) => x_do H 2 c u 0 hu (by simp)
  generalize (doA s.L ⟨2, c, u, 0, 0⟩).1.old = o at hd ⊢
  generalize s.did (doA s.L ⟨2, c, u, 0, 0⟩) = s2 at hd ⊢
  have HD := Lib.hid hd
  have HH := Lib.hid H
  clear hd H
  go_enter Try.func64, Try.ntmps64
  go_wp2_with fail
  refine (HD.out _ HH.out).mono ?_
  rintro e w1 ⟨rfl, H1⟩
  go_wp2_with fail
  go_end0
  exact ⟨rfl, H1⟩

set_option maxRecDepth 100000 in
theorem x_swap {S0 : List Nat} {w0 w : World} {p : Option Addr} {g cap x : Nat} {nv : Value} {rs : List Res} {s : Rn} (H : Has S0 w0 w (.row p g cap (s).L :: .blk x (xcells p cap (s) nv) :: rs)) (c : Int) (u : Int) (hu : 0 ≤ u ∧ u < 4294967296) :
    Calls Try.prog 66 #[.pointer (some ⟨x, 0, none⟩), .int .i64 c, .int .u32 u] w fun e w' => e = .returned (.int .u32 (doA s.L ⟨4, c, u, 0, 0⟩).1.old) ∧ Has S0 w0 w' (.row p g cap (s.did (doA s.L ⟨4, c, u, 0, 0⟩)).L :: .blk x (xcells p cap (s.did (doA s.L ⟨4, c, u, 0, 0⟩)) nv) :: rs) := by
  have hd := fun W (H : Has S0 w0 W (.row p g cap (s).L :: .blk x (xcells p cap (s) nv) :: rs)) => x_do H 4 c u 0 hu (by simp)
  generalize (doA s.L ⟨4, c, u, 0, 0⟩).1.old = o at hd ⊢
  generalize s.did (doA s.L ⟨4, c, u, 0, 0⟩) = s2 at hd ⊢
  have HD := Lib.hid hd
  have HH := Lib.hid H
  clear hd H
  go_enter Try.func66, Try.ntmps66
  go_wp2_with fail
  refine (HD.out _ HH.out).mono ?_
  rintro e w1 ⟨rfl, H1⟩
  go_wp2_with fail
  go_ret
  exact ⟨rfl, H1⟩

end Go.Proofs.Ytlndihdlodempaa.Z

/- Package line: a run waits, and what was seen is kept in the frame. -/
set_option linter.unusedVariables false
set_option linter.unusedSimpArgs false
namespace Go.Proofs.Ytlndihdlodempaa.Z
open Go.RowKit

theorem mem_any {w : World} {m a : Nat} {L : List Int} (h : Mem w m a L) (b : Nat) (hm : m ≠ b) (hb : L.length = 0 ∨ b = a) : Mem w m b L := by
  rcases hb with hb | rfl
  · obtain ⟨p, cap, hh, r1, r2, r3⟩ := h.head
    exact ⟨hm, h.words, ⟨p, cap, hh, r1, r2, fun h0 => absurd h0 (by omega)⟩, fun h0 => absurd h0 (by omega)⟩
  · exact h

/-- A step of waiting, by a look that keeps what it sees. -/
theorem wstep_keep {S0 : List Nat} {w0 w : World} {m a r : Nat} {nv : Value} {rs : List Res} {s : Rn} (H : Has S0 w0 w (.mem m a s.L :: .blk r (rcells m s nv) :: rs)) (c : Int) (hn : I64 s.n) (fid : FuncId) (first cap : Array Value) (p : Int → Bool)
    (eg : ∀ args w, (callFunc fid args).run Try.prog w = .ok (.enter fid args) w)
    (hF : ∀ W v, 0 ≤ v → v < 4294967296 → Has S0 w0 W (.mem m a s.L :: .blk r (rcells m s nv) :: rs) → Calls Try.prog fid (first ++ #[.int .u32 v] ++ cap) W fun e W' => e = .returned (.bool (p v)) ∧ Touch [r] W W' ∧ Blk W' r (rcells m (if p v then s.setA v else s) nv)) :
    Calls Try.prog 128 #[.pointer (some ⟨m, 0, none⟩), .agg #[.int .i64 s.n], .int .i64 s.mode, .int .i64 s.task, .agg #[.int .i64 s.f.st], .int .i64 c, .func (.func fid) first cap] w
      fun e w' => e = .returned (waitA s.L s.n s.mode s.task s.f.st c p).value ∧ Has S0 w0 w' (.mem m a (waitA s.L s.n s.mode s.task s.f.st c p).words :: .blk r (rcells m (s.keep (waitA s.L s.n s.mode s.task s.f.st c p)) nv) :: rs) := by
  have hM := H.mem
  have hv := doA_old s.L hM.words ⟨1, c, 0, 0, 0⟩
  have hrl : r < w.heap.size := H.blk1.lt
  have hfar : ∀ k, k ∈ (Res.mem m a s.L).foot → k ≠ r := fun k hk e => (List.pairwise_cons.1 H.apart).1 (.blk r (rcells m s nv)) (by simp) k hk (by simp [Res.foot, e])
  have hback : ∀ (w' : World) (cs : Array Value), Mem w' m a s.L → Touch [r] w w' → Blk w' r cs → Has S0 w0 w' (.mem m a s.L :: .blk r cs :: rs) := fun w' cs hM' t hb =>
    Has.swap (Has.upd (xs := [.blk r (rcells m s nv)]) (rs := .mem m a s.L :: rs) [.blk r cs] (S := [r]) H.swap t (by simp [foots, Res.foot]) (by simp [Res.holds]; exact hb) (by simp) (by simp [foots, Res.foot]))
  have hpure : ∀ (R : WaitR) (e : Ending) (w' : World), R.seen = false → R.words.length = s.L.length → (e = .returned R.value ∧ Mem w' m a R.words ∧ Touch (lv a s.L) w w') → e = .returned R.value ∧ Has S0 w0 w' (.mem m a R.words :: .blk r (rcells m (s.keep R) nv) :: rs) := by
    rintro R e w' hs hl ⟨he, hM', t⟩
    refine ⟨he, ?_⟩
    unfold Rn.keep
    rw [hs]
    exact H.words hM' hl t
  obtain ⟨a', ha', har, hma⟩ : ∃ a', (s.L.length = 0 ∨ a' = a) ∧ r ≠ a' ∧ m ≠ a' := by
    by_cases h0 : s.L.length = 0
    · exact ⟨m + r + 1, Or.inl h0, by omega, by omega⟩
    · exact ⟨a, Or.inr rfl, fun e => hfar a (by simp [Res.foot, lv]; omega) e.symm, hM.ne⟩
  have hMa := mem_any hM a' hma ha'
  have hMb : ∀ {w'}, Mem w' m a' s.L → Mem w' m a s.L := fun h => mem_any h a hM.ne (by rcases ha' with h | h; exact Or.inl h; exact Or.inr h.symm)
  have hlook := fun hst => wait_look (S := [r]) (G := fun W => Blk W r (rcells m (if p (doA s.L ⟨1, c, 0, 0, 0⟩).1.old then s.setA (doA s.L ⟨1, c, 0, 0, 0⟩).1.old else s) nv)) hMa s.n s.mode s.task s.f.st c fid first cap (p (doA s.L ⟨1, c, 0, 0, 0⟩).1.old) eg hst
    (by
      intro k hk
      simp only [List.mem_singleton] at hk
      subst hk
      refine ⟨hrl, ?_, ?_⟩
      · exact fun e => hfar m (by simp [Res.foot]) e.symm
      · exact har)
    (fun W W' T hg t hT => t.blk hg (fun hm => by have := hT r hm; omega))
    (fun W t => (hF W _ hv.1 hv.2 (H.grow t)))
  rcases stageA_is s.mode s.f.st with e | e | e | e | e
  · rw [waitA0 e]
    refine (hlook (Or.inl e)).mono ?_
    rintro en w' ⟨he, hM', t, hb⟩
    refine ⟨by rw [he, e]; simp [WaitR.value], ?_⟩
    have := hback w' _ (hMb hM') t hb
    unfold Rn.keep
    exact this
  · rw [waitA1 e]
    exact (wait_say hM s.n s.mode s.task s.f.st c hn _ e).mono fun en w' h => hpure _ en w' rfl (doA_length _ _) h
  · rw [waitA2 e]
    refine (hlook (Or.inr e)).mono ?_
    rintro en w' ⟨he, hM', t, hb⟩
    refine ⟨by rw [he, e]; simp [WaitR.value], ?_⟩
    have := hback w' _ (hMb hM') t hb
    unfold Rn.keep
    exact this
  · rw [waitA3 e]
    exact (wait_sleep hM s.n s.mode s.task s.f.st c hn _ e).mono fun en w' h => hpure _ en w' rfl (by unfold takeA; split; exact doA_length _ _; rfl) h
  · rw [waitA4 e]
    exact (wait_forget hM s.n s.mode s.task s.f.st c hn _ e).mono fun en w' h => hpure _ en w' rfl (doA_length _ _) h

theorem rn_wait_keep {S0 : List Nat} {w0 w : World} {m a r : Nat} {rs : List Res} {s : Rn} (H : RunHas S0 w0 m a r rs s w) (hn : I64 s.n) (c : Int) (fid : FuncId) (first cap : Array Value) (p : Int → Bool)
    (eg : ∀ args w, (callFunc fid args).run Try.prog w = .ok (.enter fid args) w)
    (hF : ∀ W nv v, 0 ≤ v → v < 4294967296 → Has S0 w0 W (.mem m a s.L :: .blk r (rcells m s nv) :: .own 98 4 nv s.notes.length (nts s.notes) :: rs) → Calls Try.prog fid (first ++ #[.int .u32 v] ++ cap) W fun e W' => e = .returned (.bool (p v)) ∧ Touch [r] W W' ∧ Blk W' r (rcells m (if p v then s.setA v else s) nv)) :
    Calls Try.prog 57 #[.pointer (some ⟨r, 0, none⟩), .int .i64 c, .func (.func fid) first cap] w
      fun e w' => e = .returned (.tuple #[.bool (waitA s.L s.n s.mode s.task s.f.st c p).seen, .bool (waitA s.L s.n s.mode s.task s.f.st c p).done]) ∧ RunHas S0 w0 m a r rs ((s.keep (waitA s.L s.n s.mode s.task s.f.st c p)).waited (waitA s.L s.n s.mode s.task s.f.st c p)) w' := by
  obtain ⟨nv, H⟩ := H
  refine (run_wait (s2 := s.keep (waitA s.L s.n s.mode s.task s.f.st c p)) H c _ _ (fun W HW => wstep_keep HW c hn fid first cap p eg (fun W v h0 h1 HW => hF W nv v h0 h1 HW))).mono fun e w' h => ⟨h.1, nv, ?_⟩
  have e1 : ((s.keep (waitA s.L s.n s.mode s.task s.f.st c p)).waited (waitA s.L s.n s.mode s.task s.f.st c p)).notes = s.notes := by unfold Rn.keep; split <;> rfl
  rw [e1]
  exact h.2

end Go.Proofs.Ytlndihdlodempaa.Z

/- Package line: a run stores and swaps. -/
set_option linter.unusedVariables false
set_option linter.unusedSimpArgs false
namespace Go.Proofs.Ytlndihdlodempaa.Z
open Go.RowKit

set_option maxRecDepth 100000 in
theorem run_swap {S0 : List Nat} {w0 w : World} {m a r : Nat} {nv : Value} {rs : List Res} {s : Rn} (H : Has S0 w0 w (.mem m a s.L :: .blk r (rcells m s nv) :: rs)) (c x : Int) (hx : 0 ≤ x ∧ x < 4294967296) :
    Calls Try.prog 55 #[.pointer (some ⟨r, 0, none⟩), .int .i64 c, .int .u32 x] w fun e w' => e = .returned (.int .u32 (doA s.L ⟨4, c, x, 0, 0⟩).1.old) ∧ Has S0 w0 w' (.mem m a (s.did (doA s.L ⟨4, c, x, 0, 0⟩)).L :: .blk r (rcells m (s.did (doA s.L ⟨4, c, x, 0, 0⟩)) nv) :: rs) := by
  have hd := fun W (H : Has S0 w0 W (.mem m a s.L :: .blk r (rcells m s nv) :: rs)) => run_do H ⟨4, c, x, 0, 0⟩ hx (by simp)
  generalize doA s.L ⟨4, c, x, 0, 0⟩ = R at hd ⊢
  obtain ⟨⟨rk, rc, rx, ry, ro⟩, rok, L2⟩ := R
  simp only [Acc.cells] at hd ⊢
  have hf := fieldOld rk rc rx ry ro
  go_enter Try.func55, Try.ntmps55
  go_wp2_with (go_at_call 122; refine (hd _ H).mono ?_; rintro e w1 ⟨rfl, H1⟩)
  go_ret
  exact ⟨rfl, H1⟩

set_option maxRecDepth 100000 in
theorem run_swap_nil (w : World) (c x : Int) (hx : 0 ≤ x ∧ x < 4294967296) :
    Calls Try.prog 55 #[.pointer none, .int .i64 c, .int .u32 x] w fun e w' => e = .returned (.int .u32 0) ∧ Touch [] w w' := by
  have hd := fun W => run_do_nil W ⟨4, c, x, 0, 0⟩
  simp only [Acc.cells, Acc.zero] at hd
  have hf := fieldOld 0 0 0 0 0
  go_enter Try.func55, Try.ntmps55
  go_wp2_with (go_at_call 122; refine (hd _).mono ?_; rintro e w1 ⟨rfl, t1⟩)
  go_ret
  exact ⟨rfl, t1⟩


end Go.Proofs.Ytlndihdlodempaa.Z

/- Package line: a run stores and swaps, said of RunHas. -/
set_option linter.unusedVariables false
set_option linter.unusedSimpArgs false
namespace Go.Proofs.Ytlndihdlodempaa.Z
open Go.RowKit

theorem rn_swap {S0 : List Nat} {w0 w : World} {m a r : Nat} {rs : List Res} {s : Rn} (H : RunHas S0 w0 m a r rs s w) (c x : Int) (hx : 0 ≤ x ∧ x < 4294967296) :
    Calls Try.prog 55 #[.pointer (some ⟨r, 0, none⟩), .int .i64 c, .int .u32 x] w fun e w' => e = .returned (.int .u32 (doA s.L ⟨4, c, x, 0, 0⟩).1.old) ∧ RunHas S0 w0 m a r rs (s.did (doA s.L ⟨4, c, x, 0, 0⟩)) w' := by
  obtain ⟨nv, H⟩ := H
  exact (run_swap H c x hx).mono fun e w' h => ⟨h.1, nv, h.2⟩

end Go.Proofs.Ytlndihdlodempaa.Z

/- Package line: a run stores and swaps. -/
set_option linter.unusedVariables false
set_option linter.unusedSimpArgs false
namespace Go.Proofs.Ytlndihdlodempaa.Z
open Go.RowKit

set_option maxRecDepth 100000 in
theorem run_store {S0 : List Nat} {w0 w : World} {m a r : Nat} {nv : Value} {rs : List Res} {s : Rn} (H : Has S0 w0 w (.mem m a s.L :: .blk r (rcells m s nv) :: rs)) (c x : Int) (hx : 0 ≤ x ∧ x < 4294967296) :
    Calls Try.prog 47 #[.pointer (some ⟨r, 0, none⟩), .int .i64 c, .int .u32 x] w fun e w' => e = .returned (.tuple #[]) ∧ Has S0 w0 w' (.mem m a (s.did (doA s.L ⟨2, c, x, 0, 0⟩)).L :: .blk r (rcells m (s.did (doA s.L ⟨2, c, x, 0, 0⟩)) nv) :: rs) := by
  have hd := fun W (H : Has S0 w0 W (.mem m a s.L :: .blk r (rcells m s nv) :: rs)) => run_do H ⟨2, c, x, 0, 0⟩ hx (by simp)
  generalize doA s.L ⟨2, c, x, 0, 0⟩ = R at hd ⊢
  obtain ⟨⟨rk, rc, rx, ry, ro⟩, rok, L2⟩ := R
  simp only [Acc.cells] at hd ⊢
  have hf := fieldOld rk rc rx ry ro
  go_enter Try.func47, Try.ntmps47
  go_wp2_with (go_at_call 122; refine (hd _ H).mono ?_; rintro e w1 ⟨rfl, H1⟩)
  go_end0
  exact ⟨rfl, H1⟩

set_option maxRecDepth 100000 in
theorem run_store_nil (w : World) (c x : Int) (hx : 0 ≤ x ∧ x < 4294967296) :
    Calls Try.prog 47 #[.pointer none, .int .i64 c, .int .u32 x] w fun e w' => e = .returned (.tuple #[]) ∧ Touch [] w w' := by
  have hd := fun W => run_do_nil W ⟨2, c, x, 0, 0⟩
  simp only [Acc.cells, Acc.zero] at hd
  have hf := fieldOld 0 0 0 0 0
  go_enter Try.func47, Try.ntmps47
  go_wp2_with (go_at_call 122; refine (hd _).mono ?_; rintro e w1 ⟨rfl, t1⟩)
  go_end0
  exact ⟨rfl, t1⟩

end Go.Proofs.Ytlndihdlodempaa.Z
