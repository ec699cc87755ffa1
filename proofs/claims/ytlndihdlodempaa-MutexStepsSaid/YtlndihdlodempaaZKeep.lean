/- Package line: a run waits, and what was seen is kept in the frame. -/
import Derived.Test.YtlndihdlodempaaZRun7
set_option linter.unusedVariables false
set_option linter.unusedSimpArgs false
namespace Go.Proofs.Ytlndihdlodempaa.Z
open Go.RowKit

theorem mem_any {w : World} {m a : Nat} {L : List Int} (h : Mem w m a L) (b : Nat) (hm : m ≠ b) (hb : L.length = 0 ∨ b = a) : Mem w m b L := by
  rcases hb with hb | rfl
  · obtain ⟨p, cap, hh, r1, r2, r3⟩ := h.head
    exact ⟨hm, h.words, ⟨p, cap, hh, r1, r2, fun h0 => absurd h0 (by omega)⟩, fun h0 => absurd h0 (by omega)⟩
  · exact h

/-- A step of waiting, by a look that keeps what it sees. -/
theorem wstep_keep {S0 : List Nat} {w0 w : World} {m a r : Nat} {nv : Value} {rs : List Res} {s : Rn} (H : Has S0 w0 w (.mem m a s.L :: .blk r (rcells m s nv) :: rs)) (c : Int) (hn : I64 s.n) (fid : FuncId) (first cap : Array Value) (p : Int → Bool)
    (eg : ∀ args w, (callFunc fid args).run Try.prog w = .ok (.enter fid args) w)
    (hF : ∀ W v, 0 ≤ v → v < 4294967296 → Has S0 w0 W (.mem m a s.L :: .blk r (rcells m s nv) :: rs) → Calls Try.prog fid (first ++ #[.int .u32 v] ++ cap) W fun e W' => e = .returned (.bool (p v)) ∧ Touch [r] W W' ∧ Blk W' r (rcells m (if p v then s.setA v else s) nv)) :
    Calls Try.prog 128 #[.pointer (some ⟨m, 0, none⟩), .agg #[.int .i64 s.n], .int .i64 s.mode, .int .i64 s.task, .agg #[.int .i64 s.f.st], .int .i64 c, .func (.func fid) first cap] w
      fun e w' => e = .returned (waitA s.L s.n s.mode s.task s.f.st c p).value ∧ Has S0 w0 w' (.mem m a (waitA s.L s.n s.mode s.task s.f.st c p).words :: .blk r (rcells m (s.keep (waitA s.L s.n s.mode s.task s.f.st c p)) nv) :: rs) := by
  have hM := H.mem
  have hv := doA_old s.L hM.words ⟨1, c, 0, 0, 0⟩
  have hrl : r < w.heap.size := H.blk1.lt
  have hfar : ∀ k, k ∈ (Res.mem m a s.L).foot → k ≠ r := fun k hk e => (List.pairwise_cons.1 H.apart).1 (.blk r (rcells m s nv)) (by simp) k hk (by simp [Res.foot, e])
  have hback : ∀ (w' : World) (cs : Array Value), Mem w' m a s.L → Touch [r] w w' → Blk w' r cs → Has S0 w0 w' (.mem m a s.L :: .blk r cs :: rs) := fun w' cs hM' t hb =>
    Has.swap (Has.upd (xs := [.blk r (rcells m s nv)]) (rs := .mem m a s.L :: rs) [.blk r cs] (S := [r]) H.swap t (by simp [foots, Res.foot]) (by simp [Res.holds]; exact hb) (by simp) (by simp [foots, Res.foot]))
  have hpure : ∀ (R : WaitR) (e : Ending) (w' : World), R.seen = false → R.words.length = s.L.length → (e = .returned R.value ∧ Mem w' m a R.words ∧ Touch (lv a s.L) w w') → e = .returned R.value ∧ Has S0 w0 w' (.mem m a R.words :: .blk r (rcells m (s.keep R) nv) :: rs) := by
    rintro R e w' hs hl ⟨he, hM', t⟩
    refine ⟨he, ?_⟩
    unfold Rn.keep
    rw [hs]
    exact H.words hM' hl t
  obtain ⟨a', ha', har, hma⟩ : ∃ a', (s.L.length = 0 ∨ a' = a) ∧ r ≠ a' ∧ m ≠ a' := by
    by_cases h0 : s.L.length = 0
    · exact ⟨m + r + 1, Or.inl h0, by omega, by omega⟩
    · exact ⟨a, Or.inr rfl, fun e => hfar a (by simp [Res.foot, lv]; omega) e.symm, hM.ne⟩
  have hMa := mem_any hM a' hma ha'
  have hMb : ∀ {w'}, Mem w' m a' s.L → Mem w' m a s.L := fun h => mem_any h a hM.ne (by rcases ha' with h | h; exact Or.inl h; exact Or.inr h.symm)
  have hlook := fun hst => wait_look (S := [r]) (G := fun W => Blk W r (rcells m (if p (doA s.L ⟨1, c, 0, 0, 0⟩).1.old then s.setA (doA s.L ⟨1, c, 0, 0, 0⟩).1.old else s) nv)) hMa s.n s.mode s.task s.f.st c fid first cap (p (doA s.L ⟨1, c, 0, 0, 0⟩).1.old) eg hst
    (by
      intro k hk
      simp only [List.mem_singleton] at hk
      subst hk
      refine ⟨hrl, ?_, ?_⟩
      · exact fun e => hfar m (by simp [Res.foot]) e.symm
      · exact har)
    (fun W W' T hg t hT => t.blk hg (fun hm => by have := hT r hm; omega))
    (fun W t => (hF W _ hv.1 hv.2 (H.grow t)))
  rcases stageA_is s.mode s.f.st with e | e | e | e | e
  · rw [waitA0 e]
    refine (hlook (Or.inl e)).mono ?_
    rintro en w' ⟨he, hM', t, hb⟩
    refine ⟨by rw [he, e]; simp [WaitR.value], ?_⟩
    have := hback w' _ (hMb hM') t hb
    unfold Rn.keep
    exact this
  · rw [waitA1 e]
    exact (wait_say hM s.n s.mode s.task s.f.st c hn _ e).mono fun en w' h => hpure _ en w' rfl (doA_length _ _) h
  · rw [waitA2 e]
    refine (hlook (Or.inr e)).mono ?_
    rintro en w' ⟨he, hM', t, hb⟩
    refine ⟨by rw [he, e]; simp [WaitR.value], ?_⟩
    have := hback w' _ (hMb hM') t hb
    unfold Rn.keep
    exact this
  · rw [waitA3 e]
    exact (wait_sleep hM s.n s.mode s.task s.f.st c hn _ e).mono fun en w' h => hpure _ en w' rfl (by unfold takeA; split; exact doA_length _ _; rfl) h
  · rw [waitA4 e]
    exact (wait_forget hM s.n s.mode s.task s.f.st c hn _ e).mono fun en w' h => hpure _ en w' rfl (doA_length _ _) h

theorem rn_wait_keep {S0 : List Nat} {w0 w : World} {m a r : Nat} {rs : List Res} {s : Rn} (H : RunHas S0 w0 m a r rs s w) (hn : I64 s.n) (c : Int) (fid : FuncId) (first cap : Array Value) (p : Int → Bool)
    (eg : ∀ args w, (callFunc fid args).run Try.prog w = .ok (.enter fid args) w)
    (hF : ∀ W nv v, 0 ≤ v → v < 4294967296 → Has S0 w0 W (.mem m a s.L :: .blk r (rcells m s nv) :: .own 98 4 nv s.notes.length (nts s.notes) :: rs) → Calls Try.prog fid (first ++ #[.int .u32 v] ++ cap) W fun e W' => e = .returned (.bool (p v)) ∧ Touch [r] W W' ∧ Blk W' r (rcells m (if p v then s.setA v else s) nv)) :
    Calls Try.prog 57 #[.pointer (some ⟨r, 0, none⟩), .int .i64 c, .func (.func fid) first cap] w
      fun e w' => e = .returned (.tuple #[.bool (waitA s.L s.n s.mode s.task s.f.st c p).seen, .bool (waitA s.L s.n s.mode s.task s.f.st c p).done]) ∧ RunHas S0 w0 m a r rs ((s.keep (waitA s.L s.n s.mode s.task s.f.st c p)).waited (waitA s.L s.n s.mode s.task s.f.st c p)) w' := by
  obtain ⟨nv, H⟩ := H
  refine (run_wait (s2 := s.keep (waitA s.L s.n s.mode s.task s.f.st c p)) H c _ _ (fun W HW => wstep_keep HW c hn fid first cap p eg (fun W v h0 h1 HW => hF W nv v h0 h1 HW))).mono fun e w' h => ⟨h.1, nv, ?_⟩
  have e1 : ((s.keep (waitA s.L s.n s.mode s.task s.f.st c p)).waited (waitA s.L s.n s.mode s.task s.f.st c p)).notes = s.notes := by unfold Rn.keep; split <;> rfl
  rw [e1]
  exact h.2

end Go.Proofs.Ytlndihdlodempaa.Z
