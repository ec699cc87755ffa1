/- 6 texts of this claim, joined: what Package world needs of them. -/
import Derived.Test.YthnimpkoidablaaGreatZB10
import Derived.Test.YthnimpkoidablaaGreatZB11
import Derived.Test.YthnimpkoidablaaGreatZB00
set_option linter.unusedVariables false
set_option linter.unusedSimpArgs false
namespace Go.Proofs.YthnimpkoidablaaGreat.Z
open Go.RowKit
set_option maxRecDepth 100000 in
theorem run_store {S0 : List Nat} {w0 w : World} {m a r : Nat} {nv : Value} {rs : List Res} {s : Rn} (H : Has S0 w0 w (.mem m a s.L :: .blk r (rcells m s nv) :: rs)) (c x : Int) (hx : 0 ≤ x ∧ x < 4294967296) :
    Calls Tryz.prog 137 #[.pointer (some ⟨r, 0, none⟩), .int .i64 c, .int .u32 x] w fun e w' => e = .returned (.tuple #[]) ∧ Has S0 w0 w' (.mem m a (s.did (doA s.L ⟨2, c, x, 0, 0⟩)).L :: .blk r (rcells m (s.did (doA s.L ⟨2, c, x, 0, 0⟩)) nv) :: rs) := by
  have hd := fun W (H : Has S0 w0 W (.mem m a s.L :: .blk r (rcells m s nv) :: rs)) => run_do H ⟨2, c, x, 0, 0⟩ hx (by simp)
  generalize doA s.L ⟨2, c, x, 0, 0⟩ = R at hd ⊢
  obtain ⟨⟨rk, rc, rx, ry, ro⟩, rok, L2⟩ := R
  simp only [Acc.cells] at hd ⊢
  have hf := fieldOld rk rc rx ry ro
  go_enter Tryz.func137, Tryz.ntmps137
  go_wp2_with (go_at_call 132; refine (hd _ H).mono ?_; rintro e w1 ⟨rfl, H1⟩)
  go_end0
  exact ⟨rfl, H1⟩
end Go.Proofs.YthnimpkoidablaaGreat.Z

set_option linter.unusedVariables false
set_option linter.unusedSimpArgs false
namespace Go.Proofs.YthnimpkoidablaaGreat.Z
open Go.RowKit
theorem rn_store {S0 : List Nat} {w0 w : World} {m a r : Nat} {rs : List Res} {s : Rn} (H : RunHas S0 w0 m a r rs s w) (c x : Int) (hx : 0 ≤ x ∧ x < 4294967296) :
    Calls Tryz.prog 137 #[.pointer (some ⟨r, 0, none⟩), .int .i64 c, .int .u32 x] w fun e w' => e = .returned (.tuple #[]) ∧ RunHas S0 w0 m a r rs (s.did (doA s.L ⟨2, c, x, 0, 0⟩)) w' := by
  obtain ⟨nv, H⟩ := H
  exact (run_store H c x hx).mono fun e w' h => ⟨h.1, nv, h.2⟩
end Go.Proofs.YthnimpkoidablaaGreat.Z

set_option linter.unusedVariables false
set_option linter.unusedSimpArgs false
namespace Go.Proofs.YthnimpkoidablaaGreat.ZB
open Go.RowKit
theorem pow_pos (n : Nat) : 0 < 2 ^ n := Nat.pow_pos (by decide)
theorem two_pow_le {a b : Nat} (h : a ≤ b) : 2 ^ a ≤ 2 ^ b := Nat.pow_le_pow_right (by decide) h
theorem and_mask (v s w : Nat) : v &&& ((2 ^ w - 1) * 2 ^ s) = (v / 2 ^ s % 2 ^ w) * 2 ^ s := by
  rw [← Nat.shiftLeft_eq, ← Nat.shiftLeft_eq, ← Nat.shiftRight_eq_div_pow]
  apply Nat.eq_of_testBit_eq
  intro i
  simp only [Nat.testBit_and, Nat.testBit_shiftLeft, Nat.testBit_two_pow_sub_one, Nat.testBit_mod_two_pow, Nat.testBit_shiftRight]
  by_cases h : i ≥ s
  · have e : s + (i - s) = i := by omega
    simp only [h, decide_true, Bool.true_and, e]
    exact Bool.and_comm _ _
  · simp [h]
theorem ofInt_nat (k n : Nat) : BitVec.ofInt k (n : Int) = BitVec.ofNat k n := by simp
theorem bits_and (a b : Nat) (ha : a < 4294967296) (hb : b < 4294967296) : Go.bits .and .u32 (a : Int) (b : Int) = ((a &&& b : Nat) : Int) := by
  unfold Go.bits
  simp only [ofInt_nat, BitVec.toNat_and, BitVec.toNat_ofNat]
  rw [Nat.mod_eq_of_lt (by simpa [IntKind.bits] using ha), Nat.mod_eq_of_lt (by simpa [IntKind.bits] using hb)]
  rw [IntKind.wrap_u32]
  have : a &&& b ≤ a := Nat.and_le_left
  omega
theorem and_split (v m : BitVec 32) : v.toNat = (v &&& m).toNat + (v &&& ~~~m).toNat := by
  have hz : (v &&& m) &&& (v &&& ~~~m) = 0#32 := by ext i; simp only [BitVec.getElem_and, BitVec.getElem_or, BitVec.getElem_not, BitVec.getElem_zero]; cases v[i] <;> cases m[i] <;> rfl
  have hor : (v &&& m) ||| (v &&& ~~~m) = v := by ext i; simp only [BitVec.getElem_and, BitVec.getElem_or, BitVec.getElem_not, BitVec.getElem_zero]; cases v[i] <;> cases m[i] <;> rfl
  have := BitVec.add_eq_or_of_and_eq_zero _ _ hz
  rw [hor] at this
  have h2 := congrArg BitVec.toNat this
  rw [BitVec.toNat_add] at h2
  have h3 : (v &&& ~~~m).toNat ≤ (~~~m).toNat := by rw [BitVec.toNat_and]; exact Nat.and_le_right
  have h4 : (v &&& m).toNat ≤ m.toNat := by rw [BitVec.toNat_and]; exact Nat.and_le_right
  rw [BitVec.toNat_not] at h3
  have := m.isLt
  rw [Nat.mod_eq_of_lt (by omega)] at h2
  exact h2.symm
theorem put_split (v x m : BitVec 32) : ((v &&& ~~~m) ||| (x &&& m)).toNat = (v &&& ~~~m).toNat + (x &&& m).toNat := by
  have hz : (v &&& ~~~m) &&& (x &&& m) = 0#32 := by ext i; simp only [BitVec.getElem_and, BitVec.getElem_not, BitVec.getElem_zero]; cases v[i] <;> cases x[i] <;> cases m[i] <;> rfl
  have := BitVec.add_eq_or_of_and_eq_zero _ _ hz
  rw [← this, BitVec.toNat_add]
  have h3 : (v &&& ~~~m).toNat ≤ (~~~m).toNat := by rw [BitVec.toNat_and]; exact Nat.and_le_right
  have h4 : (x &&& m).toNat ≤ m.toNat := by rw [BitVec.toNat_and]; exact Nat.and_le_right
  rw [BitVec.toNat_not] at h3
  have := m.isLt
  rw [Nat.mod_eq_of_lt (by omega)]
theorem bits_or (a b : Nat) (ha : a < 4294967296) (hb : b < 4294967296) : Go.bits .or .u32 (a : Int) (b : Int) = ((BitVec.ofNat 32 a ||| BitVec.ofNat 32 b).toNat : Int) := by
  show (IntKind.u32.wrap ((BitVec.ofInt 32 (a : Int) ||| BitVec.ofInt 32 (b : Int)).toNat : Int)) = _
  rw [ofInt_nat, ofInt_nat, IntKind.wrap_u32]
  have := (BitVec.ofNat 32 a ||| BitVec.ofNat 32 b).isLt
  omega
theorem bits_andNot (a b : Nat) : Go.bits .andNot .u32 (a : Int) (b : Int) = ((BitVec.ofNat 32 a &&& ~~~ (BitVec.ofNat 32 b)).toNat : Int) := by
  show (IntKind.u32.wrap ((BitVec.ofInt 32 (a : Int) &&& ~~~ (BitVec.ofInt 32 (b : Int))).toNat : Int)) = _
  rw [ofInt_nat, ofInt_nat, IntKind.wrap_u32]
  have := (BitVec.ofNat 32 a &&& ~~~ (BitVec.ofNat 32 b)).isLt
  omega
theorem nat32 (a : Nat) (ha : a < 4294967296) : (BitVec.ofNat 32 a).toNat = a := by
  rw [BitVec.toNat_ofNat]; exact Nat.mod_eq_of_lt (by omega)
theorem bits_put (v x m : Nat) (hv : v < 4294967296) (hx : x < 4294967296) (hm : m < 4294967296) :
    Go.bits .or .u32 (Go.bits .andNot .u32 (v : Int) (m : Int)) (Go.bits .and .u32 (x : Int) (m : Int)) = (v : Int) - ((v &&& m : Nat) : Int) + ((x &&& m : Nat) : Int) := by
  rw [bits_and x m hx hm, bits_andNot]
  have e1 := and_split (BitVec.ofNat 32 v) (BitVec.ofNat 32 m)
  have e2 := put_split (BitVec.ofNat 32 v) (BitVec.ofNat 32 x) (BitVec.ofNat 32 m)
  have ex : (BitVec.ofNat 32 x &&& BitVec.ofNat 32 m).toNat = x &&& m := by rw [BitVec.toNat_and, nat32 x hx, nat32 m hm]
  have ev : (BitVec.ofNat 32 v &&& BitVec.ofNat 32 m).toNat = v &&& m := by rw [BitVec.toNat_and, nat32 v hv, nat32 m hm]
  have e5 : BitVec.ofNat 32 (x &&& m) = (BitVec.ofNat 32 x &&& BitVec.ofNat 32 m) := by
    apply BitVec.eq_of_toNat_eq
    rw [ex, nat32]
    have : x &&& m ≤ x := Nat.and_le_left
    omega
  have hl : x &&& m < 4294967296 := by
    have : x &&& m ≤ x := Nat.and_le_left
    omega
  generalize hA : (BitVec.ofNat 32 v &&& ~~~ (BitVec.ofNat 32 m)) = A at e1 e2 ⊢
  have hlt := A.isLt
  rw [bits_or _ _ (by omega) hl, e5, show BitVec.ofNat 32 A.toNat = A from by simp, e2, ex]
  rw [ev, nat32 v hv] at e1
  omega
end Go.Proofs.YthnimpkoidablaaGreat.ZB

set_option linter.unusedVariables false
set_option linter.unusedSimpArgs false
namespace Go.Proofs.YthnimpkoidablaaGreat.Z
open Go.RowKit
theorem mem_any {w : World} {m a : Nat} {L : List Int} (h : Mem w m a L) (b : Nat) (hm : m ≠ b) (hb : L.length = 0 ∨ b = a) : Mem w m b L := by
  rcases hb with hb | rfl
  · obtain ⟨p, cap, hh, r1, r2, r3⟩ := h.head
    exact ⟨hm, h.words, ⟨p, cap, hh, r1, r2, fun h0 => absurd h0 (by omega)⟩, fun h0 => absurd h0 (by omega)⟩
  · exact h
theorem wstep_keep {S0 : List Nat} {w0 w : World} {m a r : Nat} {nv : Value} {rs : List Res} {s : Rn} (H : Has S0 w0 w (.mem m a s.L :: .blk r (rcells m s nv) :: rs)) (c : Int) (hn : I64 s.n) (fid : FuncId) (first cap : Array Value) (p : Int → Bool)
    (eg : ∀ args w, (callFunc fid args).run Tryz.prog w = .ok (.enter fid args) w)
    (hF : ∀ W v, 0 ≤ v → v < 4294967296 → Has S0 w0 W (.mem m a s.L :: .blk r (rcells m s nv) :: rs) → Calls Tryz.prog fid (first ++ #[.int .u32 v] ++ cap) W fun e W' => e = .returned (.bool (p v)) ∧ Touch [r] W W' ∧ Blk W' r (rcells m (if p v then s.setA v else s) nv)) :
    Calls Tryz.prog 131 #[.pointer (some ⟨m, 0, none⟩), .agg #[.int .i64 s.n], .int .i64 s.mode, .int .i64 s.task, .agg #[.int .i64 s.f.st], .int .i64 c, .func (.func fid) first cap] w
      fun e w' => e = .returned (waitA s.L s.n s.mode s.task s.f.st c p).value ∧ Has S0 w0 w' (.mem m a (waitA s.L s.n s.mode s.task s.f.st c p).words :: .blk r (rcells m (s.keep (waitA s.L s.n s.mode s.task s.f.st c p)) nv) :: rs) := by
  have hM := H.mem
  have hv := doA_old s.L hM.words ⟨1, c, 0, 0, 0⟩
  have hrl : r < w.heap.size := H.blk1.lt
  have hfar : ∀ k, k ∈ (Res.mem m a s.L).foot → k ≠ r := fun k hk e => (List.pairwise_cons.1 H.apart).1 (.blk r (rcells m s nv)) (by simp) k hk (by simp [Res.foot, e])
  have hback : ∀ (w' : World) (cs : Array Value), Mem w' m a s.L → Touch [r] w w' → Blk w' r cs → Has S0 w0 w' (.mem m a s.L :: .blk r cs :: rs) := fun w' cs hM' t hb =>
    Has.swap (Has.upd (xs := [.blk r (rcells m s nv)]) (rs := .mem m a s.L :: rs) [.blk r cs] (S := [r]) H.swap t (by simp [foots, Res.foot]) (by simp [Res.holds]; exact hb) (by simp) (by simp [foots, Res.foot]))
  have hpure : ∀ (R : WaitR) (e : Ending) (w' : World), R.seen = false → R.words.length = s.L.length → (e = .returned R.value ∧ Mem w' m a R.words ∧ Touch (lv a s.L) w w') → e = .returned R.value ∧ Has S0 w0 w' (.mem m a R.words :: .blk r (rcells m (s.keep R) nv) :: rs) := by
    rintro R e w' hs hl ⟨he, hM', t⟩
    refine ⟨he, ?_⟩
    unfold Rn.keep
    rw [hs]
    exact H.words hM' hl t
  obtain ⟨a', ha', har, hma⟩ : ∃ a', (s.L.length = 0 ∨ a' = a) ∧ r ≠ a' ∧ m ≠ a' := by
    by_cases h0 : s.L.length = 0
    · exact ⟨m + r + 1, Or.inl h0, by omega, by omega⟩
    · exact ⟨a, Or.inr rfl, fun e => hfar a (by simp [Res.foot, lv]; omega) e.symm, hM.ne⟩
  have hMa := mem_any hM a' hma ha'
  have hMb : ∀ {w'}, Mem w' m a' s.L → Mem w' m a s.L := fun h => mem_any h a hM.ne (by rcases ha' with h | h; exact Or.inl h; exact Or.inr h.symm)
  have hlook := fun hst => wait_look (S := [r]) (G := fun W => Blk W r (rcells m (if p (doA s.L ⟨1, c, 0, 0, 0⟩).1.old then s.setA (doA s.L ⟨1, c, 0, 0, 0⟩).1.old else s) nv)) hMa s.n s.mode s.task s.f.st c fid first cap (p (doA s.L ⟨1, c, 0, 0, 0⟩).1.old) eg hst
    (by
      intro k hk
      simp only [List.mem_singleton] at hk
      subst hk
      refine ⟨hrl, ?_, ?_⟩
      · exact fun e => hfar m (by simp [Res.foot]) e.symm
      · exact har)
    (fun W W' T hg t hT => t.blk hg (fun hm => by have := hT r hm; omega))
    (fun W t => (hF W _ hv.1 hv.2 (H.grow t)))
  rcases stageA_is s.mode s.f.st with e | e | e | e | e
  · rw [waitA0 e]
    refine (hlook (Or.inl e)).mono ?_
    rintro en w' ⟨he, hM', t, hb⟩
    refine ⟨by rw [he, e]; simp [WaitR.value], ?_⟩
    have := hback w' _ (hMb hM') t hb
    unfold Rn.keep
    exact this
  · rw [waitA1 e]
    exact (wait_say hM s.n s.mode s.task s.f.st c hn _ e).mono fun en w' h => hpure _ en w' rfl (doA_length _ _) h
  · rw [waitA2 e]
    refine (hlook (Or.inr e)).mono ?_
    rintro en w' ⟨he, hM', t, hb⟩
    refine ⟨by rw [he, e]; simp [WaitR.value], ?_⟩
    have := hback w' _ (hMb hM') t hb
    unfold Rn.keep
    exact this
  · rw [waitA3 e]
    exact (wait_sleep hM s.n s.mode s.task s.f.st c hn _ e).mono fun en w' h => hpure _ en w' rfl (by unfold takeA; split; exact doA_length _ _; rfl) h
  · rw [waitA4 e]
    exact (wait_forget hM s.n s.mode s.task s.f.st c hn _ e).mono fun en w' h => hpure _ en w' rfl (doA_length _ _) h
theorem rn_wait_keep {S0 : List Nat} {w0 w : World} {m a r : Nat} {rs : List Res} {s : Rn} (H : RunHas S0 w0 m a r rs s w) (hn : I64 s.n) (c : Int) (fid : FuncId) (first cap : Array Value) (p : Int → Bool)
    (eg : ∀ args w, (callFunc fid args).run Tryz.prog w = .ok (.enter fid args) w)
    (hF : ∀ W nv v, 0 ≤ v → v < 4294967296 → Has S0 w0 W (.mem m a s.L :: .blk r (rcells m s nv) :: .own 40 4 nv s.notes.length (nts s.notes) :: rs) → Calls Tryz.prog fid (first ++ #[.int .u32 v] ++ cap) W fun e W' => e = .returned (.bool (p v)) ∧ Touch [r] W W' ∧ Blk W' r (rcells m (if p v then s.setA v else s) nv)) :
    Calls Tryz.prog 85 #[.pointer (some ⟨r, 0, none⟩), .int .i64 c, .func (.func fid) first cap] w
      fun e w' => e = .returned (.tuple #[.bool (waitA s.L s.n s.mode s.task s.f.st c p).seen, .bool (waitA s.L s.n s.mode s.task s.f.st c p).done]) ∧ RunHas S0 w0 m a r rs ((s.keep (waitA s.L s.n s.mode s.task s.f.st c p)).waited (waitA s.L s.n s.mode s.task s.f.st c p)) w' := by
  obtain ⟨nv, H⟩ := H
  refine (run_wait (s2 := s.keep (waitA s.L s.n s.mode s.task s.f.st c p)) H c _ _ (fun W HW => wstep_keep HW c hn fid first cap p eg (fun W v h0 h1 HW => hF W nv v h0 h1 HW))).mono fun e w' h => ⟨h.1, nv, ?_⟩
  have e1 : ((s.keep (waitA s.L s.n s.mode s.task s.f.st c p)).waited (waitA s.L s.n s.mode s.task s.f.st c p)).notes = s.notes := by unfold Rn.keep; split <;> rfl
  rw [e1]
  exact h.2
end Go.Proofs.YthnimpkoidablaaGreat.Z

set_option linter.unusedVariables false
set_option linter.unusedSimpArgs false
namespace Go.Proofs.YthnimpkoidablaaGreat.Z
open Go.RowKit
set_option maxRecDepth 100000 in
theorem run_swap {S0 : List Nat} {w0 w : World} {m a r : Nat} {nv : Value} {rs : List Res} {s : Rn} (H : Has S0 w0 w (.mem m a s.L :: .blk r (rcells m s nv) :: rs)) (c x : Int) (hx : 0 ≤ x ∧ x < 4294967296) :
    Calls Tryz.prog 173 #[.pointer (some ⟨r, 0, none⟩), .int .i64 c, .int .u32 x] w fun e w' => e = .returned (.int .u32 (doA s.L ⟨4, c, x, 0, 0⟩).1.old) ∧ Has S0 w0 w' (.mem m a (s.did (doA s.L ⟨4, c, x, 0, 0⟩)).L :: .blk r (rcells m (s.did (doA s.L ⟨4, c, x, 0, 0⟩)) nv) :: rs) := by
  have hd := fun W (H : Has S0 w0 W (.mem m a s.L :: .blk r (rcells m s nv) :: rs)) => run_do H ⟨4, c, x, 0, 0⟩ hx (by simp)
  generalize doA s.L ⟨4, c, x, 0, 0⟩ = R at hd ⊢
  obtain ⟨⟨rk, rc, rx, ry, ro⟩, rok, L2⟩ := R
  simp only [Acc.cells] at hd ⊢
  have hf := fieldOld rk rc rx ry ro
  go_enter Tryz.func173, Tryz.ntmps173
  go_wp2_with (go_at_call 132; refine (hd _ H).mono ?_; rintro e w1 ⟨rfl, H1⟩)
  go_ret
  exact ⟨rfl, H1⟩
end Go.Proofs.YthnimpkoidablaaGreat.Z

set_option linter.unusedVariables false
set_option linter.unusedSimpArgs false
namespace Go.Proofs.YthnimpkoidablaaGreat.Z
open Go.RowKit
theorem rn_swap {S0 : List Nat} {w0 w : World} {m a r : Nat} {rs : List Res} {s : Rn} (H : RunHas S0 w0 m a r rs s w) (c x : Int) (hx : 0 ≤ x ∧ x < 4294967296) :
    Calls Tryz.prog 173 #[.pointer (some ⟨r, 0, none⟩), .int .i64 c, .int .u32 x] w fun e w' => e = .returned (.int .u32 (doA s.L ⟨4, c, x, 0, 0⟩).1.old) ∧ RunHas S0 w0 m a r rs (s.did (doA s.L ⟨4, c, x, 0, 0⟩)) w' := by
  obtain ⟨nv, H⟩ := H
  exact (run_swap H c x hx).mono fun e w' h => ⟨h.1, nv, h.2⟩
end Go.Proofs.YthnimpkoidablaaGreat.Z
