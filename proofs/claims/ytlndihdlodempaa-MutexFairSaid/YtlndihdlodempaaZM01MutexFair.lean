/- 6 texts of this claim, joined: what each shows stands at its own head. -/
import Derived.Test.YtlndihdlodempaaZM00MutexFair
import Derived.Test.YtlndihdlodempaaZRun7
import Derived.Test.YtlndihdlodempaaZRun2
/- The queue among places and words: what a step of a task keeps. No lock in sight. -/
set_option linter.unusedVariables false
set_option linter.unusedSimpArgs false
namespace Go.Proofs.Ytlndihdlodempaa.Z
open Go.RowKit

def nxOf (n : Nat) (m : Nat → Int) : Nat → Int := fun j => if j < n then m (8 + j) else 0
def blOf (n : Nat) (m : Nat → Int) : Nat → Int := fun j => if j < n then m (8 + n + j) else 0
def QI {P : Type} (n tc : Nat) (mk : P → Mk) (d : P) (ps : List P) (m : Nat → Int) : Prop := ∃ Q, MxIs n (fun j => mk (ps.getD j d)) (m tc) (nxOf n m) (blOf n m) Q
/-- The queue's own words are as before. -/
def SameQ (n tc : Nat) (m m' : Nat → Int) : Prop := m' tc = m tc ∧ ∀ j, j < n → m' (8 + j) = m (8 + j) ∧ m' (8 + n + j) = m (8 + n + j)
section
variable {P : Type} {n tc : Nat} {mk : P → Mk} {d p p' : P} {ps : List P} {m m' : Nat → Int} {i : Nat}
theorem qk_at (hl : ps.length = n) (hi : i < n) : mk ((ps.set i p').getD i d) = mk p' := by rw [getDsetG (by omega), if_pos rfl]
theorem qk_far (hl : ps.length = n) (hi : i < n) {j : Nat} (hj : j ≠ i) : mk ((ps.set i p').getD j d) = mk (ps.getD j d) := by rw [getDsetG (by omega), if_neg (Ne.symm hj)]
theorem SameQ.refl : SameQ n tc m m := ⟨rfl, fun _ _ => ⟨rfl, rfl⟩⟩
theorem SameQ.nx (h : SameQ n tc m m') : ∀ j, nxOf n m' j = nxOf n m j := fun j => by
  unfold nxOf
  by_cases hj : j < n
  · rw [if_pos hj, if_pos hj]; exact (h.2 j hj).1
  · rw [if_neg hj, if_neg hj]
theorem SameQ.bl (h : SameQ n tc m m') : ∀ j, blOf n m' j = blOf n m j := fun j => by
  unfold blOf
  by_cases hj : j < n
  · rw [if_pos hj, if_pos hj]; exact (h.2 j hj).2
  · rw [if_neg hj, if_neg hj]
theorem nx_at (hi : i < n) : nxOf n m i = m (8 + i) := by unfold nxOf; rw [if_pos hi]
theorem bl_at (hi : i < n) : blOf n m i = m (8 + n + i) := by unfold blOf; rw [if_pos hi]
theorem QI.pre (H : QI n tc mk d ps m) (hi : i < n) (hp : ps.getD i d = p) : ((mk p = .nx ∨ mk p = .nb) → m (8 + i) = 0) ∧ (mk p = .nb → m (8 + n + i) = 1) := by
  obtain ⟨Q, H⟩ := H
  have := H.pre i hi
  rw [nx_at hi, bl_at hi] at this
  subst hp
  exact this
theorem QI.outs (H : QI n tc mk d ps m) (hl : ps.length = n) (hi : i < n) (hp : ps.getD i d = p) (h0 : (mk p).inq = false) (h1 : (mk p').inq = false)
    (hm : m' tc = m tc ∧ ∀ j, j < n → j ≠ i → m' (8 + j) = m (8 + j) ∧ m' (8 + n + j) = m (8 + n + j)) (hq : ((mk p' = .nx ∨ mk p' = .nb) → m' (8 + i) = 0) ∧ (mk p' = .nb → m' (8 + n + i) = 1)) : QI n tc mk d (ps.set i p') m' := by
  obtain ⟨Q, H⟩ := H
  subst hp
  have ka : mk ((ps.set i p').getD i d) = mk p' := qk_at hl hi
  have hqq : ((mk ((ps.set i p').getD i d) = .nx ∨ mk ((ps.set i p').getD i d) = .nb) → nxOf n m' i = 0) ∧ (mk ((ps.set i p').getD i d) = .nb → blOf n m' i = 1) := by rw [ka, nx_at hi, bl_at hi]; exact hq
  refine ⟨Q, H.outs (ks' := fun j => mk ((ps.set i p').getD j d)) (nx' := nxOf n m') (bl' := blOf n m') (tail' := m' tc) hi h0 (fun j hj => qk_far hl hi hj) ((congrArg Mk.inq ka).trans h1) (fun j hj => ?_) (fun j hj => ?_) hm.1 hqq⟩
  · unfold nxOf
    by_cases h : j < n
    · rw [if_pos h, if_pos h]; exact (hm.2 j h hj).1
    · rw [if_neg h, if_neg h]
  · unfold blOf
    by_cases h : j < n
    · rw [if_pos h, if_pos h]; exact (hm.2 j h hj).2
    · rw [if_neg h, if_neg h]
theorem QI.comes (H : QI n tc mk d ps m) (hl : ps.length = n) (hi : i < n) (hp : ps.getD i d = p) (h0 : mk p = .nx ∨ mk p = .nb) (hz : m tc = 0) (h1 : mk p' = .hd) (e : m' tc = i + 1) (hm : ∀ j, j < n → m' (8 + j) = m (8 + j) ∧ m' (8 + n + j) = m (8 + n + j)) : QI n tc mk d (ps.set i p') m' := by
  have hz2 := (H.pre hi hp).1 h0
  obtain ⟨Q, H⟩ := H
  subst hp
  have ka : mk ((ps.set i p').getD i d) = mk p' := qk_at hl hi
  refine ⟨[i], H.comes (ks' := fun j => mk ((ps.set i p').getD j d)) (nx' := nxOf n m') (bl' := blOf n m') (tail' := m' tc) hi (by show (mk (ps.getD i d)).inq = false; rcases h0 with h | h <;> rw [h] <;> rfl) hz (by rw [nx_at hi]; exact hz2) (fun j hj => qk_far hl hi hj) (ka.trans h1) (fun j => ?_) (fun j => ?_) e⟩
  · unfold nxOf
    by_cases h : j < n
    · rw [if_pos h, if_pos h]; exact (hm j h).1
    · rw [if_neg h, if_neg h]
  · unfold blOf
    by_cases h : j < n
    · rw [if_pos h, if_pos h]; exact (hm j h).2
    · rw [if_neg h, if_neg h]
theorem QI.behind (H : QI n tc mk d ps m) (hl : ps.length = n) (hi : i < n) (hp : ps.getD i d = p) (h0 : mk p = .nb) (hz : m tc ≠ 0) (h1 : mk p' = .e3 (m tc)) (e : m' tc = i + 1) (hm : ∀ j, j < n → m' (8 + j) = m (8 + j) ∧ m' (8 + n + j) = m (8 + n + j)) : QI n tc mk d (ps.set i p') m' := by
  obtain ⟨Q, H⟩ := H
  subst hp
  have ka : mk ((ps.set i p').getD i d) = mk p' := qk_at hl hi
  refine ⟨Q ++ [i], H.behind (ks' := fun j => mk ((ps.set i p').getD j d)) (nx' := nxOf n m') (bl' := blOf n m') (tail' := m' tc) hi h0 hz (fun j hj => qk_far hl hi hj) (ka.trans h1) (fun j => ?_) (fun j => ?_) e⟩
  · unfold nxOf
    by_cases h : j < n
    · rw [if_pos h, if_pos h]; exact (hm j h).1
    · rw [if_neg h, if_neg h]
  · unfold blOf
    by_cases h : j < n
    · rw [if_pos h, if_pos h]; exact (hm j h).2
    · rw [if_neg h, if_neg h]
theorem QI.ok3 (H : QI n tc mk d ps m) (hi : i < n) (hp : ps.getD i d = p) {a : Int} (h0 : mk p = .e3 a ∨ mk p = .g3 a) : 1 ≤ a ∧ a ≤ n := by
  obtain ⟨Q, H⟩ := H
  subst hp
  rcases h0 with h0 | h0
  · obtain ⟨k, x, r, _, _, _, h3, h4⟩ := H.pred hi h0
    omega
  · obtain ⟨r, hq⟩ := H.head_of hi (by show (mk (ps.getD i d)).turn = true; rw [h0]; rfl)
    have hh := H.hd
    rw [hq, head_cons, h0] at hh
    have hna : nxOf n m i = a ∧ a ≠ 0 := by
      rcases hh with h | h | ⟨h, _⟩ | ⟨a', h, h2, h3⟩ | ⟨h, _⟩
      · cases h
      · cases h
      · cases h
      · obtain rfl := Mk.g3.inj h
        exact ⟨h2, h3⟩
      · cases h
    obtain ⟨y, r', _, hy, hay, _⟩ := H.succ hq hna.1 hna.2
    omega
theorem QI.link (H : QI n tc mk d ps m) (hl : ps.length = n) (hi : i < n) (hp : ps.getD i d = p) {a : Int} (h0 : mk p = .e3 a) (h1 : mk p' = .e4) (e : m' tc = m tc) (hm : ∀ j : Nat, j < n → ((j : Int) + 1 = a → m' (8 + j) = i + 1) ∧ ((j : Int) + 1 ≠ a → m' (8 + j) = m (8 + j)) ∧ m' (8 + n + j) = m (8 + n + j)) : QI n tc mk d (ps.set i p') m' := by
  have ho := H.ok3 hi hp (Or.inl h0)
  obtain ⟨Q, H⟩ := H
  subst hp
  have ka : mk ((ps.set i p').getD i d) = mk p' := qk_at hl hi
  obtain ⟨k, hk⟩ : ∃ k : Nat, a = (k : Int) + 1 := ⟨(a - 1).toNat, by omega⟩
  subst hk
  have hkn : k < n := by omega
  refine ⟨Q, H.link (ks' := fun j => mk ((ps.set i p').getD j d)) (nx' := nxOf n m') (bl' := blOf n m') (tail' := m' tc) hi (p := k) h0 (fun j hj => qk_far hl hi hj) (ka.trans h1) (fun j hj => ?_) (by rw [nx_at hkn]; exact (hm k hkn).1 rfl) (fun j => ?_) e⟩
  · unfold nxOf
    by_cases h : j < n
    · rw [if_pos h, if_pos h]; exact (hm j h).2.1 (by omega)
    · rw [if_neg h, if_neg h]
  · unfold blOf
    by_cases h : j < n
    · rw [if_pos h, if_pos h]; exact (hm j h).2.2
    · rw [if_neg h, if_neg h]
/-- The first one's place turns. -/
theorem QI.heads (H : QI n tc mk d ps m) (hl : ps.length = n) (hi : i < n) (hp : ps.getD i d = p) (h0 : (mk p).turn = true ∨ (mk p = .e4 ∧ m (8 + n + i) = 0))
    (h1 : mk p' = .hd ∨ mk p' = .g1 ∨ (mk p' = .g2 ∧ (mk p).turn = true ∧ m tc ≠ i + 1) ∨ (∃ a, mk p' = .g3 a ∧ m (8 + i) = a ∧ a ≠ 0)) (hs : SameQ n tc m m') : QI n tc mk d (ps.set i p') m' := by
  obtain ⟨Q, H⟩ := H
  subst hp
  have ka : mk ((ps.set i p').getD i d) = mk p' := qk_at hl hi
  obtain ⟨r, hq⟩ : ∃ r, Q = i :: r := by
    rcases h0 with h | ⟨h, h2⟩
    · exact H.head_of hi h
    · exact (H.first_of hi h (by rw [bl_at hi]; omega)).1
  refine ⟨Q, H.heads (ks' := fun j => mk ((ps.set i p').getD j d)) (nx' := nxOf n m') (bl' := blOf n m') (tail' := m' tc) hi hq (fun j hj => qk_far hl hi hj) ?_ hs.nx hs.bl hs.1 ?_⟩
  · rw [head_cons]
    show mk ((ps.set i p').getD i d) = _ ∨ mk ((ps.set i p').getD i d) = _ ∨ (mk ((ps.set i p').getD i d) = _ ∧ _) ∨ (∃ a, mk ((ps.set i p').getD i d) = _ ∧ _) ∨ (mk ((ps.set i p').getD i d) = _ ∧ _)
    rw [ka, hs.nx, nx_at hi]
    rcases h1 with h | h | ⟨h, h2, h3⟩ | ⟨a, h, h2, h3⟩
    · exact Or.inl h
    · exact Or.inr (Or.inl h)
    · exact Or.inr (Or.inr (Or.inl ⟨h, H.more hi hq h3⟩))
    · exact Or.inr (Or.inr (Or.inr (Or.inl ⟨a, h, h2, h3⟩)))
  · show (mk ((ps.set i p').getD i d)).inq = true
    rw [ka]
    rcases h1 with h | h | ⟨h, _⟩ | ⟨a, h, _⟩ <;> rw [h] <;> rfl
theorem QI.leaves (H : QI n tc mk d ps m) (hl : ps.length = n) (hi : i < n) (hp : ps.getD i d = p) (h0 : (mk p).turn = true) (hz : m tc = i + 1) (h1 : mk p' = .out) (e : m' tc = 0) (hm : ∀ j, j < n → m' (8 + j) = m (8 + j) ∧ m' (8 + n + j) = m (8 + n + j)) : QI n tc mk d (ps.set i p') m' := by
  obtain ⟨Q, H⟩ := H
  subst hp
  have ka : mk ((ps.set i p').getD i d) = mk p' := qk_at hl hi
  refine ⟨[], H.leaves (ks' := fun j => mk ((ps.set i p').getD j d)) (nx' := nxOf n m') (bl' := blOf n m') (tail' := m' tc) hi h0 hz (fun j hj => qk_far hl hi hj) (ka.trans h1) (fun j => ?_) (fun j => ?_) e⟩
  · unfold nxOf
    by_cases h : j < n
    · rw [if_pos h, if_pos h]; exact (hm j h).1
    · rw [if_neg h, if_neg h]
  · unfold blOf
    by_cases h : j < n
    · rw [if_pos h, if_pos h]; exact (hm j h).2
    · rw [if_neg h, if_neg h]
theorem QI.gives (H : QI n tc mk d ps m) (hl : ps.length = n) (hi : i < n) (hp : ps.getD i d = p) {a : Int} (h0 : mk p = .g3 a) (h1 : mk p' = .out) (e : m' tc = m tc) (hm : ∀ j : Nat, j < n → ((j : Int) + 1 = a → m' (8 + n + j) = 0) ∧ ((j : Int) + 1 ≠ a → m' (8 + n + j) = m (8 + n + j)) ∧ m' (8 + j) = m (8 + j)) : QI n tc mk d (ps.set i p') m' := by
  have ho := H.ok3 hi hp (Or.inr h0)
  obtain ⟨Q, H⟩ := H
  subst hp
  have g1 : ∀ j, nxOf n m' j = nxOf n m j := fun j => by
    unfold nxOf
    by_cases h : j < n
    · rw [if_pos h, if_pos h]; exact (hm j h).2.2
    · rw [if_neg h, if_neg h]
  have g2 : ∀ j : Nat, (j : Int) + 1 ≠ a → blOf n m' j = blOf n m j := fun j hj => by
    unfold blOf
    by_cases h : j < n
    · rw [if_pos h, if_pos h]; exact (hm j h).2.1 hj
    · rw [if_neg h, if_neg h]
  have g3 : ∀ j : Nat, (j : Int) + 1 = a → blOf n m' j = 0 := fun j hj => by
    rw [bl_at (show j < n by omega)]; exact (hm j (by omega)).1 hj
  have ka : mk ((ps.set i p').getD i d) = mk p' := qk_at hl hi
  obtain ⟨r, _, h⟩ := H.gives (ks' := fun j => mk ((ps.set i p').getD j d)) (nx' := nxOf n m') (bl' := blOf n m') (tail' := m' tc) hi h0 (fun j hj => qk_far hl hi hj) (ka.trans h1) g1 g2 g3 e
  exact ⟨r, h⟩
theorem QI.one (H : QI n tc mk d ps m) {j : Nat} (hi : i < n) (hj : j < n) (h1 : (mk (ps.getD i d)).turn = true) (h2 : (mk (ps.getD j d)).turn = true) : i = j := by
  obtain ⟨Q, H⟩ := H
  exact H.one hi hj h1 h2
/-- Alone, nobody is behind. -/
theorem QI.alone (H : QI n tc mk d ps m) (h1 : n = 1) (hi : i < n) (h : (mk (ps.getD i d)).turn = true) : m tc = i + 1 := by
  obtain ⟨Q, H⟩ := H
  obtain ⟨r, hq⟩ := H.head_of hi h
  cases r with
  | nil => rw [H.tl, hq]; rfl
  | cons y r =>
    exfalso
    have hy := H.lt y (by rw [hq]; simp)
    have hnd := H.nd
    rw [hq] at hnd
    have : y = i := by omega
    subst this
    simp at hnd
theorem QI.free (H : QI n tc mk d ps m) (h : ∀ j, j < n → (mk (ps.getD j d)).inq = false ∨ mk (ps.getD j d) = .hd ∨ (mk (ps.getD j d) = .e4 ∧ m (8 + n + j) ≠ 0) ∨ (mk (ps.getD j d) = .g2 ∧ m (8 + j) = 0)) : (∀ j, j < n → (mk (ps.getD j d)).inq = false) ∨ ∃ t, t < n ∧ mk (ps.getD t d) = .hd := by
  obtain ⟨Q, H⟩ := H
  rcases H.free (fun j hj => by rw [nx_at hj, bl_at hj]; exact h j hj) with h | ⟨t, r, _, h2, h3⟩
  · left
    intro j hj
    have := H.inq j hj
    rw [h] at this
    cases hk : (mk (ps.getD j d)).inq with
    | false => rfl
    | true =>
      have h4 := this.2 hk
      cases h4
  · exact Or.inr ⟨t, h2, h3⟩
end
end Go.Proofs.Ytlndihdlodempaa.Z

/- Package line: a run waits, and what was seen is kept in the frame. -/
set_option linter.unusedVariables false
set_option linter.unusedSimpArgs false
namespace Go.Proofs.Ytlndihdlodempaa.Z
open Go.RowKit

theorem mem_any {w : World} {m a : Nat} {L : List Int} (h : Mem w m a L) (b : Nat) (hm : m ≠ b) (hb : L.length = 0 ∨ b = a) : Mem w m b L := by
  rcases hb with hb | rfl
  · obtain ⟨p, cap, hh, r1, r2, r3⟩ := h.head
    exact ⟨hm, h.words, ⟨p, cap, hh, r1, r2, fun h0 => absurd h0 (by omega)⟩, fun h0 => absurd h0 (by omega)⟩
  · exact h

/-- A step of waiting, by a look that keeps what it sees. -/
theorem wstep_keep {S0 : List Nat} {w0 w : World} {m a r : Nat} {nv : Value} {rs : List Res} {s : Rn} (H : Has S0 w0 w (.mem m a s.L :: .blk r (rcells m s nv) :: rs)) (c : Int) (hn : I64 s.n) (fid : FuncId) (first cap : Array Value) (p : Int → Bool)
    (eg : ∀ args w, (callFunc fid args).run Try.prog w = .ok (.enter fid args) w)
    (hF : ∀ W v, 0 ≤ v → v < 4294967296 → Has S0 w0 W (.mem m a s.L :: .blk r (rcells m s nv) :: rs) → Calls Try.prog fid (first ++ #[.int .u32 v] ++ cap) W fun e W' => e = .returned (.bool (p v)) ∧ Touch [r] W W' ∧ Blk W' r (rcells m (if p v then s.setA v else s) nv)) :
    Calls Try.prog 128 #[.pointer (some ⟨m, 0, none⟩), .agg #[.int .i64 s.n], .int .i64 s.mode, .int .i64 s.task, .agg #[.int .i64 s.f.st], .int .i64 c, .func (.func fid) first cap] w
      fun e w' => e = .returned (waitA s.L s.n s.mode s.task s.f.st c p).value ∧ Has S0 w0 w' (.mem m a (waitA s.L s.n s.mode s.task s.f.st c p).words :: .blk r (rcells m (s.keep (waitA s.L s.n s.mode s.task s.f.st c p)) nv) :: rs) := by
  have hM := H.mem
  have hv := doA_old s.L hM.words ⟨1, c, 0, 0, 0⟩
  have hrl : r < w.heap.size := H.blk1.lt
  have hfar : ∀ k, k ∈ (Res.mem m a s.L).foot → k ≠ r := fun k hk e => (List.pairwise_cons.1 H.apart).1 (.blk r (rcells m s nv)) (by simp) k hk (by simp [Res.foot, e])
  have hback : ∀ (w' : World) (cs : Array Value), Mem w' m a s.L → Touch [r] w w' → Blk w' r cs → Has S0 w0 w' (.mem m a s.L :: .blk r cs :: rs) := fun w' cs hM' t hb =>
    Has.swap (Has.upd (xs := [.blk r (rcells m s nv)]) (rs := .mem m a s.L :: rs) [.blk r cs] (S := [r]) H.swap t (by simp [foots, Res.foot]) (by simp [Res.holds]; exact hb) (by simp) (by simp [foots, Res.foot]))
  have hpure : ∀ (R : WaitR) (e : Ending) (w' : World), R.seen = false → R.words.length = s.L.length → (e = .returned R.value ∧ Mem w' m a R.words ∧ Touch (lv a s.L) w w') → e = .returned R.value ∧ Has S0 w0 w' (.mem m a R.words :: .blk r (rcells m (s.keep R) nv) :: rs) := by
    rintro R e w' hs hl ⟨he, hM', t⟩
    refine ⟨he, ?_⟩
    unfold Rn.keep
    rw [hs]
    exact H.words hM' hl t
  obtain ⟨a', ha', har, hma⟩ : ∃ a', (s.L.length = 0 ∨ a' = a) ∧ r ≠ a' ∧ m ≠ a' := by
    by_cases h0 : s.L.length = 0
    · exact ⟨m + r + 1, Or.inl h0, by omega, by omega⟩
    · exact ⟨a, Or.inr rfl, fun e => hfar a (by simp [Res.foot, lv]; omega) e.symm, hM.ne⟩
  have hMa := mem_any hM a' hma ha'
  have hMb : ∀ {w'}, Mem w' m a' s.L → Mem w' m a s.L := fun h => mem_any h a hM.ne (by rcases ha' with h | h; exact Or.inl h; exact Or.inr h.symm)
  have hlook := fun hst => wait_look (S := [r]) (G := fun W => Blk W r (rcells m (if p (doA s.L ⟨1, c, 0, 0, 0⟩).1.old then s.setA (doA s.L ⟨1, c, 0, 0, 0⟩).1.old else s) nv)) hMa s.n s.mode s.task s.f.st c fid first cap (p (doA s.L ⟨1, c, 0, 0, 0⟩).1.old) eg hst
    (by
      intro k hk
      simp only [List.mem_singleton] at hk
      subst hk
      refine ⟨hrl, ?_, ?_⟩
      · exact fun e => hfar m (by simp [Res.foot]) e.symm
      · exact har)
    (fun W W' T hg t hT => t.blk hg (fun hm => by have := hT r hm; omega))
    (fun W t => (hF W _ hv.1 hv.2 (H.grow t)))
  rcases stageA_is s.mode s.f.st with e | e | e | e | e
  · rw [waitA0 e]
    refine (hlook (Or.inl e)).mono ?_
    rintro en w' ⟨he, hM', t, hb⟩
    refine ⟨by rw [he, e]; simp [WaitR.value], ?_⟩
    have := hback w' _ (hMb hM') t hb
    unfold Rn.keep
    exact this
  · rw [waitA1 e]
    exact (wait_say hM s.n s.mode s.task s.f.st c hn _ e).mono fun en w' h => hpure _ en w' rfl (doA_length _ _) h
  · rw [waitA2 e]
    refine (hlook (Or.inr e)).mono ?_
    rintro en w' ⟨he, hM', t, hb⟩
    refine ⟨by rw [he, e]; simp [WaitR.value], ?_⟩
    have := hback w' _ (hMb hM') t hb
    unfold Rn.keep
    exact this
  · rw [waitA3 e]
    exact (wait_sleep hM s.n s.mode s.task s.f.st c hn _ e).mono fun en w' h => hpure _ en w' rfl (by unfold takeA; split; exact doA_length _ _; rfl) h
  · rw [waitA4 e]
    exact (wait_forget hM s.n s.mode s.task s.f.st c hn _ e).mono fun en w' h => hpure _ en w' rfl (doA_length _ _) h

theorem rn_wait_keep {S0 : List Nat} {w0 w : World} {m a r : Nat} {rs : List Res} {s : Rn} (H : RunHas S0 w0 m a r rs s w) (hn : I64 s.n) (c : Int) (fid : FuncId) (first cap : Array Value) (p : Int → Bool)
    (eg : ∀ args w, (callFunc fid args).run Try.prog w = .ok (.enter fid args) w)
    (hF : ∀ W nv v, 0 ≤ v → v < 4294967296 → Has S0 w0 W (.mem m a s.L :: .blk r (rcells m s nv) :: .own 98 4 nv s.notes.length (nts s.notes) :: rs) → Calls Try.prog fid (first ++ #[.int .u32 v] ++ cap) W fun e W' => e = .returned (.bool (p v)) ∧ Touch [r] W W' ∧ Blk W' r (rcells m (if p v then s.setA v else s) nv)) :
    Calls Try.prog 57 #[.pointer (some ⟨r, 0, none⟩), .int .i64 c, .func (.func fid) first cap] w
      fun e w' => e = .returned (.tuple #[.bool (waitA s.L s.n s.mode s.task s.f.st c p).seen, .bool (waitA s.L s.n s.mode s.task s.f.st c p).done]) ∧ RunHas S0 w0 m a r rs ((s.keep (waitA s.L s.n s.mode s.task s.f.st c p)).waited (waitA s.L s.n s.mode s.task s.f.st c p)) w' := by
  obtain ⟨nv, H⟩ := H
  refine (run_wait (s2 := s.keep (waitA s.L s.n s.mode s.task s.f.st c p)) H c _ _ (fun W HW => wstep_keep HW c hn fid first cap p eg (fun W v h0 h1 HW => hF W nv v h0 h1 HW))).mono fun e w' h => ⟨h.1, nv, ?_⟩
  have e1 : ((s.keep (waitA s.L s.n s.mode s.task s.f.st c p)).waited (waitA s.L s.n s.mode s.task s.f.st c p)).notes = s.notes := by unfold Rn.keep; split <;> rfl
  rw [e1]
  exact h.2

end Go.Proofs.Ytlndihdlodempaa.Z

/- Package line: a run stores and swaps. -/
set_option linter.unusedVariables false
set_option linter.unusedSimpArgs false
namespace Go.Proofs.Ytlndihdlodempaa.Z
open Go.RowKit

set_option maxRecDepth 100000 in
theorem run_swap {S0 : List Nat} {w0 w : World} {m a r : Nat} {nv : Value} {rs : List Res} {s : Rn} (H : Has S0 w0 w (.mem m a s.L :: .blk r (rcells m s nv) :: rs)) (c x : Int) (hx : 0 ≤ x ∧ x < 4294967296) :
    Calls Try.prog 55 #[.pointer (some ⟨r, 0, none⟩), .int .i64 c, .int .u32 x] w fun e w' => e = .returned (.int .u32 (doA s.L ⟨4, c, x, 0, 0⟩).1.old) ∧ Has S0 w0 w' (.mem m a (s.did (doA s.L ⟨4, c, x, 0, 0⟩)).L :: .blk r (rcells m (s.did (doA s.L ⟨4, c, x, 0, 0⟩)) nv) :: rs) := by
  have hd := fun W (H : Has S0 w0 W (.mem m a s.L :: .blk r (rcells m s nv) :: rs)) => run_do H ⟨4, c, x, 0, 0⟩ hx (by simp)
  generalize doA s.L ⟨4, c, x, 0, 0⟩ = R at hd ⊢
  obtain ⟨⟨rk, rc, rx, ry, ro⟩, rok, L2⟩ := R
  simp only [Acc.cells] at hd ⊢
  have hf := fieldOld rk rc rx ry ro
  go_enter Try.func55, Try.ntmps55
  go_wp2_with (go_at_call 122; refine (hd _ H).mono ?_; rintro e w1 ⟨rfl, H1⟩)
  go_ret
  exact ⟨rfl, H1⟩

set_option maxRecDepth 100000 in
theorem run_swap_nil (w : World) (c x : Int) (hx : 0 ≤ x ∧ x < 4294967296) :
    Calls Try.prog 55 #[.pointer none, .int .i64 c, .int .u32 x] w fun e w' => e = .returned (.int .u32 0) ∧ Touch [] w w' := by
  have hd := fun W => run_do_nil W ⟨4, c, x, 0, 0⟩
  simp only [Acc.cells, Acc.zero] at hd
  have hf := fieldOld 0 0 0 0 0
  go_enter Try.func55, Try.ntmps55
  go_wp2_with (go_at_call 122; refine (hd _).mono ?_; rintro e w1 ⟨rfl, t1⟩)
  go_ret
  exact ⟨rfl, t1⟩


end Go.Proofs.Ytlndihdlodempaa.Z

/- Package line: a run stores and swaps, said of RunHas. -/
set_option linter.unusedVariables false
set_option linter.unusedSimpArgs false
namespace Go.Proofs.Ytlndihdlodempaa.Z
open Go.RowKit

theorem rn_swap {S0 : List Nat} {w0 w : World} {m a r : Nat} {rs : List Res} {s : Rn} (H : RunHas S0 w0 m a r rs s w) (c x : Int) (hx : 0 ≤ x ∧ x < 4294967296) :
    Calls Try.prog 55 #[.pointer (some ⟨r, 0, none⟩), .int .i64 c, .int .u32 x] w fun e w' => e = .returned (.int .u32 (doA s.L ⟨4, c, x, 0, 0⟩).1.old) ∧ RunHas S0 w0 m a r rs (s.did (doA s.L ⟨4, c, x, 0, 0⟩)) w' := by
  obtain ⟨nv, H⟩ := H
  exact (run_swap H c x hx).mono fun e w' h => ⟨h.1, nv, h.2⟩

end Go.Proofs.Ytlndihdlodempaa.Z

/- Package line: a run stores and swaps. -/
set_option linter.unusedVariables false
set_option linter.unusedSimpArgs false
namespace Go.Proofs.Ytlndihdlodempaa.Z
open Go.RowKit

set_option maxRecDepth 100000 in
theorem run_store {S0 : List Nat} {w0 w : World} {m a r : Nat} {nv : Value} {rs : List Res} {s : Rn} (H : Has S0 w0 w (.mem m a s.L :: .blk r (rcells m s nv) :: rs)) (c x : Int) (hx : 0 ≤ x ∧ x < 4294967296) :
    Calls Try.prog 47 #[.pointer (some ⟨r, 0, none⟩), .int .i64 c, .int .u32 x] w fun e w' => e = .returned (.tuple #[]) ∧ Has S0 w0 w' (.mem m a (s.did (doA s.L ⟨2, c, x, 0, 0⟩)).L :: .blk r (rcells m (s.did (doA s.L ⟨2, c, x, 0, 0⟩)) nv) :: rs) := by
  have hd := fun W (H : Has S0 w0 W (.mem m a s.L :: .blk r (rcells m s nv) :: rs)) => run_do H ⟨2, c, x, 0, 0⟩ hx (by simp)
  generalize doA s.L ⟨2, c, x, 0, 0⟩ = R at hd ⊢
  obtain ⟨⟨rk, rc, rx, ry, ro⟩, rok, L2⟩ := R
  simp only [Acc.cells] at hd ⊢
  have hf := fieldOld rk rc rx ry ro
  go_enter Try.func47, Try.ntmps47
  go_wp2_with (go_at_call 122; refine (hd _ H).mono ?_; rintro e w1 ⟨rfl, H1⟩)
  go_end0
  exact ⟨rfl, H1⟩

set_option maxRecDepth 100000 in
theorem run_store_nil (w : World) (c x : Int) (hx : 0 ≤ x ∧ x < 4294967296) :
    Calls Try.prog 47 #[.pointer none, .int .i64 c, .int .u32 x] w fun e w' => e = .returned (.tuple #[]) ∧ Touch [] w w' := by
  have hd := fun W => run_do_nil W ⟨2, c, x, 0, 0⟩
  simp only [Acc.cells, Acc.zero] at hd
  have hf := fieldOld 0 0 0 0 0
  go_enter Try.func47, Try.ntmps47
  go_wp2_with (go_at_call 122; refine (hd _).mono ?_; rintro e w1 ⟨rfl, t1⟩)
  go_end0
  exact ⟨rfl, t1⟩

end Go.Proofs.Ytlndihdlodempaa.Z

/- Package line: a run stores, said of RunHas. -/
set_option linter.unusedVariables false
set_option linter.unusedSimpArgs false
namespace Go.Proofs.Ytlndihdlodempaa.Z
open Go.RowKit

theorem rn_store {S0 : List Nat} {w0 w : World} {m a r : Nat} {rs : List Res} {s : Rn} (H : RunHas S0 w0 m a r rs s w) (c x : Int) (hx : 0 ≤ x ∧ x < 4294967296) :
    Calls Try.prog 47 #[.pointer (some ⟨r, 0, none⟩), .int .i64 c, .int .u32 x] w fun e w' => e = .returned (.tuple #[]) ∧ RunHas S0 w0 m a r rs (s.did (doA s.L ⟨2, c, x, 0, 0⟩)) w' := by
  obtain ⟨nv, H⟩ := H
  exact (run_store H c x hx).mono fun e w' h => ⟨h.1, nv, h.2⟩

end Go.Proofs.Ytlndihdlodempaa.Z
