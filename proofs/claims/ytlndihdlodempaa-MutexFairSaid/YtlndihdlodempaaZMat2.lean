/- Tasks over a lock: how they begin; operations that are let go on alone; rounds. No lock in sight. -/
import Derived.Test.YtlndihdlodempaaZMat
set_option linter.unusedVariables false
set_option linter.unusedSimpArgs false
namespace Go.Proofs.Ytlndihdlodempaa.Z
open Go.RowKit

def Mt.start (k : Nat) (mode : Int) (Z : List Int) : Mt := ⟨k, mode, Z, List.replicate k Fr.zero, List.replicate k 0⟩

/-- A task is let go on alone. -/
def whileA (g : Rn → Rn) (t : Nat) : Nat → Mt → Mt
  | 0, M => M
  | n + 1, M => if (M.fs.getD t Fr.zero).op = 0 then M else whileA g t n (M.play g t 0)
def wholeA (g : Rn → Rn) (M : Mt) (t : Nat) (op : Int) : Mt := whileA g t 200 (M.play g t op)
def readsA (g : Rn → Rn) (op : Int) (M : Mt) : Nat → Mt
  | 0 => M
  | j + 1 => wholeA g (readsA g op M j) j op
def givesA (g : Rn → Rn) (k : Nat) (M : Mt) : Nat → Mt
  | 0 => M
  | j + 1 => wholeA g (wholeA g (givesA g k M j) (k - 1) 6) j 2
/-- One after the other reads; a writer is refused until all have given back. -/
structure TogetherOk (g : Rn → Rn) (k : Nat) (op : Int) (M : Mt) : Prop where
  reads : ∀ j, j < k - 1 → (readsA g op M (j + 1)).many 1 = j + 1
  tried : ∀ j, j < k - 1 → (wholeA g (givesA g k (readsA g op M (k - 1)) j) (k - 1) 6).hold.getD (k - 1) 0 = 0
  last : (wholeA g (givesA g k (readsA g op M (k - 1)) (k - 1)) (k - 1) 6).hold.getD (k - 1) 0 = 2 ∧ (wholeA g (givesA g k (readsA g op M (k - 1)) (k - 1)) (k - 1) 6).many 1 = 0

def playsA (g : Rn → Rn) (k : Nat) (M : Mt) (l : List (Int × Int)) : Mt := l.foldl (fun M x => M.play g ((x.1 % (k : Int)).toNat) (x.2 % 9)) M
def backA (g : Rn → Rn) (M : Mt) : Nat → Mt
  | 0 => M
  | t + 1 => (backA g M t).play g t (2 * (backA g M t).hold.getD t 0)
def roundsA (g : Rn → Rn) (k : Nat) (M : Mt) : Nat → Mt
  | 0 => M
  | r + 1 => backA g (roundsA g k M r) k
/-- One writes, or many read; let go on, all come to rest. -/
structure ExcludesOk (g : Rn → Rn) (k : Nat) (M : Mt) (l : List (Int × Int)) : Prop where
  safe : ∀ j, j ≤ l.length → ¬ ((playsA g k M (l.take j)).many 2 > 1 ∨ (playsA g k M (l.take j)).many 2 = 1 ∧ (playsA g k M (l.take j)).many 1 > 0)
  rest : ∀ t, t < k → ((roundsA g k (playsA g k M l) (2 * k * (8 * k + 40))).fs.getD t Fr.zero).op = 0 ∧ (roundsA g k (playsA g k M l) (2 * k * (8 * k + 40))).hold.getD t 0 = 0

theorem goes_same (g : Rn → Rn) (M : Mt) (i : Nat) (f : Fr) (h : Int) : (M.goes g i f h).n = M.n ∧ (M.goes g i f h).mode = M.mode ∧ (M.goes g i f h).fs.length = M.fs.length ∧ (M.goes g i f h).hold.length = M.hold.length := by
  unfold Mt.goes Mt.put
  split
  · simp
  · split <;> simp
theorem play_same (g : Rn → Rn) (M : Mt) (i : Nat) (op : Int) : (M.play g i op).n = M.n ∧ (M.play g i op).mode = M.mode ∧ (M.play g i op).fs.length = M.fs.length ∧ (M.play g i op).hold.length = M.hold.length := by
  unfold Mt.play
  split
  · split
    · exact goes_same _ _ _ _ _
    · simp
  · exact goes_same _ _ _ _ _
theorem while_len (g : Rn → Rn) (t n : Nat) : ∀ M : Mt, (whileA g t n M).fs.length = M.fs.length := by
  induction n with
  | zero => intro M; rfl
  | succ n ih =>
    intro M
    unfold whileA
    split
    · rfl
    · rw [ih]; exact (play_same _ _ _ _).2.2.1
theorem whole_len (g : Rn → Rn) (M : Mt) (t : Nat) (op : Int) : (wholeA g M t op).fs.length = M.fs.length := (while_len _ _ _ _).trans (play_same _ _ _ _).2.2.1
theorem reads_len (g : Rn → Rn) (op : Int) (M : Mt) (j : Nat) : (readsA g op M j).fs.length = M.fs.length := by
  induction j with
  | zero => rfl
  | succ j ih => exact (whole_len _ _ _ _).trans ih
theorem gives_len (g : Rn → Rn) (k : Nat) (M : Mt) (j : Nat) : (givesA g k M j).fs.length = M.fs.length := by
  induction j with
  | zero => rfl
  | succ j ih => exact (whole_len _ _ _ _).trans ((whole_len _ _ _ _).trans ih)
theorem plays_len (g : Rn → Rn) (k : Nat) (l : List (Int × Int)) : ∀ M : Mt, (playsA g k M l).fs.length = M.fs.length := by
  induction l with
  | nil => intro M; rfl
  | cons x l ih => intro M; exact (ih _).trans (play_same _ _ _ _).2.2.1
theorem back_len (g : Rn → Rn) (M : Mt) (t : Nat) : (backA g M t).fs.length = M.fs.length := by
  induction t with
  | zero => rfl
  | succ t ih => exact (play_same _ _ _ _).2.2.1.trans ih
theorem rounds_len (g : Rn → Rn) (k : Nat) (M : Mt) (r : Nat) : (roundsA g k M r).fs.length = M.fs.length := by
  induction r with
  | zero => rfl
  | succ r ih => exact (back_len _ _ _).trans ih
theorem plays_snoc (g : Rn → Rn) (k : Nat) (M : Mt) (l : List (Int × Int)) (j : Nat) (h : j < l.length) : playsA g k M (l.take (j + 1)) = (playsA g k M (l.take j)).play g (((l.getD j (0, 0)).1 % (k : Int)).toNat) ((l.getD j (0, 0)).2 % 9) := by
  rw [List.take_succ_eq_append_getElem h]
  unfold playsA
  rw [List.foldl_append]
  simp [List.getD, h]
theorem count_snoc (l : List Int) (what : Int) (j : Nat) (h : j < l.length) : (l.take (j + 1)).countP (· == what) = (l.take j).countP (· == what) + if l.getD j 0 = what then 1 else 0 := by
  rw [List.take_succ_eq_append_getElem h, List.countP_append]
  simp [List.getD, h, List.countP_cons]

/-- What a walk reads of a task: how far it is. -/
theorem MatchHas.look {S0 : List Nat} {w0 w : World} {m a x hb : Nat} {rs : List Res} {M : Mt} (H : MatchHas S0 w0 m a x hb rs M w) {i : Nat} (hi : i < M.fs.length) :
    ∃ r b off cap : Nat, x < w.heap.size ∧ w.cell? ⟨x, 0, none⟩ = some (.slice (some ⟨b, off, none⟩) M.fs.length cap) ∧ b < w.heap.size ∧ w.cell? ⟨b, off + i, none⟩ = some (.pointer (some ⟨r, 0, none⟩)) ∧ r < w.heap.size ∧ w.cell? ⟨r, 4, none⟩ = some (.int .i64 (M.fs.getD i Fr.zero).op) := by
  obtain ⟨r, b, off, cap, rest, s, e1, e2, e3, e4, e5, hO, hptr, hback⟩ := H.opened hi
  obtain ⟨p0, p1⟩ := hptr _ _ _ hO
  obtain ⟨nv, hO⟩ := hO
  have h1 := hO.blk1
  have h3 := hO.at_ 3 rfl
  rw [← e1]
  exact ⟨r, b, off, cap, h3.lt, h3.cell 0, p0, p1, h1.lt, h1.cell 4⟩

/-- A store into a box. -/
theorem MatchHas.setBox {S0 : List Nat} {w0 w : World} {m a x hb bx : Nat} {cs : Array Value} {rs : List Res} {M : Mt} (H : MatchHas S0 w0 m a x hb (.blk bx cs :: rs) M w) (i : Nat) (v : Value) : MatchHas S0 w0 m a x hb (.blk bx (cs.setIfInBounds i v) :: rs) M (w.setCell ⟨bx, i, none⟩ v) := by
  obtain ⟨lv, ts, F, H⟩ := H
  refine ⟨lv, ts, F, ?_⟩
  have e : ∀ cs : Array Value, (.mem m a M.L :: .blk x #[lv, .slice (some ⟨hb, 0, none⟩) M.fs.length M.fs.length] :: .own 36 1 lv M.fs.length (ts.map Tk.ptr) :: .blk hb (i64s M.hold).toArray :: (tksRes m ts ++ .blk bx cs :: rs)).Perm (.blk bx cs :: .mem m a M.L :: .blk x #[lv, .slice (some ⟨hb, 0, none⟩) M.fs.length M.fs.length] :: .own 36 1 lv M.fs.length (ts.map Tk.ptr) :: .blk hb (i64s M.hold).toArray :: (tksRes m ts ++ rs)) := fun cs =>
    (((((List.perm_middle (a := Res.blk bx cs)).cons _).cons _).cons _).cons _).trans (perm_past4 _ _ _ _ [Res.blk bx cs] (tksRes m ts ++ rs)).symm
  exact ((H.perm (e cs)).set i v).perm (e _).symm

/-- How tasks begin. -/
def Tk.idle (m : Nat) (n mode : Int) (Z : List Int) (i : Nat) (r : Nat) : Tk := ⟨r, ⟨n, mode, i, Fr.zero, Acc.zero, [], Z⟩, .slice none 0 0⟩
def BegunHas (S0 : List Nat) (w0 : World) (m a x hb : Nat) (k : Nat) (n mode : Int) (Z : List Int) (rs : List Res) (j : Nat) (w : World) : Prop :=
  ∃ (lv : Value) (ts : List Tk), ts.length = j ∧ (∀ i t, ts[i]? = some t → ∃ r, t = Tk.idle m n mode Z i r) ∧
    Has S0 w0 w (.mem m a Z :: .blk x #[lv, .slice (some ⟨hb, 0, none⟩) k k] :: .own 36 1 lv j (ts.map Tk.ptr) :: .blk hb (i64s (List.replicate k 0)).toArray :: (tksRes m ts ++ rs))

theorem begun_done {S0 : List Nat} {w0 w : World} {m a x hb k : Nat} {mode : Int} {Z : List Int} {rs : List Res} (h64 : k ≤ 64) (H : BegunHas S0 w0 m a x hb k k mode Z rs k w) : MatchHas S0 w0 m a x hb rs (Mt.start k mode Z) w := by
  obtain ⟨lv, ts, hl, hi, H⟩ := H
  refine ⟨lv, ts, ⟨by simp [Mt.start, hl], by simp [Mt.start], fun i t ht => ?_, fun f hf => ?_, ?_, by simpa [Mt.start] using h64⟩, ?_⟩
  · obtain ⟨r, rfl⟩ := hi i t ht
    have hlt : i < k := by
      rcases Nat.lt_or_ge i ts.length with h1 | h1
      · omega
      · rw [List.getElem?_eq_none h1] at ht; cases ht
    refine ⟨?_, rfl, rfl, rfl⟩
    simp [Mt.start, Tk.idle, hlt]
  · obtain rfl := (List.mem_replicate.1 hf).2
    exact ⟨by simp [Fr.zero], by simp [Fr.zero]⟩
  · show I64 (k : Int)
    unfold I64
    omega
  · have e : (Mt.start k mode Z).fs.length = k := by simp [Mt.start]
    rw [e]
    exact H

/-- A whole row of cells that was made. -/
theorem own_full {w : World} {base : Nat} {e : TypeId} {b n : Nat} {xs : List Value} (h : w.ownsRow base e 1 (.slice (some ⟨b, 0, none⟩) n n) n xs) : Blk w b xs.toArray := by
  rcases h.2 with ⟨hv, _⟩ | ⟨g, cap, cur, hv, _, hg, _, _, hs, ht⟩
  · cases hv
  · simp only [Value.slice.injEq, Option.some.injEq, Addr.mk.injEq] at hv
    obtain ⟨⟨rfl, _, _⟩, _, rfl⟩ := hv
    refine ⟨e, ?_⟩
    rw [hg]
    have : cur.toList = xs := by rw [← ht, List.take_of_length_le]; simp [hs]
    rw [← this]
theorem rd_cells {w : World} {b : Nat} {l : List Value} (h : Blk w b l.toArray) : Rd w 1 (some ⟨b, 0, none⟩) l.length l :=
  ⟨by simp, fun _ => ⟨_, rfl, h.lt, fun j u hu => by
    rw [Addr.add_lit, Nat.zero_add, h.cell, ← hu]
    simp⟩⟩

theorem Has.grown1 {S0 : List Nat} {w0 w w' : World} {e size n m : Nat} {v v' : Value} {xs ys : List Value} {rs : List Res} (i : Nat) (hi : i < rs.length) (h : Has S0 w0 w rs) (he : rs[i] = .own e size v n xs) (hown : w'.ownsRow 0 e size v' m ys) (hg : w.grownBy w' v.ownBlock)
    (hat : v'.ownBlock = v.ownBlock ∨ v'.ownBlock = some w.heap.size) : Has S0 w0 w' (.own e size v' m ys :: rs.eraseIdx i) := by
  have h1 := h.front i hi
  rw [he] at h1
  exact h1.grown hown hg hat

theorem begun_more {S0 : List Nat} {w0 w w' : World} {m a x hb k j : Nat} {n mode : Int} {Z : List Int} {rs : List Res} {lv v' : Value} {ts : List Tk} {r lit : Nat} (hl : ts.length = j) (hi : ∀ i t, ts[i]? = some t → ∃ r, t = Tk.idle m n mode Z i r)
    (H : Has S0 w0 w (.blk lit #[.pointer (some ⟨r, 0, none⟩)] :: .blk r (rcells m ⟨n, mode, j, Fr.zero, Acc.zero, [], Z⟩ (.slice none 0 0)) :: .mem m a Z :: .blk x #[lv, .slice (some ⟨hb, 0, none⟩) k k] :: .own 36 1 lv j (ts.map Tk.ptr) :: .blk hb (i64s (List.replicate k 0)).toArray :: (tksRes m ts ++ rs)))
    (hown : w'.ownsRow 0 36 1 v' (j + 1) (ts.map Tk.ptr ++ [.pointer (some ⟨r, 0, none⟩)])) (hg : w.grownBy w' lv.ownBlock) (hat : v'.ownBlock = lv.ownBlock ∨ v'.ownBlock = some w.heap.size) :
    BegunHas S0 w0 m a x hb k n mode Z rs (j + 1) (w'.setCell ⟨x, 0, none⟩ v') := by
  have H1 := Has.grown1 4 (by simp) H rfl hown hg hat
  have H2 : Has S0 w0 w' (.blk x #[lv, .slice (some ⟨hb, 0, none⟩) k k] :: .own 36 1 v' (j + 1) (ts.map Tk.ptr ++ [.pointer (some ⟨r, 0, none⟩)]) :: .blk lit #[.pointer (some ⟨r, 0, none⟩)] :: .blk r (rcells m ⟨n, mode, j, Fr.zero, Acc.zero, [], Z⟩ (.slice none 0 0)) :: .mem m a Z :: .blk hb (i64s (List.replicate k 0)).toArray :: (tksRes m ts ++ rs)) := H1.front 4 (by simp)
  have H3 := (H2.set 0 v').ownNil 98 4
  -- own0, x, own, lit, run, mem, hb, rest
  have H4 := (H3.front 3 (by simp)).tail
  -- own0, x, own, run, mem, hb, rest
  refine ⟨v', ts ++ [Tk.idle m n mode Z j r], by simp [hl], fun i t ht => ?_, ?_⟩
  · rcases Nat.lt_or_ge i ts.length with h1 | h1
    · rw [List.getElem?_append_left h1] at ht
      exact hi i t ht
    · rw [List.getElem?_append_right h1] at ht
      have : i = ts.length := by
        rcases Nat.lt_or_ge (i - ts.length) 1 with h2 | h2
        · omega
        · rw [List.getElem?_eq_none (by simpa using h2)] at ht; cases ht
      subst this
      rw [Nat.sub_self] at ht
      simp only [List.getElem?_cons_zero, Option.some.injEq] at ht
      subst ht
      exact ⟨r, by rw [hl]⟩
  · have e1 : (ts ++ [Tk.idle m n mode Z j r]).map Tk.ptr = ts.map Tk.ptr ++ [.pointer (some ⟨r, 0, none⟩)] := by simp [Tk.ptr, Tk.idle]
    have e2 : tksRes m (ts ++ [Tk.idle m n mode Z j r]) ++ rs = tksRes m ts ++ .blk r (rcells m ⟨n, mode, j, Fr.zero, Acc.zero, [], Z⟩ (.slice none 0 0)) :: .own 98 4 (.slice none 0 0) 0 [] :: rs := by simp [tksRes, Tk.res, Tk.idle, nts]
    rw [e1, e2]
    refine H4.perm (List.Perm.trans ?_ (perm_opn _ _ _ _ _ _ _ _).symm)
    -- own0, x, own, run, mem, hb, Z  ~  mem, run, own0, x, hb, own, Z
    exact ((((((perm_front (.own 98 4 (.slice none 0 0) 0 [] :: .blk x #[v', .slice (some ⟨hb, 0, none⟩) k k] :: .own 36 1 v' (j + 1) (ts.map Tk.ptr ++ [.pointer (some ⟨r, 0, none⟩)]) :: .blk r (rcells m ⟨n, mode, j, Fr.zero, Acc.zero, [], Z⟩ (.slice none 0 0)) :: .mem m a Z :: .blk hb (i64s (List.replicate k 0)).toArray :: (tksRes m ts ++ rs)) 2 (by simp)).trans
      (perm_front (.own 36 1 v' (j + 1) (ts.map Tk.ptr ++ [.pointer (some ⟨r, 0, none⟩)]) :: .own 98 4 (.slice none 0 0) 0 [] :: .blk x #[v', .slice (some ⟨hb, 0, none⟩) k k] :: .blk r (rcells m ⟨n, mode, j, Fr.zero, Acc.zero, [], Z⟩ (.slice none 0 0)) :: .mem m a Z :: .blk hb (i64s (List.replicate k 0)).toArray :: (tksRes m ts ++ rs)) 5 (by simp))).trans
      (perm_front (.blk hb (i64s (List.replicate k 0)).toArray :: .own 36 1 v' (j + 1) (ts.map Tk.ptr ++ [.pointer (some ⟨r, 0, none⟩)]) :: .own 98 4 (.slice none 0 0) 0 [] :: .blk x #[v', .slice (some ⟨hb, 0, none⟩) k k] :: .blk r (rcells m ⟨n, mode, j, Fr.zero, Acc.zero, [], Z⟩ (.slice none 0 0)) :: .mem m a Z :: (tksRes m ts ++ rs)) 3 (by simp))).trans
      (perm_front (.blk x #[v', .slice (some ⟨hb, 0, none⟩) k k] :: .blk hb (i64s (List.replicate k 0)).toArray :: .own 36 1 v' (j + 1) (ts.map Tk.ptr ++ [.pointer (some ⟨r, 0, none⟩)]) :: .own 98 4 (.slice none 0 0) 0 [] :: .blk r (rcells m ⟨n, mode, j, Fr.zero, Acc.zero, [], Z⟩ (.slice none 0 0)) :: .mem m a Z :: (tksRes m ts ++ rs)) 3 (by simp))).trans
      (perm_front (.own 98 4 (.slice none 0 0) 0 [] :: .blk x #[v', .slice (some ⟨hb, 0, none⟩) k k] :: .blk hb (i64s (List.replicate k 0)).toArray :: .own 36 1 v' (j + 1) (ts.map Tk.ptr ++ [.pointer (some ⟨r, 0, none⟩)]) :: .blk r (rcells m ⟨n, mode, j, Fr.zero, Acc.zero, [], Z⟩ (.slice none 0 0)) :: .mem m a Z :: (tksRes m ts ++ rs)) 4 (by simp))).trans
      (perm_front (.blk r (rcells m ⟨n, mode, j, Fr.zero, Acc.zero, [], Z⟩ (.slice none 0 0)) :: .own 98 4 (.slice none 0 0) 0 [] :: .blk x #[v', .slice (some ⟨hb, 0, none⟩) k k] :: .blk hb (i64s (List.replicate k 0)).toArray :: .own 36 1 v' (j + 1) (ts.map Tk.ptr ++ [.pointer (some ⟨r, 0, none⟩)]) :: .mem m a Z :: (tksRes m ts ++ rs)) 5 (by simp)))

end Go.Proofs.Ytlndihdlodempaa.Z
