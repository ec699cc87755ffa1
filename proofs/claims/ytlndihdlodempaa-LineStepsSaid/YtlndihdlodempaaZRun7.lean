/- Package line: a run's calls, said of RunHas. Written by genrun7.py. -/
import Derived.Test.YtlndihdlodempaaZRun6
set_option linter.unusedVariables false
set_option linter.unusedSimpArgs false
namespace Go.Proofs.Ytlndihdlodempaa.Z
open Go.RowKit

theorem rn_load {S0 : List Nat} {w0 w : World} {m a r : Nat} {rs : List Res} {s : Rn} (H : RunHas S0 w0 m a r rs s w) (c : Int) :
    Calls Try.prog 53 #[.pointer (some ⟨r, 0, none⟩), .int .i64 c] w fun e w' => e = .returned (.int .u32 (doA s.L ⟨1, c, 0, 0, 0⟩).1.old) ∧ RunHas S0 w0 m a r rs (s.did (doA s.L ⟨1, c, 0, 0, 0⟩)) w' := by
  obtain ⟨nv, H⟩ := H
  exact (run_load H c).mono fun e w' h => ⟨h.1, nv, h.2⟩

theorem rn_add {S0 : List Nat} {w0 w : World} {m a r : Nat} {rs : List Res} {s : Rn} (H : RunHas S0 w0 m a r rs s w) (c x : Int) (hx : 0 ≤ x ∧ x < 4294967296) :
    Calls Try.prog 54 #[.pointer (some ⟨r, 0, none⟩), .int .i64 c, .int .u32 x] w fun e w' => e = .returned (.int .u32 (doA s.L ⟨3, c, x, 0, 0⟩).1.old) ∧ RunHas S0 w0 m a r rs (s.did (doA s.L ⟨3, c, x, 0, 0⟩)) w' := by
  obtain ⟨nv, H⟩ := H
  exact (run_add H c x hx).mono fun e w' h => ⟨h.1, nv, h.2⟩

theorem rn_cas {S0 : List Nat} {w0 w : World} {m a r : Nat} {rs : List Res} {s : Rn} (H : RunHas S0 w0 m a r rs s w) (c x y : Int) (hx : 0 ≤ x ∧ x < 4294967296) (hy : 0 ≤ y ∧ y < 4294967296) :
    Calls Try.prog 56 #[.pointer (some ⟨r, 0, none⟩), .int .i64 c, .int .u32 x, .int .u32 y] w fun e w' => e = .returned (.bool (casB s.L c x y)) ∧ RunHas S0 w0 m a r rs (s.did (doA s.L ⟨5, c, x, y, 0⟩)) w' := by
  obtain ⟨nv, H⟩ := H
  exact (run_cas H c x y hx hy).mono fun e w' h => ⟨h.1, nv, h.2⟩

theorem rn_go {S0 : List Nat} {w0 w : World} {m a r : Nat} {rs : List Res} {s : Rn} (H : RunHas S0 w0 m a r rs s w) (k : Int) :
    Calls Try.prog 60 #[.pointer (some ⟨r, 0, none⟩), .int .i64 k] w fun e w' => e = .returned (.tuple #[]) ∧ RunHas S0 w0 m a r rs (s.goto k) w' := by
  obtain ⟨nv, H⟩ := H
  exact (run_go H k).mono fun e w' h => ⟨h.1, nv, h.2⟩

theorem rn_end {S0 : List Nat} {w0 w : World} {m a r : Nat} {rs : List Res} {s : Rn} (H : RunHas S0 w0 m a r rs s w) (b : Bool) :
    Calls Try.prog 48 #[.pointer (some ⟨r, 0, none⟩), .bool b] w fun e w' => e = .returned (.tuple #[]) ∧ RunHas S0 w0 m a r rs (s.fin b) w' := by
  obtain ⟨nv, H⟩ := H
  exact (run_end H b).mono fun e w' h => ⟨h.1, nv, h.2⟩

theorem rn_wake {S0 : List Nat} {w0 w : World} {m a r : Nat} {rs : List Res} {s : Rn} (H : RunHas S0 w0 m a r rs s w) (c : Int) :
    Calls Try.prog 49 #[.pointer (some ⟨r, 0, none⟩), .int .i64 c] w fun e w' => e = .returned (.tuple #[]) ∧ RunHas S0 w0 m a r rs (s.wake c) w' := by
  obtain ⟨nv, H⟩ := H
  exact (run_wake H c).mono fun e w' h => ⟨h.1, nv, h.2⟩

theorem rn_wait {S0 : List Nat} {w0 w : World} {m a r : Nat} {rs : List Res} {s : Rn} (H : RunHas S0 w0 m a r rs s w) (hn : I64 s.n) (c : Int) (fid : FuncId) (first cap : Array Value) (p : Int → Bool)
    (eg : ∀ args w, (callFunc fid args).run Try.prog w = .ok (.enter fid args) w)
    (hF : ∀ W v, 0 ≤ v → v < 4294967296 → RunHas S0 w0 m a r rs s W → Calls Try.prog fid (first ++ #[.int .u32 v] ++ cap) W fun e W' => e = .returned (.bool (p v)) ∧ Touch [] W W') :
    Calls Try.prog 57 #[.pointer (some ⟨r, 0, none⟩), .int .i64 c, .func (.func fid) first cap] w
      fun e w' => e = .returned (.tuple #[.bool (waitA s.L s.n s.mode s.task s.f.st c p).seen, .bool (waitA s.L s.n s.mode s.task s.f.st c p).done]) ∧ RunHas S0 w0 m a r rs (s.waited (waitA s.L s.n s.mode s.task s.f.st c p)) w' := by
  obtain ⟨nv, H⟩ := H
  exact (run_wait_pure H hn c fid first cap p eg (fun W v h0 h1 HW => hF W v h0 h1 ⟨nv, HW⟩)).mono fun e w' h => ⟨h.1, nv, h.2⟩

/-- What a walk reads of a run: where it is. -/
theorem RunHas.facts {S0 : List Nat} {w0 w : World} {m a r : Nat} {rs : List Res} {s : Rn} (H : RunHas S0 w0 m a r rs s w) {o l x y : Int} (ho : s.f.op = o) (hl : s.f.line = l) (hx : s.f.a = x) (hy : s.f.b = y) :
    r < w.heap.size ∧ (∀ i, w.frozen? ⟨r, i, none⟩ = false) ∧ w.cell? ⟨r, 4, none⟩ = some (.int .i64 o) ∧ w.cell? ⟨r, 5, none⟩ = some (.int .i64 l) ∧ w.cell? ⟨r, 6, none⟩ = some (.int .u32 x) ∧ w.cell? ⟨r, 7, none⟩ = some (.int .u32 y) := by
  obtain ⟨nv, H⟩ := H
  subst ho hl hx hy
  obtain ⟨x0, x1, x2⟩ := H.blk1.own
  exact ⟨x0, x2, x1 4, x1 5, x1 6, x1 7⟩
/-- What a walk reads of a run: whose it is. -/
theorem RunHas.whose {S0 : List Nat} {w0 w : World} {m a r : Nat} {rs : List Res} {s : Rn} (H : RunHas S0 w0 m a r rs s w) {n mode t : Int} (hn : s.n = n) (hm : s.mode = mode) (ht : s.task = t) :
    w.cell? ⟨r, 1, none⟩ = some (.int .i64 n) ∧ w.cell? ⟨r, 2, none⟩ = some (.int .i64 mode) ∧ w.cell? ⟨r, 3, none⟩ = some (.int .i64 t) := by
  obtain ⟨nv, H⟩ := H
  subst hn hm ht
  obtain ⟨x0, x1, x2⟩ := H.blk1.own
  exact ⟨x1 1, x1 2, x1 3⟩
theorem RunHas.setA {S0 : List Nat} {w0 w : World} {m a r : Nat} {rs : List Res} {s : Rn} (H : RunHas S0 w0 m a r rs s w) (v : Int) : RunHas S0 w0 m a r rs (s.setA v) (w.setCell ⟨r, 6, none⟩ (.int .u32 v)) := by
  obtain ⟨nv, H⟩ := H
  exact ⟨nv, H.set1 6 (.int .u32 v)⟩
theorem RunHas.setB {S0 : List Nat} {w0 w : World} {m a r : Nat} {rs : List Res} {s : Rn} (H : RunHas S0 w0 m a r rs s w) (v : Int) : RunHas S0 w0 m a r rs (s.setB v) (w.setCell ⟨r, 7, none⟩ (.int .u32 v)) := by
  obtain ⟨nv, H⟩ := H
  exact ⟨nv, H.set1 7 (.int .u32 v)⟩
theorem RunHas.drew {S0 : List Nat} {w0 w : World} {m a r : Nat} {rs : List Res} {s : Rn} (H : RunHas S0 w0 m a r rs s w) : RunHas S0 w0 m a r rs s w.drew := by
  obtain ⟨nv, H⟩ := H
  exact ⟨nv, H.drew⟩
theorem RunHas.drewN {S0 : List Nat} {w0 w : World} {m a r : Nat} {rs : List Res} {s : Rn} (H : RunHas S0 w0 m a r rs s w) (n : Nat) : RunHas S0 w0 m a r rs s (w.drewN n) := by
  obtain ⟨nv, H⟩ := H
  exact ⟨nv, H.drewN n⟩
theorem RunHas.grow {w' : World} {S0 : List Nat} {w0 w : World} {m a r : Nat} {rs : List Res} {s : Rn} (H : RunHas S0 w0 m a r rs s w) (t : Touch [] w w') : RunHas S0 w0 m a r rs s w' := by
  obtain ⟨nv, H⟩ := H
  exact ⟨nv, H.grow t⟩
theorem RunHas.touch {S0 : List Nat} {w0 w : World} {m a r : Nat} {rs : List Res} {s : Rn} (H : RunHas S0 w0 m a r rs s w) : Touch S0 w0 w := by
  obtain ⟨nv, H⟩ := H
  exact H.touch
theorem RunHas.words {S0 : List Nat} {w0 w : World} {m a r : Nat} {rs : List Res} {s : Rn} (H : RunHas S0 w0 m a r rs s w) : Words s.L := by
  obtain ⟨nv, H⟩ := H
  exact H.mem.words
theorem RunHas.old {S0 : List Nat} {w0 w : World} {m a r : Nat} {rs : List Res} {s : Rn} (H : RunHas S0 w0 m a r rs s w) (b : Acc) : 0 ≤ (doA s.L b).1.old ∧ (doA s.L b).1.old < 4294967296 := doA_old s.L H.words b
/-- A box more. -/
theorem RunHas.box {S0 : List Nat} {w0 w : World} {m a r : Nat} {rs : List Res} {s : Rn} (H : RunHas S0 w0 m a r rs s w) {b : Nat} (hb : w.heap.size = b) (cs : Array Value) (T : TypeId) : RunHas S0 w0 m a r (.blk b cs :: rs) s (w.alloc (.cells cs T)) := by
  obtain ⟨nv, H⟩ := H
  exact ⟨nv, (H.new hb cs T).perm (perm_past3 (Res.mem m a s.L) (Res.blk r (rcells m s nv)) (Res.own 98 4 nv s.notes.length (nts s.notes)) [Res.blk b cs] rs)⟩
theorem RunHas.unbox {x : Res} {S0 : List Nat} {w0 w : World} {m a r : Nat} {rs : List Res} {s : Rn} (H : RunHas S0 w0 m a r (x :: rs) s w) : RunHas S0 w0 m a r rs s w := by
  obtain ⟨nv, H⟩ := H
  exact ⟨nv, H.cut31⟩
theorem RunHas.first {b : Nat} {cs : Array Value} {S0 : List Nat} {w0 w : World} {m a r : Nat} {rs : List Res} {s : Rn} (H : RunHas S0 w0 m a r (.blk b cs :: rs) s w) : Blk w b cs := by
  obtain ⟨nv, H⟩ := H
  exact H.at_ 3 rfl

/-- Some notes, one by one. -/
def Rn.noted (s : Rn) (l : List Int) : Rn := l.foldl (fun s x => s.note x 0) s
theorem noted_notes (s : Rn) (l : List Int) : (s.noted l).notes.length = s.notes.length + l.length := by
  induction l generalizing s with
  | nil => rfl
  | cons x l ih =>
    show ((s.note x 0).noted l).notes.length = _
    rw [ih]
    simp [Rn.note]
    omega
theorem noted_succ (s : Rn) (l : List Int) (k : Nat) (h : k < l.length) : s.noted (l.take (k + 1)) = (s.noted (l.take k)).note (l.getD k 0) 0 := by
  rw [List.take_succ_eq_append_getElem h]
  unfold Rn.noted
  rw [List.foldl_append]
  simp [List.getD, h]
def i64s (l : List Int) : List Value := l.map (Value.int .i64)
theorem i64s_at {w : World} {n i : Nat} {A : Option Addr} {L : List Int} (h : Rd w 1 A n (i64s L)) (hi : i < n) :
    ∃ b off, A = some ⟨b, off, none⟩ ∧ b < w.heap.size ∧ w.cell? ⟨b, off + i, none⟩ = some (.int .i64 (L.getD i 0)) := by
  obtain ⟨b, off, hA, hb, hc⟩ := h.lit (by omega) (by omega)
  have hl : i < L.length := by have := h.1; simp [i64s] at this; omega
  exact ⟨b, off, hA, hb, hc _ _ (by simp [i64s, List.getD, hl])⟩
theorem rd_blk {w : World} {b : Nat} {l : List Int} (h : Blk w b (i64s l).toArray) : Rd w 1 (some ⟨b, 0, none⟩) l.length (i64s l) :=
  ⟨by simp [i64s], fun _ => ⟨_, rfl, h.lt, fun j u hu => by
    rw [Addr.add_lit, Nat.zero_add, h.cell, ← hu]
    simp⟩⟩

end Go.Proofs.Ytlndihdlodempaa.Z
