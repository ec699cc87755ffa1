/- 6 texts of this claim, joined: what Package world needs of them. -/
import Derived.Test.YthnimpkoidablaaGreatZB10
import Derived.Test.YthnimpkoidablaaGreatZB02
import Derived.Test.YthnimpkoidablaaGreatZB00
import Derived.Deep.AppendLies
import Derived.Deep.RegionLaw
set_option linter.unusedVariables false
set_option linter.unusedSimpArgs false
namespace Go.Proofs.YthnimpkoidablaaGreat.Z
open Go.RowKit
def Rn.fresh (s : Rn) : Rn := { s with acc := Acc.zero, notes := [] }
def Rn.over (s : Rn) : Bool := s.f.ret != 0 && !s.f.wk.on
def Rn.woke (s : Rn) : Rn := { s with f := { s.f with wk := (wakeA s.L s.n s.f.wk).1 }, acc := (wakeA s.L s.n s.f.wk).2.1, notes := [], L := (wakeA s.L s.n s.f.wk).2.2 }
theorem Has.own_nil {S0 : List Nat} {w0 w : World} {x y : Res} {rs : List Res} (h : Has S0 w0 w (x :: y :: rs)) (e size : Nat) : Has S0 w0 w (x :: y :: .own e size (.slice none 0 0) 0 [] :: rs) := by
  have h1 : Has S0 w0 w (.own e size (.slice none 0 0) 0 [] :: x :: y :: rs) :=
    Has.upd (xs := []) (rs := x :: y :: rs) [.own e size (.slice none 0 0) 0 []] (S := []) h (Touch.refl _ _) (by simp) (by simp [Res.holds]; exact ⟨by simp, .inl ⟨rfl, rfl⟩⟩) (by simp) (by simp [Res.foot, Value.ownBlock])
  exact h1.perm ((List.Perm.swap x _ _).trans (List.Perm.cons x (List.Perm.swap y _ _)))
theorem Has.own_drop {S0 : List Nat} {w0 w : World} {x y z : Res} {rs : List Res} (h : Has S0 w0 w (x :: y :: z :: rs)) : Has S0 w0 w (x :: y :: rs) := h.rot3.tail
theorem notNilL (fn : Fn) (first cap : Array Value) (w : World) : Sem.run Tryz.prog (binOp BinOp.neq 98 (Value.func fn first cap) Value.nilFunc) w = .ok (.bool true) w := by kernel_rfl
set_option maxHeartbeats 1600000 in
set_option maxRecDepth 100000 in
theorem run_step_lines {S0 : List Nat} {w0 w : World} {m a r : Nat} {rs rs2 : List Res} {s s2 : Rn} (H : RunHas S0 w0 m a r rs s w) (hoff : s.f.wk.on = false) (fid : FuncId) (first cap : Array Value)
    (eg : ∀ args w, (callFunc fid args).run Tryz.prog w = .ok (.enter fid args) w)
    (hl : ∀ W, RunHas S0 w0 m a r rs s.fresh W → Calls Tryz.prog fid (first ++ #[.pointer (some ⟨r, 0, none⟩)] ++ cap) W fun e W' => e = .returned (.tuple #[]) ∧ RunHas S0 w0 m a r rs2 s2 W') :
    Calls Tryz.prog 54 #[.pointer (some ⟨r, 0, none⟩), .func (.func fid) first cap] w fun e w' => e = .returned (.bool s2.over) ∧ RunHas S0 w0 m a r rs2 s2 w' := by
  obtain ⟨n, mode, task, ⟨op, line, fa, fb, st, ⟨on, wc, wi, hit⟩, ret⟩, ⟨ak, ac, ax, ay, ao⟩, notes, L⟩ := s
  obtain ⟨n', mode', task', ⟨op', line', fa', fb', st', ⟨on', wc', wi', hit'⟩, ret'⟩, ⟨ak', ac', ax', ay', ao'⟩, notes', L'⟩ := s2
  simp only at hoff
  subst hoff
  simp only [RunHas, Rn.fresh, Rn.over, Acc.zero] at H hl ⊢
  obtain ⟨nv, H⟩ := H
  simp only [rcells] at *
  obtain ⟨x0, x1, x2⟩ := H.blk1.own
  have hrun := notNilL (.func fid) first cap
  have HLN := Lib.hid hl
  have HH := Lib.hid H
  clear hl H
  go_enter Tryz.func54, Tryz.ntmps54
  go_wp2_with fail
  refine (HLN.out _ ⟨.slice none 0 0, ((((((HH.out.own_drop.set1 14 _).set1 15 _).set1 16 _).set1 17 _).set1 18 _).set1 19 _).own_nil _ _⟩).mono ?_
  rintro e w1 ⟨rfl, nv', H1⟩
  clear x0 x1 x2
  obtain ⟨y0, y1, y2⟩ := H1.blk1.own
  by_cases h0 : ret' = 0
  · subst h0
    go_wp2_with fail
    go_ret
    exact ⟨by simp, nv', H1⟩
  · have h1 : (ret' != 0) = true := by simpa using h0
    clear h0
    cases on' with
    | true =>
      go_wp2_with fail
      go_ret
      exact ⟨by simp, nv', H1⟩
    | false =>
      go_wp2_with fail
      go_ret
      exact ⟨by simp [h1], nv', H1⟩
end Go.Proofs.YthnimpkoidablaaGreat.Z

set_option linter.unusedVariables false
set_option linter.unusedSimpArgs false
namespace Go.Proofs.YthnimpkoidablaaGreat.Z
open Go.RowKit
set_option maxHeartbeats 1600000 in
set_option maxRecDepth 100000 in
theorem run_step_wake {S0 : List Nat} {w0 w : World} {m a r : Nat} {rs : List Res} {s : Rn} (H : RunHas S0 w0 m a r rs s w) (hon : s.f.wk.on = true) (hn : I64 s.n) (lv : Value) :
    Calls Tryz.prog 54 #[.pointer (some ⟨r, 0, none⟩), lv] w fun e w' => e = .returned (.bool s.woke.over) ∧ RunHas S0 w0 m a r rs s.woke w' := by
  obtain ⟨n, mode, task, ⟨op, line, fa, fb, st, wk, ret⟩, ⟨ak, ac, ax, ay, ao⟩, notes, L⟩ := s
  simp only [RunHas, Rn.woke, Rn.over, Acc.zero] at H hon hn ⊢
  have hd := fun W rs (H : Has S0 w0 W (.mem m a L :: rs)) => wake_any H n hn wk
  generalize wakeA L n wk = R at hd ⊢
  obtain ⟨⟨on', wc', wi', hit'⟩, ⟨rk, rc, rx, ry, ro⟩, L2⟩ := R
  obtain ⟨on, wc, wi, hit⟩ := wk
  simp only at hon
  subst hon
  obtain ⟨nv, H⟩ := H
  simp only [rcells, Wk.cells, Acc.cells] at *
  obtain ⟨x0, x1, x2⟩ := H.blk1.own
  have HD := Lib.hid hd
  have HH := Lib.hid H
  clear hd H
  go_enter Tryz.func54, Tryz.ntmps54
  go_wp2_with fail
  refine region_flat (by kernel_rfl) (by kernel_rfl) ?_
  simp only [probed, probes, List.nil_append]
  go_wp2_with fail
  refine (HD.out _ _ (((((((HH.out.own_drop.set1 14 _).set1 15 _).set1 16 _).set1 17 _).set1 18 _).set1 19 _).own_nil 40 4).drew).mono ?_
  rintro e w1 ⟨rfl, H1⟩
  clear x0 x1 x2
  obtain ⟨y0, y1, y2⟩ := H1.blk1.own
  go_wp2_with fail
  rw [only_normal]
  rename_i hK
  simp only [Exit.inBlock, Exit.then]
  refine hK _ _ ?_
  clear hK
  refine wp_from (Facts := fun W => Has S0 w0 W (.mem m a L2 :: .blk r #[.pointer (some ⟨m, 0, none⟩), .int .i64 n, .int .i64 mode, .int .i64 task, .int .i64 op, .int .i64 line, .int .u32 fa, .int .u32 fb, .int .i64 st, .bool on', .int .i64 wc', .int .i64 wi', .bool hit', .int .i64 ret, .int .i64 rk, .int .i64 rc, .int .u32 rx, .int .u32 ry, .int .u32 ro, .slice none 0 0] :: .own 40 4 (.slice none 0 0) 0 [] :: rs)) ?_
    (by have H2 := (((((((((H1.set1 9 (.bool on')).set1 10 (.int .i64 wc')).set1 11 (.int .i64 wi')).set1 12 (.bool hit')).set1 14 (.int .i64 rk)).set1 15 (.int .i64 rc)).set1 16 (.int .u32 rx)).set1 17 (.int .u32 ry)).set1 18 (.int .u32 ro)); simp only [List.setIfInBounds_toArray, List.set_cons_zero, List.set_cons_succ] at H2; exact H2)
  intro W HW
  clear y0 y1 y2 H1
  obtain ⟨y0, y1, y2⟩ := HW.blk1.own
  by_cases h0 : ret = 0
  · subst h0
    go_wp2_with fail
    go_ret
    exact ⟨by simp, .slice none 0 0, HW⟩
  · have h1 : (ret != 0) = true := by simpa using h0
    clear h0
    cases on' with
    | true =>
      go_wp2_with fail
      go_ret
      exact ⟨by simp, .slice none 0 0, HW⟩
    | false =>
      go_wp2_with fail
      go_ret
      exact ⟨by simp [h1], .slice none 0 0, HW⟩
end Go.Proofs.YthnimpkoidablaaGreat.Z

set_option linter.unusedVariables false
set_option linter.unusedSimpArgs false
namespace Go.Proofs.YthnimpkoidablaaGreat.Z
open Go.RowKit
theorem rn_load {S0 : List Nat} {w0 w : World} {m a r : Nat} {rs : List Res} {s : Rn} (H : RunHas S0 w0 m a r rs s w) (c : Int) :
    Calls Tryz.prog 96 #[.pointer (some ⟨r, 0, none⟩), .int .i64 c] w fun e w' => e = .returned (.int .u32 (doA s.L ⟨1, c, 0, 0, 0⟩).1.old) ∧ RunHas S0 w0 m a r rs (s.did (doA s.L ⟨1, c, 0, 0, 0⟩)) w' := by
  obtain ⟨nv, H⟩ := H
  exact (run_load H c).mono fun e w' h => ⟨h.1, nv, h.2⟩
theorem rn_add {S0 : List Nat} {w0 w : World} {m a r : Nat} {rs : List Res} {s : Rn} (H : RunHas S0 w0 m a r rs s w) (c x : Int) (hx : 0 ≤ x ∧ x < 4294967296) :
    Calls Tryz.prog 88 #[.pointer (some ⟨r, 0, none⟩), .int .i64 c, .int .u32 x] w fun e w' => e = .returned (.int .u32 (doA s.L ⟨3, c, x, 0, 0⟩).1.old) ∧ RunHas S0 w0 m a r rs (s.did (doA s.L ⟨3, c, x, 0, 0⟩)) w' := by
  obtain ⟨nv, H⟩ := H
  exact (run_add H c x hx).mono fun e w' h => ⟨h.1, nv, h.2⟩
theorem rn_cas {S0 : List Nat} {w0 w : World} {m a r : Nat} {rs : List Res} {s : Rn} (H : RunHas S0 w0 m a r rs s w) (c x y : Int) (hx : 0 ≤ x ∧ x < 4294967296) (hy : 0 ≤ y ∧ y < 4294967296) :
    Calls Tryz.prog 112 #[.pointer (some ⟨r, 0, none⟩), .int .i64 c, .int .u32 x, .int .u32 y] w fun e w' => e = .returned (.bool (casB s.L c x y)) ∧ RunHas S0 w0 m a r rs (s.did (doA s.L ⟨5, c, x, y, 0⟩)) w' := by
  obtain ⟨nv, H⟩ := H
  exact (run_cas H c x y hx hy).mono fun e w' h => ⟨h.1, nv, h.2⟩
theorem rn_go {S0 : List Nat} {w0 w : World} {m a r : Nat} {rs : List Res} {s : Rn} (H : RunHas S0 w0 m a r rs s w) (k : Int) :
    Calls Tryz.prog 86 #[.pointer (some ⟨r, 0, none⟩), .int .i64 k] w fun e w' => e = .returned (.tuple #[]) ∧ RunHas S0 w0 m a r rs (s.goto k) w' := by
  obtain ⟨nv, H⟩ := H
  exact (run_go H k).mono fun e w' h => ⟨h.1, nv, h.2⟩
theorem rn_end {S0 : List Nat} {w0 w : World} {m a r : Nat} {rs : List Res} {s : Rn} (H : RunHas S0 w0 m a r rs s w) (b : Bool) :
    Calls Tryz.prog 91 #[.pointer (some ⟨r, 0, none⟩), .bool b] w fun e w' => e = .returned (.tuple #[]) ∧ RunHas S0 w0 m a r rs (s.fin b) w' := by
  obtain ⟨nv, H⟩ := H
  exact (run_end H b).mono fun e w' h => ⟨h.1, nv, h.2⟩
theorem rn_wake {S0 : List Nat} {w0 w : World} {m a r : Nat} {rs : List Res} {s : Rn} (H : RunHas S0 w0 m a r rs s w) (c : Int) :
    Calls Tryz.prog 90 #[.pointer (some ⟨r, 0, none⟩), .int .i64 c] w fun e w' => e = .returned (.tuple #[]) ∧ RunHas S0 w0 m a r rs (s.wake c) w' := by
  obtain ⟨nv, H⟩ := H
  exact (run_wake H c).mono fun e w' h => ⟨h.1, nv, h.2⟩
theorem rn_wait {S0 : List Nat} {w0 w : World} {m a r : Nat} {rs : List Res} {s : Rn} (H : RunHas S0 w0 m a r rs s w) (hn : I64 s.n) (c : Int) (fid : FuncId) (first cap : Array Value) (p : Int → Bool)
    (eg : ∀ args w, (callFunc fid args).run Tryz.prog w = .ok (.enter fid args) w)
    (hF : ∀ W v, 0 ≤ v → v < 4294967296 → RunHas S0 w0 m a r rs s W → Calls Tryz.prog fid (first ++ #[.int .u32 v] ++ cap) W fun e W' => e = .returned (.bool (p v)) ∧ Touch [] W W') :
    Calls Tryz.prog 85 #[.pointer (some ⟨r, 0, none⟩), .int .i64 c, .func (.func fid) first cap] w
      fun e w' => e = .returned (.tuple #[.bool (waitA s.L s.n s.mode s.task s.f.st c p).seen, .bool (waitA s.L s.n s.mode s.task s.f.st c p).done]) ∧ RunHas S0 w0 m a r rs (s.waited (waitA s.L s.n s.mode s.task s.f.st c p)) w' := by
  obtain ⟨nv, H⟩ := H
  exact (run_wait_pure H hn c fid first cap p eg (fun W v h0 h1 HW => hF W v h0 h1 ⟨nv, HW⟩)).mono fun e w' h => ⟨h.1, nv, h.2⟩
theorem RunHas.facts {S0 : List Nat} {w0 w : World} {m a r : Nat} {rs : List Res} {s : Rn} (H : RunHas S0 w0 m a r rs s w) {o l x y : Int} (ho : s.f.op = o) (hl : s.f.line = l) (hx : s.f.a = x) (hy : s.f.b = y) :
    r < w.heap.size ∧ (∀ i, w.frozen? ⟨r, i, none⟩ = false) ∧ w.cell? ⟨r, 4, none⟩ = some (.int .i64 o) ∧ w.cell? ⟨r, 5, none⟩ = some (.int .i64 l) ∧ w.cell? ⟨r, 6, none⟩ = some (.int .u32 x) ∧ w.cell? ⟨r, 7, none⟩ = some (.int .u32 y) := by
  obtain ⟨nv, H⟩ := H
  subst ho hl hx hy
  obtain ⟨x0, x1, x2⟩ := H.blk1.own
  exact ⟨x0, x2, x1 4, x1 5, x1 6, x1 7⟩
theorem RunHas.whose {S0 : List Nat} {w0 w : World} {m a r : Nat} {rs : List Res} {s : Rn} (H : RunHas S0 w0 m a r rs s w) {n mode t : Int} (hn : s.n = n) (hm : s.mode = mode) (ht : s.task = t) :
    w.cell? ⟨r, 1, none⟩ = some (.int .i64 n) ∧ w.cell? ⟨r, 2, none⟩ = some (.int .i64 mode) ∧ w.cell? ⟨r, 3, none⟩ = some (.int .i64 t) := by
  obtain ⟨nv, H⟩ := H
  subst hn hm ht
  obtain ⟨x0, x1, x2⟩ := H.blk1.own
  exact ⟨x1 1, x1 2, x1 3⟩
theorem RunHas.setA {S0 : List Nat} {w0 w : World} {m a r : Nat} {rs : List Res} {s : Rn} (H : RunHas S0 w0 m a r rs s w) (v : Int) : RunHas S0 w0 m a r rs (s.setA v) (w.setCell ⟨r, 6, none⟩ (.int .u32 v)) := by
  obtain ⟨nv, H⟩ := H
  exact ⟨nv, H.set1 6 (.int .u32 v)⟩
theorem RunHas.setB {S0 : List Nat} {w0 w : World} {m a r : Nat} {rs : List Res} {s : Rn} (H : RunHas S0 w0 m a r rs s w) (v : Int) : RunHas S0 w0 m a r rs (s.setB v) (w.setCell ⟨r, 7, none⟩ (.int .u32 v)) := by
  obtain ⟨nv, H⟩ := H
  exact ⟨nv, H.set1 7 (.int .u32 v)⟩
theorem RunHas.drew {S0 : List Nat} {w0 w : World} {m a r : Nat} {rs : List Res} {s : Rn} (H : RunHas S0 w0 m a r rs s w) : RunHas S0 w0 m a r rs s w.drew := by
  obtain ⟨nv, H⟩ := H
  exact ⟨nv, H.drew⟩
theorem RunHas.drewN {S0 : List Nat} {w0 w : World} {m a r : Nat} {rs : List Res} {s : Rn} (H : RunHas S0 w0 m a r rs s w) (n : Nat) : RunHas S0 w0 m a r rs s (w.drewN n) := by
  obtain ⟨nv, H⟩ := H
  exact ⟨nv, H.drewN n⟩
theorem RunHas.grow {w' : World} {S0 : List Nat} {w0 w : World} {m a r : Nat} {rs : List Res} {s : Rn} (H : RunHas S0 w0 m a r rs s w) (t : Touch [] w w') : RunHas S0 w0 m a r rs s w' := by
  obtain ⟨nv, H⟩ := H
  exact ⟨nv, H.grow t⟩
theorem RunHas.touch {S0 : List Nat} {w0 w : World} {m a r : Nat} {rs : List Res} {s : Rn} (H : RunHas S0 w0 m a r rs s w) : Touch S0 w0 w := by
  obtain ⟨nv, H⟩ := H
  exact H.touch
theorem RunHas.words {S0 : List Nat} {w0 w : World} {m a r : Nat} {rs : List Res} {s : Rn} (H : RunHas S0 w0 m a r rs s w) : Words s.L := by
  obtain ⟨nv, H⟩ := H
  exact H.mem.words
theorem RunHas.old {S0 : List Nat} {w0 w : World} {m a r : Nat} {rs : List Res} {s : Rn} (H : RunHas S0 w0 m a r rs s w) (b : Acc) : 0 ≤ (doA s.L b).1.old ∧ (doA s.L b).1.old < 4294967296 := doA_old s.L H.words b
theorem RunHas.box {S0 : List Nat} {w0 w : World} {m a r : Nat} {rs : List Res} {s : Rn} (H : RunHas S0 w0 m a r rs s w) {b : Nat} (hb : w.heap.size = b) (cs : Array Value) (T : TypeId) : RunHas S0 w0 m a r (.blk b cs :: rs) s (w.alloc (.cells cs T)) := by
  obtain ⟨nv, H⟩ := H
  exact ⟨nv, (H.new hb cs T).perm (perm_past3 (Res.mem m a s.L) (Res.blk r (rcells m s nv)) (Res.own 40 4 nv s.notes.length (nts s.notes)) [Res.blk b cs] rs)⟩
theorem RunHas.unbox {x : Res} {S0 : List Nat} {w0 w : World} {m a r : Nat} {rs : List Res} {s : Rn} (H : RunHas S0 w0 m a r (x :: rs) s w) : RunHas S0 w0 m a r rs s w := by
  obtain ⟨nv, H⟩ := H
  exact ⟨nv, H.cut31⟩
theorem RunHas.first {b : Nat} {cs : Array Value} {S0 : List Nat} {w0 w : World} {m a r : Nat} {rs : List Res} {s : Rn} (H : RunHas S0 w0 m a r (.blk b cs :: rs) s w) : Blk w b cs := by
  obtain ⟨nv, H⟩ := H
  exact H.at_ 3 rfl
def Rn.noted (s : Rn) (l : List Int) : Rn := l.foldl (fun s x => s.note x 0) s
theorem noted_notes (s : Rn) (l : List Int) : (s.noted l).notes.length = s.notes.length + l.length := by
  induction l generalizing s with
  | nil => rfl
  | cons x l ih =>
    show ((s.note x 0).noted l).notes.length = _
    rw [ih]
    simp [Rn.note]
    omega
theorem noted_succ (s : Rn) (l : List Int) (k : Nat) (h : k < l.length) : s.noted (l.take (k + 1)) = (s.noted (l.take k)).note (l.getD k 0) 0 := by
  rw [List.take_succ_eq_append_getElem h]
  unfold Rn.noted
  rw [List.foldl_append]
  simp [List.getD, h]
def i64s (l : List Int) : List Value := l.map (Value.int .i64)
theorem i64s_at {w : World} {n i : Nat} {A : Option Addr} {L : List Int} (h : Rd w 1 A n (i64s L)) (hi : i < n) :
    ∃ b off, A = some ⟨b, off, none⟩ ∧ b < w.heap.size ∧ w.cell? ⟨b, off + i, none⟩ = some (.int .i64 (L.getD i 0)) := by
  obtain ⟨b, off, hA, hb, hc⟩ := h.lit (by omega) (by omega)
  have hl : i < L.length := by have := h.1; simp [i64s] at this; omega
  exact ⟨b, off, hA, hb, hc _ _ (by simp [i64s, List.getD, hl])⟩
theorem rd_blk {w : World} {b : Nat} {l : List Int} (h : Blk w b (i64s l).toArray) : Rd w 1 (some ⟨b, 0, none⟩) l.length (i64s l) :=
  ⟨by simp [i64s], fun _ => ⟨_, rfl, h.lt, fun j u hu => by
    rw [Addr.add_lit, Nat.zero_add, h.cell, ← hu]
    simp⟩⟩
end Go.Proofs.YthnimpkoidablaaGreat.Z

set_option linter.unusedVariables false
set_option linter.unusedSimpArgs false
namespace Go.Proofs.YthnimpkoidablaaGreat.Z
open Go Go.RowKit
theorem Has.fin {S0 : List Nat} {w0 w w' : World} {y : Res} {x : Nat} {cs cs' : Array Value} (ys : List Res) {rs : List Res} (h : Has S0 w0 w (y :: .blk x cs :: (ys ++ rs))) (t : Touch (x :: foots ys) w w') (hb : Blk w' x cs') :
    Has S0 w0 w' (y :: .blk x cs' :: rs) := by
  have h1 : Has S0 w0 w ((.blk x cs :: ys) ++ (y :: rs)) := h.perm ((List.Perm.swap _ _ _).trans (List.Perm.cons _ List.perm_middle.symm))
  have h2 := Has.upd (xs := .blk x cs :: ys) (rs := y :: rs) [.blk x cs'] (S := x :: foots ys) h1 t (fun k hk => Or.inl (by simpa [foots, Res.foot] using hk)) (by intro r hr; simp only [List.mem_singleton] at hr; subst hr; exact hb) (by simp) (by simp [foots, Res.foot])
  exact h2.swap
theorem Has.ownAt {S0 : List Nat} {w0 w : World} {e size n : Nat} {v : Value} {xs : List Value} {rs : List Res} (h : Has S0 w0 w rs) (i : Nat) (hi : rs[i]? = some (.own e size v n xs)) : w.ownsRow 0 e size v n xs := h.all _ (List.mem_of_getElem? hi)
section
variable {P : Program} {w : World}
end
end Go.Proofs.YthnimpkoidablaaGreat.Z

set_option linter.unusedVariables false
set_option linter.unusedSimpArgs false
namespace Go.Proofs.YthnimpkoidablaaGreat.Z
open Go.RowKit
def stepR (g : Rn → Rn) (s : Rn) : Rn := if s.f.wk.on then s.woke else g s.fresh
def aloneA (g : Rn → Rn) : Nat → Rn → Int × Rn
  | 0, s => (0, s)
  | k + 1, s => if (stepR g s).over then ((stepR g s).f.ret, stepR g s) else aloneA g k (stepR g s)
def start (n mode op : Int) (L : List Int) : Rn := ⟨n, mode, 0, ⟨op, 0, 0, 0, 0, Wk.zero, 0⟩, Acc.zero, [], L⟩
def Rn.ok (s : Rn) : Prop := I64 s.n ∧ (0 ≤ s.f.a ∧ s.f.a < 4294967296) ∧ (0 ≤ s.f.b ∧ s.f.b < 4294967296)
theorem woke_ok {s : Rn} (h : s.ok) : s.woke.ok := h
theorem fresh_ok {s : Rn} (h : s.ok) : s.fresh.ok := h
def NoWatch (n : Int) (c : Int) (L : List Int) : Prop := ∀ i, 0 ≤ i → i < n → (doA L ⟨1, cellP n 2 i, 0, 0, 0⟩).2.1 = true ∧ (doA L ⟨1, cellP n 2 i, 0, 0, 0⟩).1.old ≠ (c + 1) % 4294967296
theorem woke_calm {s : Rn} {c i : Int} (hw : s.f.wk = ⟨true, c, i, false⟩) (h0 : 0 ≤ i) (h1 : i < s.n) (hc : NoWatch s.n c s.L) :
    s.woke.L = s.L ∧ s.woke.f = { s.f with wk := if s.n ≤ i + 1 then Wk.zero else ⟨true, c, i + 1, false⟩ } ∧ s.woke.notes = [] ∧ s.woke.n = s.n ∧ s.woke.mode = s.mode ∧ s.woke.task = s.task := by
  obtain ⟨h2, h3⟩ := hc i h0 h1
  have e : wakeA s.L s.n s.f.wk = (nextA s.n ⟨true, c, i, false⟩, (doA s.L ⟨1, cellP s.n 2 i, 0, 0, 0⟩).1, s.L) := by
    rw [hw]
    unfold wakeA
    simp only [if_true, Bool.false_eq_true, if_false]
    rw [if_pos h2, if_neg h3]
  unfold Rn.woke
  rw [e]
  refine ⟨rfl, ?_, rfl, rfl, rfl, rfl⟩
  show { s.f with wk := nextA s.n ⟨true, c, i, false⟩ } = _
  unfold nextA
  rfl
def Rn.rests (s : Rn) : Rn := { s with f := { s.f with wk := Wk.zero }, acc := Acc.zero, notes := [] }
theorem alone_wakes (g : Rn → Rn) (c : Int) : ∀ (d : Nat) (s : Rn) (i : Int) (most : Nat), s.f.wk = ⟨true, c, i, false⟩ → 0 ≤ i → i + d = s.n → 1 ≤ d → NoWatch s.n c s.L → d ≤ most →
    ∃ s', s'.fresh = s.rests ∧ s'.f.wk.on = false ∧ s'.L = s.L ∧ s'.f.ret = s.f.ret ∧ ((s.f.ret ≠ 0 → aloneA g most s = (s.f.ret, s')) ∧ (s.f.ret = 0 → aloneA g most s = aloneA g (most - d) s')) := by
  intro d
  induction d with
  | zero => intro s i most hw h0 h1 h2; omega
  | succ d ih =>
    intro s i most hw h0 h1 _ hc hm
    obtain ⟨e1, e2, e3, e4, e5, e6⟩ := woke_calm hw h0 (by omega) hc
    have hst : stepR g s = s.woke := by unfold stepR; rw [hw]; rfl
    obtain ⟨most, rfl⟩ : ∃ j, most = j + 1 := ⟨most - 1, by omega⟩
    by_cases hd : d = 0
    · subst hd
      rw [if_pos (by omega)] at e2
      refine ⟨s.woke, ?_, by rw [e2]; rfl, e1, by rw [e2], fun hr => ?_, fun hr => ?_⟩
      · unfold Rn.fresh Rn.rests
        rw [e1, e2, e4, e5, e6]
      · show (if (stepR g s).over then ((stepR g s).f.ret, stepR g s) else aloneA g most (stepR g s)) = _
        rw [hst, if_pos (by unfold Rn.over; rw [e2]; simpa [Wk.zero] using hr), e2]
      · show (if (stepR g s).over then ((stepR g s).f.ret, stepR g s) else aloneA g most (stepR g s)) = _
        rw [hst, if_neg (by unfold Rn.over; rw [e2]; simp [hr])]
        rfl
    · rw [if_neg (by omega)] at e2
      obtain ⟨s', k1, k2, k3, k4, k5, k6⟩ := ih s.woke (i + 1) most (by rw [e2]) (by omega) (by rw [e4]; omega) (by omega) (by rw [e4, e1]; exact hc) (by omega)
      have er : s.woke.f.ret = s.f.ret := by rw [e2]
      have hgo : aloneA g (most + 1) s = aloneA g most s.woke := by
        show (if (stepR g s).over then ((stepR g s).f.ret, stepR g s) else aloneA g most (stepR g s)) = _
        rw [hst, if_neg (by unfold Rn.over; rw [e2]; simp)]
      refine ⟨s', ?_, k2, k3.trans e1, k4.trans er, fun hr => ?_, fun hr => ?_⟩
      · rw [k1]
        unfold Rn.rests
        rw [e1, e2, e4, e5, e6]
      · rw [hgo, k5 (by rw [er]; exact hr), er]
      · rw [hgo, k6 (by rw [er]; exact hr)]
        congr 1
        omega
def Fine (s0 s' : Rn) : Prop := (I64 s'.n ∧ (0 ≤ s'.f.a ∧ s'.f.a < 4294967296) ∧ (0 ≤ s'.f.b ∧ s'.f.b < 4294967296)) ∧ s'.notes.length ≤ s0.notes.length + 10
theorem fine_mk {s0 s' : Rn} (h : (I64 s'.n ∧ (0 ≤ s'.f.a ∧ s'.f.a < 4294967296) ∧ (0 ≤ s'.f.b ∧ s'.f.b < 4294967296)) ∧ s'.notes.length ≤ s0.notes.length + 10) : Fine s0 s' := h
theorem Has.ownNil {S0 : List Nat} {w0 w : World} {rs : List Res} (h : Has S0 w0 w rs) (e size : Nat) : Has S0 w0 w (.own e size (.slice none 0 0) 0 [] :: rs) :=
  Has.upd (xs := []) (rs := rs) [.own e size (.slice none 0 0) 0 []] (S := []) h (Touch.refl _ _) (by simp) (by simp [Res.holds]; exact ⟨by simp, .inl ⟨rfl, rfl⟩⟩) (by simp) (by simp [Res.foot, Value.ownBlock])
end Go.Proofs.YthnimpkoidablaaGreat.Z

set_option linter.unusedVariables false
namespace Go.Proofs.YthnimpkoidablaaGreat.Z
def mayB (op hold : Int) : Bool := if hold = 0 then op == 1 || op == 3 || op == 5 || op == 6 else if hold = 1 then op == 2 || op == 7 else op == 4 || op == 8
def fromA (op hold : Int) : Int := if op = 2 ∨ op = 4 then 0 else if op = 8 then 1 else hold
def behindA (op ret hold : Int) : Int := if ret ≠ 2 then hold else if op = 1 ∨ op = 5 then 1 else if op = 3 ∨ op = 6 ∨ op = 7 then 2 else hold
end Go.Proofs.YthnimpkoidablaaGreat.Z
