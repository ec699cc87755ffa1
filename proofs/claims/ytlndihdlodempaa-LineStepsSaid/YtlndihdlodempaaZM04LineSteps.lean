/- 3 texts of this claim, joined: what each shows stands at its own head. -/
import Derived.Test.YtlndihdlodempaaZM00LineSteps
import Derived.Test.YtlndihdlodempaaZRun6
import Derived.Test.YtlndihdlodempaaZRef07b
import Derived.Test.YtlndihdlodempaaZM03LineSteps
/- The document's example of layer 9. -/
set_option linter.unusedVariables false
set_option linter.unusedSimpArgs false
namespace Go.Proofs.Ytlndihdlodempaa.Z
open Go.RowKit

theorem run_note_nil (w : World) (what arg : Int) :
    Calls Try.prog 59 #[.pointer none, .int .i64 what, .int .i64 arg] w fun e w' => e = .returned (.tuple #[]) ∧ Touch [] w w' := by
  go_enter Try.func59, Try.ntmps59
  go_wp2
  go_end0
  exact ⟨rfl, Touch.refl _ _⟩

/-- A new run. -/
theorem RunHas.new {S0 : List Nat} {w0 w : World} {m a : Nat} {rs : List Res} (s : Rn) (H : Has S0 w0 w (.mem m a s.L :: rs)) (hn : s.notes = []) (T : TypeId) :
    RunHas S0 w0 m a w.heap.size rs s (w.alloc (.cells (rcells m s (.slice none 0 0)) T)) := by
  refine ⟨.slice none 0 0, ?_⟩
  rw [hn]
  exact (H.al1).own_nil _ _

theorem newmem_has {S0 : List Nat} {w0 w : World} {rs : List Res} (H : Has S0 w0 w rs) (n : Nat) (hn : n ≤ 1024) :
    Calls Try.prog 45 #[.int .i64 n] w (HasMem S0 w0 (List.replicate n 0) rs) :=
  (new_ok n w hn).mono fun e w' h => has_newmem H h

/-- The example's run, before its step and behind it. -/
def aw9 : Rn := ⟨1, 1, 0, Fr.zero, Acc.zero, [], List.replicate 12 0⟩
def aw9' : Rn := ((aw9.did (doA (List.replicate 12 0) ⟨2, 0, 7, 0, 0⟩)).fin true).wake 0

set_option maxHeartbeats 400000 in
theorem lines09 {S0 : List Nat} {w0 w : World} {m a r : Nat} {rs : List Res} (H : RunHas S0 w0 m a r rs aw9.fresh w) :
    Calls Try.prog 46 #[.pointer (some ⟨r, 0, none⟩)] w fun e w' => e = .returned (.tuple #[]) ∧ RunHas S0 w0 m a r rs aw9' w' := by
  obtain ⟨nv, H⟩ := H
  go_enter Try.func46, Try.ntmps46
  go_wp2_with fail
  refine (run_store H 0 7 (by decide)).mono ?_
  rintro e w1 ⟨rfl, H1⟩
  go_wp2_with fail
  refine (run_end H1 true).mono ?_
  rintro e w2 ⟨rfl, H2⟩
  go_wp2_with fail
  refine (run_wake H2 0).mono ?_
  rintro e w3 ⟨rfl, H3⟩
  go_wp2_with fail
  go_end0
  exact ⟨rfl, nv, H3⟩

set_option maxHeartbeats 800000 in
theorem awake09 (w : World) : Calls Try.prog 11 #[] w fun e w' => e = .returned (.bool true) ∧ Touch [] w w' := by
  have hnew := fun W => newmem_has (Has.start [] W) 12 (by decide)
  have hs := fun W m a r (H : RunHas [] w m a r [] aw9 W) => run_step_lines (rs2 := []) (s2 := aw9') H rfl 46 #[] #[] (enters_of Try.func46 (by kernel_rfl) rfl) (fun W H => lines09 H)
  have hld := fun W m a rs (H : Has [] w W (.mem m a aw9'.L :: rs)) => load_has H 0
  rw [show aw9'.over = true from rfl] at hs
  rw [show ldA aw9'.L 0 = 7 from rfl] at hld
  have HS := Lib.hid hs
  have HL := Lib.hid hld
  clear hs hld
  go_enter Try.func11, Try.ntmps11
  go_wp2_with fail
  refine (hnew _).mono ?_
  rintro e w1 ⟨m, a, rfl, H1⟩
  clear hnew
  go_wp2_with fail
  refine (HS.out _ _ _ _ (RunHas.new aw9 H1 rfl 43)).mono ?_
  rintro e w2 ⟨rfl, nv, H2⟩
  generalize w1.heap.size = r at H2 ⊢
  go_wp2_with fail
  refine (HL.out _ _ _ _ H2).mono ?_
  rintro e w3 ⟨rfl, H3⟩
  have h13 : w3.cell? ⟨r, 13, none⟩ = some (.int .i64 2) := (H3.blk1.cell 13)
  go_wp2_with fail
  go_ret
  exact ⟨rfl, H3.touch⟩

end Go.Proofs.Ytlndihdlodempaa.Z

/- The document on who is stuck. -/
set_option linter.unusedVariables false
set_option linter.unusedSimpArgs false
namespace Go.Proofs.Ytlndihdlodempaa.Z
open Go.RowKit

theorem rstuck_any {w : World} {p : Option Addr} {g cap : Nat} {L : List Int} (h : Row w p g L) (hcap : L.length ≤ cap) (hcm : cap ≤ 9223372036854775807) (n mode task stage : Int) :
    Calls Try.prog 19 #[.slice p L.length cap, .int .i64 n, .int .i64 mode, .int .i64 task, .agg #[.int .i64 stage]] w
      fun e w' => e = .returned (.bool (stuckA L n mode task stage)) ∧ Touch [] w w' := by
  unfold stuckA
  have ht := fun W (hM : Row W p g L) => rthere_any hM hcap hcm n task
  generalize thereA L n task = b at ht ⊢
  have HT := Lib.hid ht
  clear ht
  by_cases h2 : mode = 2
  · subst h2
    by_cases h3 : stage = 3
    · subst h3
      rw [show stageA 2 3 = 3 from rfl]
      go_enter Try.func19, Try.ntmps19
      go_wp2_with fail
      refine (HT.out _ (h.touch ((Touch.refl [] w).alloc _) (by simp))).mono ?_
      rintro e w2 ⟨rfl, rfl⟩
      go_wp2_with fail
      go_ret
      exact ⟨by simp, (Touch.refl [] w).alloc _⟩
    · have e3 : (stageA 2 stage == 3) = false := by
        have : stageA 2 stage ≠ 3 := fun h => h3 (stageA_at h (by decide)).2
        simpa using this
      have e4 : (stage == 3) = false := by simpa using h3
      rw [e3]
      clear h3 e3
      go_enter Try.func19, Try.ntmps19
      go_wp2_with fail
      go_ret
      exact ⟨rfl, (Touch.refl [] w).alloc _⟩
  · have e3 : (stageA mode stage == 3) = false := by
      have : stageA mode stage ≠ 3 := fun h => h2 (stageA_at h (by decide)).1
      simpa using this
    have e4 : (mode == 2) = false := by simpa using h2
    rw [e3]
    clear h2 e3
    go_enter Try.func19, Try.ntmps19
    go_wp2_with fail
    go_ret
    exact ⟨rfl, (Touch.refl [] w).alloc _⟩

end Go.Proofs.Ytlndihdlodempaa.Z

/- Law 9: the statement LineSteps: its walk. -/
set_option linter.unusedVariables false
set_option linter.unusedSimpArgs false
namespace Go.Proofs.Ytlndihdlodempaa.Z
open Go.RowKit
attribute [local go_sem ↓] Go.wp_at_zero Go.wp_at_succ

/-- Some of what is held. -/
theorem Has.pre {S0 : List Nat} {w0 w : World} (xs ys : List Res) (h : Has S0 w0 w (xs ++ ys)) : Has S0 w0 w xs :=
  ⟨h.touch, fun r hr => h.all r (List.mem_append_left _ hr), (List.pairwise_append.1 h.apart).1, fun r hr => h.fresh r (List.mem_append_left _ hr)⟩
/-- How all lies at the head of a round. -/
def LS9 (w : World) (m a r : Nat) (p : Option Addr) (g cap q bs bi : Nat) (sv : Value) (j : Nat) (s : Rn) (W : World) : Prop :=
  ∃ nv nx, Has [] w W (.mem m a s.L :: .blk r (rcells m s nv) :: .own 98 4 nv s.notes.length (nts s.notes) :: .blk bs #[sv] :: .blk bi #[.int .i64 j] :: .row p g cap s.L :: .blk q (xcells p cap s nx) :: .own 98 4 nx s.notes.length (nts s.notes) :: [])
/-- How all lies behind the calls. -/
def MD9 (w : World) (m a r : Nat) (p : Option Addr) (g cap q bs bi ba : Nat) (sv : Value) (j : Nat) (s : Rn) (nv nx va vb : Value) (out : List Int) (W : World) : Prop :=
  Has [] w W (.row p g cap s.L :: .blk q (xcells p cap s nx) :: .own 98 4 nx s.notes.length (nts s.notes) :: .own 23 1 vb out.length (u32s out) :: .mem m a s.L :: .blk r (rcells m s nv) :: .own 98 4 nv s.notes.length (nts s.notes) ::
    .blk ba #[va] :: .blk bs #[sv] :: .blk bi #[.int .i64 j] :: .own 23 1 va out.length (u32s out) :: [])
section
variable {w : World} {m a r : Nat} {p : Option Addr} {g cap q bs bi ba : Nat} {sv : Value} {j : Nat} {s : Rn} {nv nx va vb : Value} {out : List Int} {W W' : World}
theorem MD9.grow (h : MD9 w m a r p g cap q bs bi ba sv j s nv nx va vb out W) (t : Touch [] W W') : MD9 w m a r p g cap q bs bi ba sv j s nv nx va vb out W' := Has.grow h t
theorem MD9.drew (h : MD9 w m a r p g cap q bs bi ba sv j s nv nx va vb out W) : MD9 w m a r p g cap q bs bi ba sv j s nv nx va vb out W.drew := Has.drew h
theorem MD9.cells (h : MD9 w m a r p g cap q bs bi ba sv j s nv nx va vb out W) : (r < W.heap.size ∧ (∀ i, W.cell? ⟨r, i, none⟩ = (rcells m s nv)[i]?)) ∧ (q < W.heap.size ∧ (∀ i, W.cell? ⟨q, i, none⟩ = (xcells p cap s nx)[i]?)) ∧ (ba < W.heap.size ∧ W.cell? ⟨ba, 0, none⟩ = some va) :=
  ⟨⟨(Has.at_ h 5 rfl).lt, (Has.at_ h 5 rfl).cell⟩, ⟨(Has.at_ h 1 rfl).lt, (Has.at_ h 1 rfl).cell⟩, (Has.at_ h 7 rfl).lt, (Has.at_ h 7 rfl).cell 0⟩
theorem md_over (h : MD9 w m a r p g cap q bs bi ba sv j s nv nx va vb out W) : Calls Try.prog 20 #[.pointer (some ⟨q, 0, none⟩)] W fun e W' => e = .returned (.bool s.over) ∧ MD9 w m a r p g cap q bs bi ba sv j s nv nx va vb out W' :=
  (x_over h).mono fun e w'' k => ⟨k.1, k.2 ▸ h⟩
theorem md_outs {pa pb : Option Addr} {ca cb : Nat} (h : MD9 w m a r p g cap q bs bi ba sv j s nv nx (.slice pa out.length ca) (.slice pb out.length cb) out W) (hn : out.length ≤ 1048576) :
    Calls Try.prog 21 #[.slice pa out.length ca, .slice pb out.length cb] W fun e W' => e = .returned (.bool true) ∧ MD9 w m a r p g cap q bs bi ba sv j s nv nx (.slice pa out.length ca) (.slice pb out.length cb) out W' := by
  have := same_any (c := ca) (d := cb) W (Rd.own (Has.ownAt h 10 rfl)) (Rd.own (Has.ownAt h 3 rfl)) hn
  simp only [decide_true] at this
  exact this.mono fun e w'' k => ⟨k.1, h.grow k.2⟩
theorem md_notes {pn qn : Option Addr} {c d : Nat} (h : MD9 w m a r p g cap q bs bi ba sv j s (.slice pn s.notes.length c) (.slice qn s.notes.length d) va vb out W) (hn : s.notes.length ≤ 1048576) :
    Calls Try.prog 22 #[.slice pn s.notes.length c, .slice qn s.notes.length d] W fun e W' => e = .returned (.bool true) ∧ MD9 w m a r p g cap q bs bi ba sv j s (.slice pn s.notes.length c) (.slice qn s.notes.length d) va vb out W' :=
  (same_notes W (Rd.own (Has.ownAt h 6 rfl)) (Rd.own (Has.ownAt h 2 rfl)) hn).mono fun e w'' k => ⟨k.1, h.grow k.2⟩
def MDAll (w : World) (m a r : Nat) (p : Option Addr) (g cap q bs bi ba : Nat) (sv : Value) (j : Nat) (s : Rn) (nv nx va vb : Value) (out : List Int) (W : World) (e : Ending) (W' : World) : Prop :=
  ∃ p' cap', e = .returned (.slice p' s.L.length cap') ∧ MD9 w m a r p g cap q bs bi ba sv j s nv nx va vb out W' ∧ Rd W' 1 p' s.L.length (u32s s.L) ∧ Touch [] W W'
theorem md_all (h : MD9 w m a r p g cap q bs bi ba sv j s nv nx va vb out W) : Calls Try.prog 23 #[.pointer (some ⟨m, 0, none⟩)] W (MDAll w m a r p g cap q bs bi ba sv j s nv nx va vb out W) :=
  (all_mem (Has.mem (Has.front h 4 (by simp)))).mono fun e w'' ⟨p', cap', he, ho, t⟩ => ⟨p', cap', he, h.grow t, by
    obtain ⟨g', hR, _⟩ := Row.of_owns ho (Has.row h).words
    exact hR.rd, t⟩
theorem md_same (h : MD9 w m a r p g cap q bs bi ba sv j s nv nx va vb out W) {p' : Option Addr} {cap' : Nat} (hr : Rd W 1 p' s.L.length (u32s s.L)) :
    Calls Try.prog 21 #[.slice p' s.L.length cap', .slice p s.L.length cap] W fun e W' => e = .returned (.bool true) ∧ MD9 w m a r p g cap q bs bi ba sv j s nv nx va vb out W' := by
  have := same_any (c := cap') (d := cap) W hr (Has.row h).rd (by have := (Has.row h).words.1; omega)
  simp only [decide_true] at this
  exact this.mono fun e w'' k => ⟨k.1, h.grow k.2⟩
theorem md_stuck (h : MD9 w m a r p g cap q bs bi ba sv j s nv nx va vb out W) (hn : I64 s.n) : Calls Try.prog 24 #[.agg (rcells m s nv)] W fun e W' => e = .returned (.bool (!s.f.wk.on && stuckA s.L s.n s.mode s.task s.f.st)) ∧ MD9 w m a r p g cap q bs bi ba sv j s nv nx va vb out W' :=
  (run_stuck (Has.front h 4 (by simp)) hn nv).mono fun e w'' k => ⟨k.1, Has.perm k.2 (List.Perm.symm (perm_front [_, _, _, _, _, _, _, _, _, _, _] 4 (by simp)))⟩
theorem md_rstuck (h : MD9 w m a r p g cap q bs bi ba sv j s nv nx va vb out W) : Calls Try.prog 19 #[.slice p s.L.length cap, .int .i64 s.n, .int .i64 s.mode, .int .i64 s.task, .agg #[.int .i64 s.f.st]] W
    fun e W' => e = .returned (.bool (stuckA s.L s.n s.mode s.task s.f.st)) ∧ MD9 w m a r p g cap q bs bi ba sv j s nv nx va vb out W' :=
  (rstuck_any (Has.row h) (Has.cap h).1 (Has.cap h).2 _ _ _ _).mono fun e w'' k => ⟨k.1, h.grow k.2⟩
/-- On to the next round. -/
theorem MD9.next (h : MD9 w m a r p g cap q bs bi ba sv j s nv nx va vb out W) {b2 : Nat} {v : Value} {T : TypeId} (hb : W.heap.size = b2) (hv : v = .int .i64 ((j + 1 : Nat) : Int)) : LS9 w m a r p g cap q bs b2 sv (j + 1) s (W.alloc (.cells #[v] T)) := by
  subst hv
  refine ⟨nv, nx, ?_⟩
  have h1 : Has [] w (W.alloc (.cells #[.int .i64 ((j + 1 : Nat) : Int)] T)) (.blk b2 #[.int .i64 ((j + 1 : Nat) : Int)] :: .row p g cap s.L :: .blk q (xcells p cap s nx) :: .own 98 4 nx s.notes.length (nts s.notes) :: .own 23 1 vb out.length (u32s out) :: .mem m a s.L :: .blk r (rcells m s nv) :: .own 98 4 nv s.notes.length (nts s.notes) ::
    .blk ba #[va] :: .blk bs #[sv] :: .blk bi #[.int .i64 j] :: .own 23 1 va out.length (u32s out) :: []) := Has.new h hb _ T
  have h2 := (((h1.front 9 (by simp)).front 8 (by simp)).front 8 (by simp)).front 8 (by simp)
  exact Has.pre [_, _, _, _, _, _, _, _] [_, _, _, _] h2
end
theorem wpList_load_want {P : Program} {ops : Array Oper} {rest : List Oper} {op : Oper} {a : Act} {w : World} {Q : Exit → Act → World → Prop} (hw : Region.wanted op (yielded ops a.tmps) = true) (ty : TypeId) (x : Operand) (ho : op.op = .load ty x)
    (b o : Nat) (hx : a.eval x = .pointer (some ⟨b, o, none⟩)) (cs : List Value) (d : TypeDesc) (hc : w.rangeAt b o cs)
    (hu : P.underlying ty = some d) (hd : d.isRow = true) (hi : (P.info? ty).map (·.size) = some cs.length)
    (h : wpList P ops Q rest (a.put op.dst (.agg cs.toArray)) w) : wpList P ops Q (op :: rest) a w := by
  unfold wpList
  rw [if_pos hw]
  exact .inl (wp_load_mid ty x ho b o hx cs d hc hu hd hi h)
theorem call9_same (o : Op9) (s : Rn) : (call9 o s).2.n = s.n ∧ (call9 o s).2.mode = s.mode ∧ (call9 o s).2.task = s.task := by
  unfold call9
  repeat' split
  all_goals exact ⟨rfl, rfl, rfl⟩
theorem calls9_same : ∀ (l : List Op9) (s : Rn), (calls9 l s).2.n = s.n ∧ (calls9 l s).2.mode = s.mode ∧ (calls9 l s).2.task = s.task
  | [], s => ⟨rfl, rfl, rfl⟩
  | o :: l, s => by
    have h1 := calls9_same l (call9 o s).2
    have h2 := call9_same o s
    exact ⟨h1.1.trans h2.1, h1.2.1.trans h2.2.1, h1.2.2.trans h2.2.2⟩
theorem st9_same (l : List Op9) (s : Rn) : (st9 l s).n = s.n ∧ (st9 l s).mode = s.mode ∧ (st9 l s).task = s.task := by
  unfold st9
  split
  · exact ⟨rfl, rfl, rfl⟩
  · exact calls9_same l s.fresh
theorem ou9_len {l : List Op9} {s : Rn} (h10 : l.length ≤ 10) : (ou9 l s).length ≤ 30 := by
  unfold ou9
  split
  · simp
  · rw [calls9_len]; omega
theorem lists_at2 {w : World} {b off k i : Nat} {ls : List (Value × List Op9)} (h : Rd w 1 (some ⟨b, off, none⟩) k (ls.map Prod.fst)) (hl : ls.length = k) (hi : i < k) :
    b < w.heap.size ∧ w.cell? ⟨b, off + i, none⟩ = some (ls[i]'(by omega)).1 := by
  obtain ⟨b', off', he, h1, h2⟩ := lists_at h hl hi
  simp only [Option.some.injEq, Addr.mk.injEq] at he
  obtain ⟨rfl, rfl, _⟩ := he
  exact ⟨h1, h2⟩
theorem step9 {w W : World} {m a r ba bs bi : Nat} {rs : List Res} {s : Rn} {A : Option Addr} {k c i : Nat} {ls : List (Value × List Op9)} {l : List Op9}
    (H : RunHas [] w m a r (.blk ba #[.slice none 0 0] :: .blk bs #[.slice A k c] :: .blk bi #[.int .i64 i] :: rs) s W) (hA : Rd w 1 A k (ls.map Prod.fst)) (hl : ls.length = k) (hi : i < k) (hI : Inner w Op9.cells Op9Ok 8 (ls[i]'(by omega))) (he : (ls[i]'(by omega)).2 = l) (h10 : l.length ≤ 10) (hok : s.ok) :
    Calls Try.prog 14 #[.pointer (some ⟨r, 0, none⟩), .func (.func 15) #[] #[.pointer (some ⟨bs, 0, none⟩), .pointer (some ⟨bi, 0, none⟩), .pointer (some ⟨ba, 0, none⟩)]] W fun e W' => e = .returned (.bool (st9 l s).over) ∧
      ∃ va, RunHas [] w m a r (.blk ba #[va] :: .blk bs #[.slice A k c] :: .blk bi #[.int .i64 i] :: .own 23 1 va (ou9 l s).length (u32s (ou9 l s)) :: rs) (st9 l s) W' := by
  subst he
  cases hon : s.f.wk.on with
  | true =>
    have e1 : st9 (ls[i]'(by omega)).2 s = s.woke := by unfold st9; rw [hon]; rfl
    have e2 : ou9 (ls[i]'(by omega)).2 s = [] := by unfold ou9; rw [hon]; rfl
    rw [e1, e2]
    refine (run_step_wake H hon hok.1 _).mono fun e W' h => ⟨h.1, .slice none 0 0, ?_⟩
    obtain ⟨nv, h⟩ := h.2
    exact ⟨nv, Has.perm (h.ownNil 23 1) (List.perm_middle (l₁ := [_, _, _, _, _, _])).symm⟩
  | false =>
    have e1 : st9 (ls[i]'(by omega)).2 s = (calls9 (ls[i]'(by omega)).2 s.fresh).2 := by unfold st9; rw [hon]; rfl
    have e2 : ou9 (ls[i]'(by omega)).2 s = (calls9 (ls[i]'(by omega)).2 s.fresh).1 := by unfold ou9; rw [hon]; rfl
    rw [e1, e2]
    exact run_step_some (rs2 := fun va => .blk ba #[va] :: .blk bs #[.slice A k c] :: .blk bi #[.int .i64 i] :: .own 23 1 va (calls9 (ls[i]'(by omega)).2 s.fresh).1.length (u32s (calls9 (ls[i]'(by omega)).2 s.fresh).1) :: rs) H hon 15 #[] _
      (enters_of Try.func15 (by kernel_rfl) rfl) (fun W HW => closure9 HW hA hl hi hI h10 hok.1 (by simp [Rn.fresh]))
/-- The count, as it lies. -/
def cnt9 (v : Value) (W : World) : Nat := match v with
  | .pointer (some a) => (match W.cell? a with | some x => (intOf x).toNat | none => 0)
  | _ => 0
theorem LS9.count {w : World} {m a r : Nat} {p : Option Addr} {g cap q bs bi : Nat} {sv : Value} {j : Nat} {s : Rn} {W : World} (h : LS9 w m a r p g cap q bs bi sv j s W) : cnt9 (.pointer (some ⟨bi, 0, none⟩)) W = j := by
  obtain ⟨nv, nx, h⟩ := h
  have := (Has.at_ h 4 rfl).cell 0
  unfold cnt9
  simp only [this]
  simp [intOf]
theorem LS9.start {w W : World} {m a r q bs bi b0 : Nat} {p : Option Addr} {g cap : Nat} {sv nv : Value} {s : Rn} {c0 : Array Value} (hn : s.notes = []) (h : Has [] w W (.blk bi #[.int .i64 0] :: .blk q (xcells p cap s (.slice none 0 0)) :: .row p g cap s.L :: .mem m a s.L :: .blk r (rcells m s nv) :: .own 98 4 nv 0 [] :: .blk bs #[sv] :: .blk b0 c0 :: [])) :
    LS9 w m a r p g cap q bs bi sv 0 s W := by
  refine ⟨nv, .slice none 0 0, ?_⟩
  rw [hn]
  have h2 := h.ownNil 98 4
  have h3 := (((((((h2.front 2 (by simp)).front 3 (by simp)).front 3 (by simp)).front 7 (by simp)).front 7 (by simp)).front 7 (by simp)).front 7 (by simp))
  exact Has.pre [_, _, _, _, _, _, _, _] [_] h3
/-- The run's state behind so many steps. -/
def run9 (ls : List (Value × List Op9)) (s : Rn) : Nat → Rn
  | 0 => s
  | j + 1 => st9 ((ls.getD j (.slice none 0 0, [])).2) (run9 ls s j)

set_option maxHeartbeats 6400000 in
set_option maxRecDepth 100000 in
theorem lineSteps_some {A A2 : Option Addr} {ln cp k c2 : Nat} {L : List Int} {ls : List (Value × List Op9)} (w : World) (hr : Rd w 1 A ln (u32s L)) (hw : Words L) (n mode task : Int) (f : Fr) (hn : I64 n) (ha : 0 ≤ f.a ∧ f.a < 4294967296) (hb : 0 ≤ f.b ∧ f.b < 4294967296)
    (hA : Rd w 1 A2 k (ls.map Prod.fst)) (hl : ls.length = k) (hk : k ≤ 20) (hI : ∀ x, x ∈ ls → Inner w Op9.cells Op9Ok 8 x) :
    Calls Try.prog 3 #[.slice A ln cp, .int .i64 n, .int .i64 mode, .int .i64 task, .agg (Fr.cells f), .slice A2 k c2] w fun e w' => e = .returned (.bool true) ∧ Touch [] w w' := by
  have hll := len_of_rd hr
  subst hll
  have h1024 := hw.1
  have i1 : ¬ ((1024 : Int) < (L.length : Int)) := by omega
  have i2 : ¬ ((20 : Int) < (k : Int)) := by omega
  obtain ⟨op, line, fa, fb, st, ⟨on, wc, wi, hit⟩, ret⟩ := f
  simp only [Fr.cells] at *
  have HW := Lib.hid hw
  have HS0 := Lib.hid (show (stepStart n mode task ⟨op, line, fa, fb, st, ⟨on, wc, wi, hit⟩, ret⟩ L).ok from ⟨hn, ha, hb⟩)
  have HA2 := Lib.hid hA
  have HL2 := Lib.hid hl
  have HI := Lib.hid hI
  clear hw hn ha hb hA hl hI
  go_enter Try.func3, Try.ntmps3
  go_wp2_with fail
  refine (from_has ((Has.start [] w).new2) (hr.touch (((Touch.refl [] _).alloc _).alloc _) (by simp)) HW.out).mono ?_
  rintro e w1 ⟨m, a, rfl, H1⟩
  obtain ⟨k0, k1, k2⟩ := H1.blk1.own
  obtain ⟨k3, k4, k5⟩ := H1.blk2.own
  go_wp2_with fail
  refine wp_from (Facts := fun W => RunHas [] w m a w1.heap.size (.blk (w.heap.size + 1) #[.slice A2 k c2] :: .blk w.heap.size #[.int .i64 op, .int .i64 line, .int .u32 fa, .int .u32 fb, .int .i64 st, .bool on, .int .i64 wc, .int .i64 wi, .bool hit, .int .i64 ret] :: []) (stepStart n mode task ⟨op, line, fa, fb, st, ⟨on, wc, wi, hit⟩, ret⟩ L) W) ?_ (RunHas.fresh_ (stepStart n mode task ⟨op, line, fa, fb, st, ⟨on, wc, wi, hit⟩, ret⟩ L) H1 rfl 43)
  clear k0 k1 k2 k3 k4 k5 H1
  intro W HR
  generalize w.heap.size + 1 = bs at HR ⊢
  generalize w.heap.size = b0 at HR ⊢
  generalize w1.heap.size = r at HR ⊢
  obtain ⟨nv, HR⟩ := HR
  have HR : Has [] w W (.mem m a L :: .blk r (rcells m (stepStart n mode task ⟨op, line, fa, fb, st, ⟨on, wc, wi, hit⟩, ret⟩ L) nv) :: .own 98 4 nv 0 [] :: .blk bs #[.slice A2 k c2] :: .blk b0 #[.int .i64 op, .int .i64 line, .int .u32 fa, .int .u32 fb, .int .i64 st, .bool on, .int .i64 wc, .int .i64 wi, .bool hit, .int .i64 ret] :: []) := HR
  have HRD := Lib.hid hr
  clear hr
  have hk : ∀ w', Has [] w w' (.mem m a L :: .blk r (rcells m (stepStart n mode task ⟨op, line, fa, fb, st, ⟨on, wc, wi, hit⟩, ret⟩ L) nv) :: .own 98 4 nv 0 [] :: .blk bs #[.slice A2 k c2] :: .blk b0 #[.int .i64 op, .int .i64 line, .int .u32 fa, .int .u32 fb, .int .i64 st, .bool on, .int .i64 wc, .int .i64 wi, .bool hit, .int .i64 ret] :: []) → Has [] w w' (.mem m a L :: .blk r (rcells m (stepStart n mode task ⟨op, line, fa, fb, st, ⟨on, wc, wi, hit⟩, ret⟩ L) nv) :: .own 98 4 nv 0 [] :: .blk bs #[.slice A2 k c2] :: .blk b0 #[.int .i64 op, .int .i64 line, .int .u32 fa, .int .u32 fb, .int .i64 st, .bool on, .int .i64 wc, .int .i64 wi, .bool hit, .int .i64 ret] :: []) ∧ (∀ i, w'.cell? ⟨b0, i, none⟩ = #[.int .i64 op, .int .i64 line, .int .u32 fa, .int .u32 fb, .int .i64 st, .bool on, .int .i64 wc, .int .i64 wi, .bool hit, .int .i64 ret][i]?) := fun w' h => ⟨h, (Has.at_ h 4 rfl).cell⟩
  have hcopy : ∀ w', Has [] w w' (.mem m a L :: .blk r (rcells m (stepStart n mode task ⟨op, line, fa, fb, st, ⟨on, wc, wi, hit⟩, ret⟩ L) nv) :: .own 98 4 nv 0 [] :: .blk bs #[.slice A2 k c2] :: .blk b0 #[.int .i64 op, .int .i64 line, .int .u32 fa, .int .u32 fb, .int .i64 st, .bool on, .int .i64 wc, .int .i64 wi, .bool hit, .int .i64 ret] :: []) → Calls Try.prog 13 #[.slice A L.length cp] w' (HasRow [] w L (.mem m a L :: .blk r (rcells m (stepStart n mode task ⟨op, line, fa, fb, st, ⟨on, wc, wi, hit⟩, ret⟩ L) nv) :: .own 98 4 nv 0 [] :: .blk bs #[.slice A2 k c2] :: .blk b0 #[.int .i64 op, .int .i64 line, .int .u32 fa, .int .u32 fb, .int .i64 st, .bool on, .int .i64 wc, .int .i64 wi, .bool hit, .int .i64 ret] :: [])) := fun w' h => copy_has h (HRD.out.touch h.touch (by simp)) HW.out
  go_region_held3 (fun w' => Has [] w w' (.mem m a L :: .blk r (rcells m (stepStart n mode task ⟨op, line, fa, fb, st, ⟨on, wc, wi, hit⟩, ret⟩ L) nv) :: .own 98 4 nv 0 [] :: .blk bs #[.slice A2 k c2] :: .blk b0 #[.int .i64 op, .int .i64 line, .int .u32 fa, .int .u32 fb, .int .i64 st, .bool on, .int .i64 wc, .int .i64 wi, .bool hit, .int .i64 ret] :: []) ∧ (∀ i, w'.cell? ⟨b0, i, none⟩ = #[.int .i64 op, .int .i64 line, .int .u32 fa, .int .u32 fb, .int .i64 st, .bool on, .int .i64 wc, .int .i64 wi, .bool hit, .int .i64 ret][i]?))
    (first | (go_split_ands; refine hk _ ?_; first | assumption | exact HR.drew | exact Has.tail (by assumption) | exact (Has.tail (by assumption)).grow ((Touch.refl [] _).alloc _)))
    (first | (go_at_call 13; refine (hcopy _ (by go_split_ands; first | assumption | exact HR.drew)).mono ?_; rintro e w2 ⟨p, g, cap, rfl, H2⟩))
  all_goals
    go_wp2_with fail
    refine wp_from (Facts := fun W => LS9 w m a r p g cap w2.heap.size bs (w2.heap.size + 1) (.slice A2 k c2) 0 (stepStart n mode task ⟨op, line, fa, fb, st, ⟨on, wc, wi, hit⟩, ret⟩ L) W) ?_ (LS9.start rfl (by first | exact H2.new2 | exact (H2.new2).set 0 _))
    clear HR hk hcopy H2
    intro W3 HL
    generalize w2.heap.size + 1 = bi0 at HL ⊢
    generalize w2.heap.size = q at HL ⊢
    have HSM := Lib.hid (show (stepStart n mode task ⟨op, line, fa, fb, st, ⟨on, wc, wi, hit⟩, ret⟩ L).n = n ∧ (stepStart n mode task ⟨op, line, fa, fb, st, ⟨on, wc, wi, hit⟩, ret⟩ L).mode = mode ∧ (stepStart n mode task ⟨op, line, fa, fb, st, ⟨on, wc, wi, hit⟩, ret⟩ L).task = task from ⟨rfl, rfl, rfl⟩)
    generalize hs0 : (stepStart n mode task ⟨op, line, fa, fb, st, ⟨on, wc, wi, hit⟩, ret⟩ L) = s0 at HL HS0 HSM
    clear hs0
    have HLH := Lib.hid HL
    clear HL
    go_loopw [17] (fun v W => ∃ j bi : Nat, j ≤ k ∧ v = .pointer (some ⟨bi, 0, none⟩) ∧ ((run9 ls s0 j).ok ∧ (run9 ls s0 j).n = n ∧ (run9 ls s0 j).mode = mode ∧ (run9 ls s0 j).task = task) ∧ LS9 w m a r p g cap q bs bi (.slice A2 k c2) j (run9 ls s0 j) W) (fun v W => k - cnt9 v W)
    case atStart => exact ⟨0, bi0, Nat.zero_le _, rfl, ⟨HS0.out, HSM.out⟩, HLH.out⟩
    case round =>
      obtain ⟨j, bi, hj, rfl, hok, hLS⟩ := hrel
      have HCN := Lib.hid hLS.count
      have HOK := Lib.hid hok
      clear HLH hok
      have hrun : run9 ls s0 (j + 1) = st9 ((ls.getD j (.slice none 0 0, [])).2) (run9 ls s0 j) := rfl
      have HRUN := Lib.hid hrun
      clear hrun
      generalize run9 ls s0 j = s at *
      obtain ⟨nv2, nx2, HX⟩ := hLS
      obtain ⟨y0, y1, y2⟩ := (Has.at_ HX 3 rfl).own
      obtain ⟨z0, z1, z2⟩ := (Has.at_ HX 4 rfl).own
      have hi1 : (0 : Int) ≤ (j : Int) := Int.natCast_nonneg _
      by_cases hjk : j < k
      · have hi2 : (j : Int) < (k : Int) := by omega
        have hin := HI.out _ (List.getElem_mem (show j < ls.length by rw [HL2.out]; exact hjk))
        have hgd : ls.getD j (.slice none 0 0, []) = ls[j]'(by rw [HL2.out]; exact hjk) := by simp [List.getD, HL2.out, hjk]
        rw [hgd] at HRUN
        obtain ⟨b, off, hA2, hb, hcl⟩ := lists_at (HA2.out.touch HX.touch (by simp)) HL2.out hjk
        have hin2 := hin
        obtain ⟨hoks, B, d, hv, hd1, hd2, hrd⟩ := hin
        rw [hv] at hcl
        have HIN := Lib.hid hin2
        have HHX := Lib.hid HX
        clear HX hin2
        subst hA2
        by_cases h10 : (ls[j]'(by rw [HL2.out]; exact hjk)).2.length ≤ 10
        · have i10 : ¬ ((10 : Int) < ((ls[j]'(by rw [HL2.out]; exact hjk)).2.length : Int)) := by omega
          go_wp2_with fail
          refine calls_from (Facts := fun W => RunHas [] w m a r (.blk wr.heap.size #[.slice none 0 0] :: .blk bs #[.slice (some ⟨b, off, none⟩) k c2] :: .blk bi #[.int .i64 j] :: .row p g cap s.L :: .blk q (xcells p cap s nx2) :: .own 98 4 nx2 s.notes.length (nts s.notes) :: []) s W) ?_ ⟨nv2, Has.al31 HHX.out⟩
          clear y0 y1 y2 z0 z1 z2 hb hcl
          intro W4 H4
          generalize wr.heap.size = ba at H4 ⊢
          generalize hl : (ls[j]'(by rw [HL2.out]; exact hjk)).2 = l at *
          refine (step9 H4 HA2.out HL2.out hjk HIN.out hl h10 HOK.out.1).mono ?_
          rintro e w5 ⟨rfl, va0, nv5, H5⟩
          have HX5 := Lib.hid (show XHas [] w p g cap q (.mem m a (st9 l s).L :: .blk r (rcells m (st9 l s) nv5) :: .own 98 4 nv5 (st9 l s).notes.length (nts (st9 l s).notes) :: .blk ba #[va0] :: .blk bs #[.slice (some ⟨b, off, none⟩) k c2] :: .blk bi #[.int .i64 j] :: .own 23 1 va0 (ou9 l s).length (u32s (ou9 l s)) :: []) s w5 from ⟨nx2, ((Has.front H5 9 (by simp)).front 9 (by simp)).front 9 (by simp)⟩)
          clear H5 H4
          go_wp2_with fail
          cases hon : s.f.wk.on with
          | true =>
            refine (xn_waking_on HX5.out hon).mono ?_
            rintro e w6 ⟨rfl, H6⟩
            have e1 : st9 l s = s.woke := by unfold st9; rw [hon]; rfl
            have e2 : ou9 l s = [] := by unfold ou9; rw [hon]; rfl
            rw [← e1] at H6
            obtain ⟨nx6, H6⟩ := H6
            have HMH : Hid (∃ nv5 nx5 va, MD9 w m a r p g cap q bs bi ba (.slice (some ⟨b, off, none⟩) k c2) j (st9 l s) nv5 nx5 va (.slice none 0 0) [] w6) := Lib.hid (by
              rw [e2] at H6
              exact ⟨_, nx6, _, Has.perm (H6.ownNil 23 1) (List.perm_middle (l₁ := [_, _, _])).symm⟩)
            clear H6 e1 e2 hon HX5
            go_wp2_with fail
            refine wp_from (Facts := fun W => ∃ nv5 nx5 va, MD9 w m a r p g cap q bs bi ba (.slice (some ⟨b, off, none⟩) k c2) j (st9 l s) nv5 nx5 va (.slice none 0 0) [] W) ?_ HMH.out
            clear HMH
            intro W7 HMD
            obtain ⟨nv5, nx5, va, H9⟩ := HMD
            have hso := st9_notes (l := l) (s := s) h10
            have hou : ([] : List Int).length ≤ 30 := by decide
            have hsok := st9_ok (l := l) (s := s) hoks HOK.out.1
            have hssm := st9_same l s
            rw [HOK.out.2.1, HOK.out.2.2.1, HOK.out.2.2.2] at hssm
            skip
            generalize st9 l s = s1 at H9 hso hsok hssm HRUN ⊢
            obtain ⟨pn, cn, rfl⟩ := owns_slice (Has.ownAt H9 6 rfl)
            obtain ⟨qn, dn, rfl⟩ := owns_slice (Has.ownAt H9 2 rfl)
            obtain ⟨pa, ca, rfl⟩ := owns_slice (Has.ownAt H9 10 rfl)
            obtain ⟨ob, hob⟩ : ∃ ob, s1.over = ob := ⟨_, rfl⟩
            rw [hob]
            obtain ⟨n', mode', task', ⟨op', line', fa', fb', st', ⟨on', wc', wi', hit'⟩, ret'⟩, ⟨ak, ac, ax, ay, ao⟩, notes', L'⟩ := s1
            obtain ⟨q1, q2, q3⟩ := hssm
            simp only at q1 q2 q3
            subst q1 q2 q3
            have hrs := fun W (H : MD9 w m a r p g cap q bs bi ba (.slice (some ⟨b, off, none⟩) k c2) j ⟨n', mode', task', ⟨op', line', fa', fb', st', ⟨on', wc', wi', hit'⟩, ret'⟩, ⟨ak, ac, ax, ay, ao⟩, notes', L'⟩ (.slice pn notes'.length cn) (.slice qn notes'.length dn) (.slice pa ([] : List Int).length ca) (.slice none 0 0) [] W) => md_rstuck H
            have hss := fun W (H : MD9 w m a r p g cap q bs bi ba (.slice (some ⟨b, off, none⟩) k c2) j ⟨n', mode', task', ⟨op', line', fa', fb', st', ⟨on', wc', wi', hit'⟩, ret'⟩, ⟨ak, ac, ax, ay, ao⟩, notes', L'⟩ (.slice pn notes'.length cn) (.slice qn notes'.length dn) (.slice pa ([] : List Int).length ca) (.slice none 0 0) [] W) => md_stuck H hsok.1
            simp only at hrs hss
            generalize stuckA L' n' mode' task' st' = sb at hrs hss
            simp only [rcells] at hss
            have HRS := Lib.hid hrs
            have HSS := Lib.hid hss
            have HSO := Lib.hid hso
            have HOU := Lib.hid hou
            have HSOK := Lib.hid hsok
            have HOB := Lib.hid hob
            clear hrs hss hso hou hsok hob
            cases on' with
            | true =>
              have HK0 := Lib.hid H9.drew
              obtain ⟨⟨zr0, (zr1 : ∀ i, World.cell? _ ⟨r, i, none⟩ = (#[.pointer (some ⟨m, 0, none⟩), .int .i64 n', .int .i64 mode', .int .i64 task', .int .i64 op', .int .i64 line', .int .u32 fa', .int .u32 fb', .int .i64 st', .bool true, .int .i64 wc', .int .i64 wi', .bool hit', .int .i64 ret', .int .i64 ak, .int .i64 ac, .int .u32 ax, .int .u32 ay, .int .u32 ao, (.slice pn notes'.length cn)] : Array Value)[i]?)⟩, ⟨zx0, (zx1 : ∀ i, World.cell? _ ⟨q, i, none⟩ = (#[.slice p L'.length cap, .int .i64 n', .int .i64 mode', .int .i64 task', .int .i64 op', .int .i64 line', .int .u32 fa', .int .u32 fb', .int .i64 st', .bool true, .int .i64 wc', .int .i64 wi', .bool hit', .int .i64 ret', .int .i64 ak, .int .i64 ac, .int .u32 ax, .int .u32 ay, .int .u32 ao, (.slice qn notes'.length dn)] : Array Value)[i]?)⟩, za0, za1⟩ := MD9.cells H9.drew
              clear H9
              refine region_flat (by kernel_rfl) (by kernel_rfl) ?_
              simp only [probed, probes, List.nil_append]
              go_wp2_with fail
              rw [only_normal]
              rename_i hK
              refine hK _ _ ?_
              clear hK zr0 zr1 zx0 zx1 za0 za1
              refine wp_from (Facts := fun W => MD9 w m a r p g cap q bs bi ba (.slice (some ⟨b, off, none⟩) k c2) j ⟨n', mode', task', ⟨op', line', fa', fb', st', ⟨true, wc', wi', hit'⟩, ret'⟩, ⟨ak, ac, ax, ay, ao⟩, notes', L'⟩ (.slice pn notes'.length cn) (.slice qn notes'.length dn) (.slice pa ([] : List Int).length ca) (.slice none 0 0) [] W) ?_ (by first | exact HK0.out | exact (HK0.out).drew)
              intro W9 H9h0
              have H9h := Lib.hid H9h0
              clear H9h0
              go_wp2_with fail
              have H9 := H9h.out
              clear H9h HK0
              refine region_moved 46 4 rfl (by kernel_rfl) (by kernel_rfl) ?_
              simp only [List.take_succ_cons, List.take_zero, List.drop_succ_cons, List.drop_zero, List.cons_append, List.nil_append]
              have HK := Lib.hid H9.drew
              obtain ⟨⟨zr0, (zr1 : ∀ i, World.cell? _ ⟨r, i, none⟩ = (#[.pointer (some ⟨m, 0, none⟩), .int .i64 n', .int .i64 mode', .int .i64 task', .int .i64 op', .int .i64 line', .int .u32 fa', .int .u32 fb', .int .i64 st', .bool true, .int .i64 wc', .int .i64 wi', .bool hit', .int .i64 ret', .int .i64 ak, .int .i64 ac, .int .u32 ax, .int .u32 ay, .int .u32 ao, (.slice pn notes'.length cn)] : Array Value)[i]?)⟩, ⟨zx0, (zx1 : ∀ i, World.cell? _ ⟨q, i, none⟩ = (#[.slice p L'.length cap, .int .i64 n', .int .i64 mode', .int .i64 task', .int .i64 op', .int .i64 line', .int .u32 fa', .int .u32 fb', .int .i64 st', .bool true, .int .i64 wc', .int .i64 wi', .bool hit', .int .i64 ret', .int .i64 ak, .int .i64 ac, .int .u32 ax, .int .u32 ay, .int .u32 ao, (.slice qn notes'.length dn)] : Array Value)[i]?)⟩, za0, za1⟩ := MD9.cells H9.drew
              clear H9
              go_wp2_with fail
              refine (md_over HK.out).mono ?_
              rintro e w10 ⟨rfl, H10⟩
              obtain ⟨⟨ar0, (ar1 : ∀ i, World.cell? _ ⟨r, i, none⟩ = (#[.pointer (some ⟨m, 0, none⟩), .int .i64 n', .int .i64 mode', .int .i64 task', .int .i64 op', .int .i64 line', .int .u32 fa', .int .u32 fb', .int .i64 st', .bool true, .int .i64 wc', .int .i64 wi', .bool hit', .int .i64 ret', .int .i64 ak, .int .i64 ac, .int .u32 ax, .int .u32 ay, .int .u32 ao, (.slice pn notes'.length cn)] : Array Value)[i]?)⟩, ⟨ax0, (ax1 : ∀ i, World.cell? _ ⟨q, i, none⟩ = (#[.slice p L'.length cap, .int .i64 n', .int .i64 mode', .int .i64 task', .int .i64 op', .int .i64 line', .int .u32 fa', .int .u32 fb', .int .i64 st', .bool true, .int .i64 wc', .int .i64 wi', .bool hit', .int .i64 ret', .int .i64 ak, .int .i64 ac, .int .u32 ax, .int .u32 ay, .int .u32 ao, (.slice qn notes'.length dn)] : Array Value)[i]?)⟩, aa0, aa1⟩ := MD9.cells H10
              have HK2 := Lib.hid H10
              clear H10 zr0 zr1 zx0 zx1 za0 za1
              rw [HOB.out]
              have hob2 : (ob != ob) = false := by simp
              have hsb2 : (sb != sb) = false := by simp
              go_wp2_with fail
              refine (md_outs HK2.out (by have := HOU.out; omega)).mono ?_
              rintro e w11 ⟨rfl, H11⟩
              obtain ⟨⟨br0, (br1 : ∀ i, World.cell? _ ⟨r, i, none⟩ = (#[.pointer (some ⟨m, 0, none⟩), .int .i64 n', .int .i64 mode', .int .i64 task', .int .i64 op', .int .i64 line', .int .u32 fa', .int .u32 fb', .int .i64 st', .bool true, .int .i64 wc', .int .i64 wi', .bool hit', .int .i64 ret', .int .i64 ak, .int .i64 ac, .int .u32 ax, .int .u32 ay, .int .u32 ao, (.slice pn notes'.length cn)] : Array Value)[i]?)⟩, ⟨bx0, (bx1 : ∀ i, World.cell? _ ⟨q, i, none⟩ = (#[.slice p L'.length cap, .int .i64 n', .int .i64 mode', .int .i64 task', .int .i64 op', .int .i64 line', .int .u32 fa', .int .u32 fb', .int .i64 st', .bool true, .int .i64 wc', .int .i64 wi', .bool hit', .int .i64 ret', .int .i64 ak, .int .i64 ac, .int .u32 ax, .int .u32 ay, .int .u32 ao, (.slice qn notes'.length dn)] : Array Value)[i]?)⟩, ba0, ba1⟩ := MD9.cells H11
              have HK3 := Lib.hid H11
              clear H11 ar0 ar1 ax0 ax1 aa0 aa1
              go_wp2_with fail
              refine (md_notes HK3.out (by have := HSO.out; simp only at this ⊢; omega)).mono ?_
              rintro e w12 ⟨rfl, H12⟩
              obtain ⟨⟨cr0, (cr1 : ∀ i, World.cell? _ ⟨r, i, none⟩ = (#[.pointer (some ⟨m, 0, none⟩), .int .i64 n', .int .i64 mode', .int .i64 task', .int .i64 op', .int .i64 line', .int .u32 fa', .int .u32 fb', .int .i64 st', .bool true, .int .i64 wc', .int .i64 wi', .bool hit', .int .i64 ret', .int .i64 ak, .int .i64 ac, .int .u32 ax, .int .u32 ay, .int .u32 ao, (.slice pn notes'.length cn)] : Array Value)[i]?)⟩, ⟨cx0, (cx1 : ∀ i, World.cell? _ ⟨q, i, none⟩ = (#[.slice p L'.length cap, .int .i64 n', .int .i64 mode', .int .i64 task', .int .i64 op', .int .i64 line', .int .u32 fa', .int .u32 fb', .int .i64 st', .bool true, .int .i64 wc', .int .i64 wi', .bool hit', .int .i64 ret', .int .i64 ak, .int .i64 ac, .int .u32 ax, .int .u32 ay, .int .u32 ao, (.slice qn notes'.length dn)] : Array Value)[i]?)⟩, ca0, ca1⟩ := MD9.cells H12
              have HK4 := Lib.hid H12
              clear H12 br0 br1 bx0 bx1 ba0 ba1
              go_wp2_with fail
              rw [only_normal]
              refine callK_static rfl rfl (enters_of Try.func23 (by kernel_rfl) rfl) (by simp [Act.eval]) (fun W tW => (md_all (HK4.out.grow tW)).mono ?_)
              rintro e w13 ⟨p', cap', rfl, H13, hrd13, t13⟩
              refine ⟨_, rfl, t13, ?_⟩
              obtain ⟨⟨dr0, (dr1 : ∀ i, World.cell? _ ⟨r, i, none⟩ = (#[.pointer (some ⟨m, 0, none⟩), .int .i64 n', .int .i64 mode', .int .i64 task', .int .i64 op', .int .i64 line', .int .u32 fa', .int .u32 fb', .int .i64 st', .bool true, .int .i64 wc', .int .i64 wi', .bool hit', .int .i64 ret', .int .i64 ak, .int .i64 ac, .int .u32 ax, .int .u32 ay, .int .u32 ao, (.slice pn notes'.length cn)] : Array Value)[i]?)⟩, ⟨dx0, (dx1 : ∀ i, World.cell? _ ⟨q, i, none⟩ = (#[.slice p L'.length cap, .int .i64 n', .int .i64 mode', .int .i64 task', .int .i64 op', .int .i64 line', .int .u32 fa', .int .u32 fb', .int .i64 st', .bool true, .int .i64 wc', .int .i64 wi', .bool hit', .int .i64 ret', .int .i64 ak, .int .i64 ac, .int .u32 ax, .int .u32 ay, .int .u32 ao, (.slice qn notes'.length dn)] : Array Value)[i]?)⟩, da0, da1⟩ := MD9.cells H13
              have HK5 := Lib.hid H13
              have HRD5 := Lib.hid hrd13
              clear H13 hrd13 t13 cr0 cr1 cx0 cx1 ca0 ca1
              go_wp2_with fail
              refine (md_same HK5.out HRD5.out).mono ?_
              rintro e w14 ⟨rfl, H14⟩
              obtain ⟨⟨er0, (er1 : ∀ i, World.cell? _ ⟨r, i, none⟩ = (#[.pointer (some ⟨m, 0, none⟩), .int .i64 n', .int .i64 mode', .int .i64 task', .int .i64 op', .int .i64 line', .int .u32 fa', .int .u32 fb', .int .i64 st', .bool true, .int .i64 wc', .int .i64 wi', .bool hit', .int .i64 ret', .int .i64 ak, .int .i64 ac, .int .u32 ax, .int .u32 ay, .int .u32 ao, (.slice pn notes'.length cn)] : Array Value)[i]?)⟩, ⟨ex0, (ex1 : ∀ i, World.cell? _ ⟨q, i, none⟩ = (#[.slice p L'.length cap, .int .i64 n', .int .i64 mode', .int .i64 task', .int .i64 op', .int .i64 line', .int .u32 fa', .int .u32 fb', .int .i64 st', .bool true, .int .i64 wc', .int .i64 wi', .bool hit', .int .i64 ret', .int .i64 ak, .int .i64 ac, .int .u32 ax, .int .u32 ay, .int .u32 ao, (.slice qn notes'.length dn)] : Array Value)[i]?)⟩, ea0, ea1⟩ := MD9.cells H14
              have HK6 := Lib.hid H14
              clear H14 dr0 dr1 dx0 dx1 da0 da1
              have HLD := Lib.hid (rangeAt_list er1)
              clear er0 er1 ex0 ex1 ea0 ea1
              go_wp2_with (refine wpList_load_want (by first | rfl | kernel_rfl) 43 (.tmp 157) rfl r 0 (by first | rfl | kernel_rfl) _ _ HLD.out Try.underlying43 rfl (by kernel_rfl) ?_)
              have hss2 := HSS.out _ HK6.out
              simp only [Bool.not_true, Bool.not_false, Bool.true_and, Bool.false_and] at hss2
              refine hss2.mono ?_
              clear hss2
              rintro e w15 ⟨rfl, H15⟩
              obtain ⟨u0, u1, u2⟩ := (Has.at_ H15 9 rfl).own
              have HK7 := Lib.hid H15
              clear H15 HLD
              go_wp2_with fail
              rw [only_normal]
              go_wp2_with fail
              refine ⟨⟨j + 1, w15.heap.size, by omega, rfl, ⟨?_, ?_⟩, ?_⟩, ?_⟩
              · rw [HRUN.out]; exact HSOK.out
              · rw [HRUN.out]; exact ⟨rfl, rfl, rfl⟩
              · rw [HRUN.out]; exact MD9.next HK7.out rfl (by simp)
              · rw [LS9.count (MD9.next HK7.out rfl (by simp)), HCN.out]; omega
            | false =>
              have HK0 := Lib.hid H9.drew
              obtain ⟨⟨zr0, (zr1 : ∀ i, World.cell? _ ⟨r, i, none⟩ = (#[.pointer (some ⟨m, 0, none⟩), .int .i64 n', .int .i64 mode', .int .i64 task', .int .i64 op', .int .i64 line', .int .u32 fa', .int .u32 fb', .int .i64 st', .bool false, .int .i64 wc', .int .i64 wi', .bool hit', .int .i64 ret', .int .i64 ak, .int .i64 ac, .int .u32 ax, .int .u32 ay, .int .u32 ao, (.slice pn notes'.length cn)] : Array Value)[i]?)⟩, ⟨zx0, (zx1 : ∀ i, World.cell? _ ⟨q, i, none⟩ = (#[.slice p L'.length cap, .int .i64 n', .int .i64 mode', .int .i64 task', .int .i64 op', .int .i64 line', .int .u32 fa', .int .u32 fb', .int .i64 st', .bool false, .int .i64 wc', .int .i64 wi', .bool hit', .int .i64 ret', .int .i64 ak, .int .i64 ac, .int .u32 ax, .int .u32 ay, .int .u32 ao, (.slice qn notes'.length dn)] : Array Value)[i]?)⟩, za0, za1⟩ := MD9.cells H9.drew
              clear H9
              refine region_flat (by kernel_rfl) (by kernel_rfl) ?_
              simp only [probed, probes, List.nil_append]
              go_wp2_with fail
              refine (HRS.out _ HK0.out).mono ?_
              rintro e w8 ⟨rfl, H8⟩
              have HK1 := Lib.hid H8
              clear H8
              go_wp2_with fail
              rw [only_normal]
              rename_i hK
              refine hK _ _ ?_
              clear hK zr0 zr1 zx0 zx1 za0 za1
              refine wp_from (Facts := fun W => MD9 w m a r p g cap q bs bi ba (.slice (some ⟨b, off, none⟩) k c2) j ⟨n', mode', task', ⟨op', line', fa', fb', st', ⟨false, wc', wi', hit'⟩, ret'⟩, ⟨ak, ac, ax, ay, ao⟩, notes', L'⟩ (.slice pn notes'.length cn) (.slice qn notes'.length dn) (.slice pa ([] : List Int).length ca) (.slice none 0 0) [] W) ?_ (by first | exact HK1.out | exact (HK1.out).drew)
              intro W9 H9h0
              have H9h := Lib.hid H9h0
              clear H9h0
              go_wp2_with fail
              have H9 := H9h.out
              clear H9h HK0 HK1
              refine region_moved 46 4 rfl (by kernel_rfl) (by kernel_rfl) ?_
              simp only [List.take_succ_cons, List.take_zero, List.drop_succ_cons, List.drop_zero, List.cons_append, List.nil_append]
              have HK := Lib.hid H9.drew
              obtain ⟨⟨zr0, (zr1 : ∀ i, World.cell? _ ⟨r, i, none⟩ = (#[.pointer (some ⟨m, 0, none⟩), .int .i64 n', .int .i64 mode', .int .i64 task', .int .i64 op', .int .i64 line', .int .u32 fa', .int .u32 fb', .int .i64 st', .bool false, .int .i64 wc', .int .i64 wi', .bool hit', .int .i64 ret', .int .i64 ak, .int .i64 ac, .int .u32 ax, .int .u32 ay, .int .u32 ao, (.slice pn notes'.length cn)] : Array Value)[i]?)⟩, ⟨zx0, (zx1 : ∀ i, World.cell? _ ⟨q, i, none⟩ = (#[.slice p L'.length cap, .int .i64 n', .int .i64 mode', .int .i64 task', .int .i64 op', .int .i64 line', .int .u32 fa', .int .u32 fb', .int .i64 st', .bool false, .int .i64 wc', .int .i64 wi', .bool hit', .int .i64 ret', .int .i64 ak, .int .i64 ac, .int .u32 ax, .int .u32 ay, .int .u32 ao, (.slice qn notes'.length dn)] : Array Value)[i]?)⟩, za0, za1⟩ := MD9.cells H9.drew
              clear H9
              go_wp2_with fail
              refine (md_over HK.out).mono ?_
              rintro e w10 ⟨rfl, H10⟩
              obtain ⟨⟨ar0, (ar1 : ∀ i, World.cell? _ ⟨r, i, none⟩ = (#[.pointer (some ⟨m, 0, none⟩), .int .i64 n', .int .i64 mode', .int .i64 task', .int .i64 op', .int .i64 line', .int .u32 fa', .int .u32 fb', .int .i64 st', .bool false, .int .i64 wc', .int .i64 wi', .bool hit', .int .i64 ret', .int .i64 ak, .int .i64 ac, .int .u32 ax, .int .u32 ay, .int .u32 ao, (.slice pn notes'.length cn)] : Array Value)[i]?)⟩, ⟨ax0, (ax1 : ∀ i, World.cell? _ ⟨q, i, none⟩ = (#[.slice p L'.length cap, .int .i64 n', .int .i64 mode', .int .i64 task', .int .i64 op', .int .i64 line', .int .u32 fa', .int .u32 fb', .int .i64 st', .bool false, .int .i64 wc', .int .i64 wi', .bool hit', .int .i64 ret', .int .i64 ak, .int .i64 ac, .int .u32 ax, .int .u32 ay, .int .u32 ao, (.slice qn notes'.length dn)] : Array Value)[i]?)⟩, aa0, aa1⟩ := MD9.cells H10
              have HK2 := Lib.hid H10
              clear H10 zr0 zr1 zx0 zx1 za0 za1
              rw [HOB.out]
              have hob2 : (ob != ob) = false := by simp
              have hsb2 : (sb != sb) = false := by simp
              go_wp2_with fail
              refine (md_outs HK2.out (by have := HOU.out; omega)).mono ?_
              rintro e w11 ⟨rfl, H11⟩
              obtain ⟨⟨br0, (br1 : ∀ i, World.cell? _ ⟨r, i, none⟩ = (#[.pointer (some ⟨m, 0, none⟩), .int .i64 n', .int .i64 mode', .int .i64 task', .int .i64 op', .int .i64 line', .int .u32 fa', .int .u32 fb', .int .i64 st', .bool false, .int .i64 wc', .int .i64 wi', .bool hit', .int .i64 ret', .int .i64 ak, .int .i64 ac, .int .u32 ax, .int .u32 ay, .int .u32 ao, (.slice pn notes'.length cn)] : Array Value)[i]?)⟩, ⟨bx0, (bx1 : ∀ i, World.cell? _ ⟨q, i, none⟩ = (#[.slice p L'.length cap, .int .i64 n', .int .i64 mode', .int .i64 task', .int .i64 op', .int .i64 line', .int .u32 fa', .int .u32 fb', .int .i64 st', .bool false, .int .i64 wc', .int .i64 wi', .bool hit', .int .i64 ret', .int .i64 ak, .int .i64 ac, .int .u32 ax, .int .u32 ay, .int .u32 ao, (.slice qn notes'.length dn)] : Array Value)[i]?)⟩, ba0, ba1⟩ := MD9.cells H11
              have HK3 := Lib.hid H11
              clear H11 ar0 ar1 ax0 ax1 aa0 aa1
              go_wp2_with fail
              refine (md_notes HK3.out (by have := HSO.out; simp only at this ⊢; omega)).mono ?_
              rintro e w12 ⟨rfl, H12⟩
              obtain ⟨⟨cr0, (cr1 : ∀ i, World.cell? _ ⟨r, i, none⟩ = (#[.pointer (some ⟨m, 0, none⟩), .int .i64 n', .int .i64 mode', .int .i64 task', .int .i64 op', .int .i64 line', .int .u32 fa', .int .u32 fb', .int .i64 st', .bool false, .int .i64 wc', .int .i64 wi', .bool hit', .int .i64 ret', .int .i64 ak, .int .i64 ac, .int .u32 ax, .int .u32 ay, .int .u32 ao, (.slice pn notes'.length cn)] : Array Value)[i]?)⟩, ⟨cx0, (cx1 : ∀ i, World.cell? _ ⟨q, i, none⟩ = (#[.slice p L'.length cap, .int .i64 n', .int .i64 mode', .int .i64 task', .int .i64 op', .int .i64 line', .int .u32 fa', .int .u32 fb', .int .i64 st', .bool false, .int .i64 wc', .int .i64 wi', .bool hit', .int .i64 ret', .int .i64 ak, .int .i64 ac, .int .u32 ax, .int .u32 ay, .int .u32 ao, (.slice qn notes'.length dn)] : Array Value)[i]?)⟩, ca0, ca1⟩ := MD9.cells H12
              have HK4 := Lib.hid H12
              clear H12 br0 br1 bx0 bx1 ba0 ba1
              go_wp2_with fail
              rw [only_normal]
              refine callK_static rfl rfl (enters_of Try.func23 (by kernel_rfl) rfl) (by simp [Act.eval]) (fun W tW => (md_all (HK4.out.grow tW)).mono ?_)
              rintro e w13 ⟨p', cap', rfl, H13, hrd13, t13⟩
              refine ⟨_, rfl, t13, ?_⟩
              obtain ⟨⟨dr0, (dr1 : ∀ i, World.cell? _ ⟨r, i, none⟩ = (#[.pointer (some ⟨m, 0, none⟩), .int .i64 n', .int .i64 mode', .int .i64 task', .int .i64 op', .int .i64 line', .int .u32 fa', .int .u32 fb', .int .i64 st', .bool false, .int .i64 wc', .int .i64 wi', .bool hit', .int .i64 ret', .int .i64 ak, .int .i64 ac, .int .u32 ax, .int .u32 ay, .int .u32 ao, (.slice pn notes'.length cn)] : Array Value)[i]?)⟩, ⟨dx0, (dx1 : ∀ i, World.cell? _ ⟨q, i, none⟩ = (#[.slice p L'.length cap, .int .i64 n', .int .i64 mode', .int .i64 task', .int .i64 op', .int .i64 line', .int .u32 fa', .int .u32 fb', .int .i64 st', .bool false, .int .i64 wc', .int .i64 wi', .bool hit', .int .i64 ret', .int .i64 ak, .int .i64 ac, .int .u32 ax, .int .u32 ay, .int .u32 ao, (.slice qn notes'.length dn)] : Array Value)[i]?)⟩, da0, da1⟩ := MD9.cells H13
              have HK5 := Lib.hid H13
              have HRD5 := Lib.hid hrd13
              clear H13 hrd13 t13 cr0 cr1 cx0 cx1 ca0 ca1
              go_wp2_with fail
              refine (md_same HK5.out HRD5.out).mono ?_
              rintro e w14 ⟨rfl, H14⟩
              obtain ⟨⟨er0, (er1 : ∀ i, World.cell? _ ⟨r, i, none⟩ = (#[.pointer (some ⟨m, 0, none⟩), .int .i64 n', .int .i64 mode', .int .i64 task', .int .i64 op', .int .i64 line', .int .u32 fa', .int .u32 fb', .int .i64 st', .bool false, .int .i64 wc', .int .i64 wi', .bool hit', .int .i64 ret', .int .i64 ak, .int .i64 ac, .int .u32 ax, .int .u32 ay, .int .u32 ao, (.slice pn notes'.length cn)] : Array Value)[i]?)⟩, ⟨ex0, (ex1 : ∀ i, World.cell? _ ⟨q, i, none⟩ = (#[.slice p L'.length cap, .int .i64 n', .int .i64 mode', .int .i64 task', .int .i64 op', .int .i64 line', .int .u32 fa', .int .u32 fb', .int .i64 st', .bool false, .int .i64 wc', .int .i64 wi', .bool hit', .int .i64 ret', .int .i64 ak, .int .i64 ac, .int .u32 ax, .int .u32 ay, .int .u32 ao, (.slice qn notes'.length dn)] : Array Value)[i]?)⟩, ea0, ea1⟩ := MD9.cells H14
              have HK6 := Lib.hid H14
              clear H14 dr0 dr1 dx0 dx1 da0 da1
              have HLD := Lib.hid (rangeAt_list er1)
              clear er0 er1 ex0 ex1 ea0 ea1
              go_wp2_with (refine wpList_load_want (by first | rfl | kernel_rfl) 43 (.tmp 157) rfl r 0 (by first | rfl | kernel_rfl) _ _ HLD.out Try.underlying43 rfl (by kernel_rfl) ?_)
              have hss2 := HSS.out _ HK6.out
              simp only [Bool.not_true, Bool.not_false, Bool.true_and, Bool.false_and] at hss2
              refine hss2.mono ?_
              clear hss2
              rintro e w15 ⟨rfl, H15⟩
              obtain ⟨u0, u1, u2⟩ := (Has.at_ H15 9 rfl).own
              have HK7 := Lib.hid H15
              clear H15 HLD
              go_wp2_with fail
              rw [only_normal]
              go_wp2_with fail
              refine ⟨⟨j + 1, w15.heap.size, by omega, rfl, ⟨?_, ?_⟩, ?_⟩, ?_⟩
              · rw [HRUN.out]; exact HSOK.out
              · rw [HRUN.out]; exact ⟨rfl, rfl, rfl⟩
              · rw [HRUN.out]; exact MD9.next HK7.out rfl (by simp)
              · rw [LS9.count (MD9.next HK7.out rfl (by simp)), HCN.out]; omega
          | false =>
            refine (xn_waking_off HX5.out hon).mono ?_
            rintro e w6 ⟨rfl, H6⟩
            have e1 : st9 l s = (calls9 l s.fresh).2 := by unfold st9; rw [hon]; rfl
            have e2 : ou9 l s = (calls9 l s.fresh).1 := by unfold ou9; rw [hon]; rfl
            rw [e1, e2] at H6
            obtain ⟨nx6, H6⟩ := H6
            obtain ⟨y0, y1, y2⟩ := (Has.at_ H6 7 rfl).own
            obtain ⟨z0, z1, z2⟩ := (Has.at_ H6 8 rfl).own
            obtain ⟨hb, hcl⟩ := lists_at2 (HA2.out.touch H6.touch (by simp)) HL2.out hjk
            rw [hv] at hcl
            have HX6 := Lib.hid H6
            clear H6 HX5
            go_wp2_with fail
            refine (plain_any (cp := d) (l := l) ⟨nx6, HX6.out⟩ hrd hoks h10 HOK.out.1.1 (by simp [Rn.fresh])).mono ?_
            rintro e w7 ⟨vb, rfl, nx7, H7⟩
            clear HX6 y0 y1 y2 z0 z1 z2 hb hcl
            obtain ⟨pb, cb, rfl⟩ := owns_slice (Has.ownAt H7 3 rfl)
            rw [← e1, ← e2] at H7 ⊢
            have HMH : Hid (∃ nv5 nx5 va, MD9 w m a r p g cap q bs bi ba (.slice (some ⟨b, off, none⟩) k c2) j (st9 l s) nv5 nx5 va (.slice pb (ou9 l s).length cb) (ou9 l s) w7) := Lib.hid ⟨_, nx7, _, H7⟩
            clear H7 e1 e2 hon
            go_wp2_with fail
            refine wp_from (Facts := fun W => ∃ nv5 nx5 va, MD9 w m a r p g cap q bs bi ba (.slice (some ⟨b, off, none⟩) k c2) j (st9 l s) nv5 nx5 va (.slice pb (ou9 l s).length cb) (ou9 l s) W) ?_ HMH.out
            clear HMH
            intro W7 HMD
            obtain ⟨nv5, nx5, va, H9⟩ := HMD
            have hso := st9_notes (l := l) (s := s) h10
            have hou := ou9_len (l := l) (s := s) h10
            have hsok := st9_ok (l := l) (s := s) hoks HOK.out.1
            have hssm := st9_same l s
            rw [HOK.out.2.1, HOK.out.2.2.1, HOK.out.2.2.2] at hssm
            generalize ou9 l s = out at H9 hou ⊢
            generalize st9 l s = s1 at H9 hso hsok hssm HRUN ⊢
            obtain ⟨pn, cn, rfl⟩ := owns_slice (Has.ownAt H9 6 rfl)
            obtain ⟨qn, dn, rfl⟩ := owns_slice (Has.ownAt H9 2 rfl)
            obtain ⟨pa, ca, rfl⟩ := owns_slice (Has.ownAt H9 10 rfl)
            obtain ⟨ob, hob⟩ : ∃ ob, s1.over = ob := ⟨_, rfl⟩
            rw [hob]
            obtain ⟨n', mode', task', ⟨op', line', fa', fb', st', ⟨on', wc', wi', hit'⟩, ret'⟩, ⟨ak, ac, ax, ay, ao⟩, notes', L'⟩ := s1
            obtain ⟨q1, q2, q3⟩ := hssm
            simp only at q1 q2 q3
            subst q1 q2 q3
            have hrs := fun W (H : MD9 w m a r p g cap q bs bi ba (.slice (some ⟨b, off, none⟩) k c2) j ⟨n', mode', task', ⟨op', line', fa', fb', st', ⟨on', wc', wi', hit'⟩, ret'⟩, ⟨ak, ac, ax, ay, ao⟩, notes', L'⟩ (.slice pn notes'.length cn) (.slice qn notes'.length dn) (.slice pa out.length ca) (.slice pb out.length cb) out W) => md_rstuck H
            have hss := fun W (H : MD9 w m a r p g cap q bs bi ba (.slice (some ⟨b, off, none⟩) k c2) j ⟨n', mode', task', ⟨op', line', fa', fb', st', ⟨on', wc', wi', hit'⟩, ret'⟩, ⟨ak, ac, ax, ay, ao⟩, notes', L'⟩ (.slice pn notes'.length cn) (.slice qn notes'.length dn) (.slice pa out.length ca) (.slice pb out.length cb) out W) => md_stuck H hsok.1
            simp only at hrs hss
            generalize stuckA L' n' mode' task' st' = sb at hrs hss
            simp only [rcells] at hss
            have HRS := Lib.hid hrs
            have HSS := Lib.hid hss
            have HSO := Lib.hid hso
            have HOU := Lib.hid hou
            have HSOK := Lib.hid hsok
            have HOB := Lib.hid hob
            clear hrs hss hso hou hsok hob
            cases on' with
            | true =>
              have HK0 := Lib.hid H9.drew
              obtain ⟨⟨zr0, (zr1 : ∀ i, World.cell? _ ⟨r, i, none⟩ = (#[.pointer (some ⟨m, 0, none⟩), .int .i64 n', .int .i64 mode', .int .i64 task', .int .i64 op', .int .i64 line', .int .u32 fa', .int .u32 fb', .int .i64 st', .bool true, .int .i64 wc', .int .i64 wi', .bool hit', .int .i64 ret', .int .i64 ak, .int .i64 ac, .int .u32 ax, .int .u32 ay, .int .u32 ao, (.slice pn notes'.length cn)] : Array Value)[i]?)⟩, ⟨zx0, (zx1 : ∀ i, World.cell? _ ⟨q, i, none⟩ = (#[.slice p L'.length cap, .int .i64 n', .int .i64 mode', .int .i64 task', .int .i64 op', .int .i64 line', .int .u32 fa', .int .u32 fb', .int .i64 st', .bool true, .int .i64 wc', .int .i64 wi', .bool hit', .int .i64 ret', .int .i64 ak, .int .i64 ac, .int .u32 ax, .int .u32 ay, .int .u32 ao, (.slice qn notes'.length dn)] : Array Value)[i]?)⟩, za0, za1⟩ := MD9.cells H9.drew
              clear H9
              refine region_flat (by kernel_rfl) (by kernel_rfl) ?_
              simp only [probed, probes, List.nil_append]
              go_wp2_with fail
              rw [only_normal]
              rename_i hK
              refine hK _ _ ?_
              clear hK zr0 zr1 zx0 zx1 za0 za1
              refine wp_from (Facts := fun W => MD9 w m a r p g cap q bs bi ba (.slice (some ⟨b, off, none⟩) k c2) j ⟨n', mode', task', ⟨op', line', fa', fb', st', ⟨true, wc', wi', hit'⟩, ret'⟩, ⟨ak, ac, ax, ay, ao⟩, notes', L'⟩ (.slice pn notes'.length cn) (.slice qn notes'.length dn) (.slice pa out.length ca) (.slice pb out.length cb) out W) ?_ (by first | exact HK0.out | exact (HK0.out).drew)
              intro W9 H9h0
              have H9h := Lib.hid H9h0
              clear H9h0
              go_wp2_with fail
              have H9 := H9h.out
              clear H9h HK0
              refine region_moved 46 4 rfl (by kernel_rfl) (by kernel_rfl) ?_
              simp only [List.take_succ_cons, List.take_zero, List.drop_succ_cons, List.drop_zero, List.cons_append, List.nil_append]
              have HK := Lib.hid H9.drew
              obtain ⟨⟨zr0, (zr1 : ∀ i, World.cell? _ ⟨r, i, none⟩ = (#[.pointer (some ⟨m, 0, none⟩), .int .i64 n', .int .i64 mode', .int .i64 task', .int .i64 op', .int .i64 line', .int .u32 fa', .int .u32 fb', .int .i64 st', .bool true, .int .i64 wc', .int .i64 wi', .bool hit', .int .i64 ret', .int .i64 ak, .int .i64 ac, .int .u32 ax, .int .u32 ay, .int .u32 ao, (.slice pn notes'.length cn)] : Array Value)[i]?)⟩, ⟨zx0, (zx1 : ∀ i, World.cell? _ ⟨q, i, none⟩ = (#[.slice p L'.length cap, .int .i64 n', .int .i64 mode', .int .i64 task', .int .i64 op', .int .i64 line', .int .u32 fa', .int .u32 fb', .int .i64 st', .bool true, .int .i64 wc', .int .i64 wi', .bool hit', .int .i64 ret', .int .i64 ak, .int .i64 ac, .int .u32 ax, .int .u32 ay, .int .u32 ao, (.slice qn notes'.length dn)] : Array Value)[i]?)⟩, za0, za1⟩ := MD9.cells H9.drew
              clear H9
              go_wp2_with fail
              refine (md_over HK.out).mono ?_
              rintro e w10 ⟨rfl, H10⟩
              obtain ⟨⟨ar0, (ar1 : ∀ i, World.cell? _ ⟨r, i, none⟩ = (#[.pointer (some ⟨m, 0, none⟩), .int .i64 n', .int .i64 mode', .int .i64 task', .int .i64 op', .int .i64 line', .int .u32 fa', .int .u32 fb', .int .i64 st', .bool true, .int .i64 wc', .int .i64 wi', .bool hit', .int .i64 ret', .int .i64 ak, .int .i64 ac, .int .u32 ax, .int .u32 ay, .int .u32 ao, (.slice pn notes'.length cn)] : Array Value)[i]?)⟩, ⟨ax0, (ax1 : ∀ i, World.cell? _ ⟨q, i, none⟩ = (#[.slice p L'.length cap, .int .i64 n', .int .i64 mode', .int .i64 task', .int .i64 op', .int .i64 line', .int .u32 fa', .int .u32 fb', .int .i64 st', .bool true, .int .i64 wc', .int .i64 wi', .bool hit', .int .i64 ret', .int .i64 ak, .int .i64 ac, .int .u32 ax, .int .u32 ay, .int .u32 ao, (.slice qn notes'.length dn)] : Array Value)[i]?)⟩, aa0, aa1⟩ := MD9.cells H10
              have HK2 := Lib.hid H10
              clear H10 zr0 zr1 zx0 zx1 za0 za1
              rw [HOB.out]
              have hob2 : (ob != ob) = false := by simp
              have hsb2 : (sb != sb) = false := by simp
              go_wp2_with fail
              refine (md_outs HK2.out (by have := HOU.out; omega)).mono ?_
              rintro e w11 ⟨rfl, H11⟩
              obtain ⟨⟨br0, (br1 : ∀ i, World.cell? _ ⟨r, i, none⟩ = (#[.pointer (some ⟨m, 0, none⟩), .int .i64 n', .int .i64 mode', .int .i64 task', .int .i64 op', .int .i64 line', .int .u32 fa', .int .u32 fb', .int .i64 st', .bool true, .int .i64 wc', .int .i64 wi', .bool hit', .int .i64 ret', .int .i64 ak, .int .i64 ac, .int .u32 ax, .int .u32 ay, .int .u32 ao, (.slice pn notes'.length cn)] : Array Value)[i]?)⟩, ⟨bx0, (bx1 : ∀ i, World.cell? _ ⟨q, i, none⟩ = (#[.slice p L'.length cap, .int .i64 n', .int .i64 mode', .int .i64 task', .int .i64 op', .int .i64 line', .int .u32 fa', .int .u32 fb', .int .i64 st', .bool true, .int .i64 wc', .int .i64 wi', .bool hit', .int .i64 ret', .int .i64 ak, .int .i64 ac, .int .u32 ax, .int .u32 ay, .int .u32 ao, (.slice qn notes'.length dn)] : Array Value)[i]?)⟩, ba0, ba1⟩ := MD9.cells H11
              have HK3 := Lib.hid H11
              clear H11 ar0 ar1 ax0 ax1 aa0 aa1
              go_wp2_with fail
              refine (md_notes HK3.out (by have := HSO.out; simp only at this ⊢; omega)).mono ?_
              rintro e w12 ⟨rfl, H12⟩
              obtain ⟨⟨cr0, (cr1 : ∀ i, World.cell? _ ⟨r, i, none⟩ = (#[.pointer (some ⟨m, 0, none⟩), .int .i64 n', .int .i64 mode', .int .i64 task', .int .i64 op', .int .i64 line', .int .u32 fa', .int .u32 fb', .int .i64 st', .bool true, .int .i64 wc', .int .i64 wi', .bool hit', .int .i64 ret', .int .i64 ak, .int .i64 ac, .int .u32 ax, .int .u32 ay, .int .u32 ao, (.slice pn notes'.length cn)] : Array Value)[i]?)⟩, ⟨cx0, (cx1 : ∀ i, World.cell? _ ⟨q, i, none⟩ = (#[.slice p L'.length cap, .int .i64 n', .int .i64 mode', .int .i64 task', .int .i64 op', .int .i64 line', .int .u32 fa', .int .u32 fb', .int .i64 st', .bool true, .int .i64 wc', .int .i64 wi', .bool hit', .int .i64 ret', .int .i64 ak, .int .i64 ac, .int .u32 ax, .int .u32 ay, .int .u32 ao, (.slice qn notes'.length dn)] : Array Value)[i]?)⟩, ca0, ca1⟩ := MD9.cells H12
              have HK4 := Lib.hid H12
              clear H12 br0 br1 bx0 bx1 ba0 ba1
              go_wp2_with fail
              rw [only_normal]
              refine callK_static rfl rfl (enters_of Try.func23 (by kernel_rfl) rfl) (by simp [Act.eval]) (fun W tW => (md_all (HK4.out.grow tW)).mono ?_)
              rintro e w13 ⟨p', cap', rfl, H13, hrd13, t13⟩
              refine ⟨_, rfl, t13, ?_⟩
              obtain ⟨⟨dr0, (dr1 : ∀ i, World.cell? _ ⟨r, i, none⟩ = (#[.pointer (some ⟨m, 0, none⟩), .int .i64 n', .int .i64 mode', .int .i64 task', .int .i64 op', .int .i64 line', .int .u32 fa', .int .u32 fb', .int .i64 st', .bool true, .int .i64 wc', .int .i64 wi', .bool hit', .int .i64 ret', .int .i64 ak, .int .i64 ac, .int .u32 ax, .int .u32 ay, .int .u32 ao, (.slice pn notes'.length cn)] : Array Value)[i]?)⟩, ⟨dx0, (dx1 : ∀ i, World.cell? _ ⟨q, i, none⟩ = (#[.slice p L'.length cap, .int .i64 n', .int .i64 mode', .int .i64 task', .int .i64 op', .int .i64 line', .int .u32 fa', .int .u32 fb', .int .i64 st', .bool true, .int .i64 wc', .int .i64 wi', .bool hit', .int .i64 ret', .int .i64 ak, .int .i64 ac, .int .u32 ax, .int .u32 ay, .int .u32 ao, (.slice qn notes'.length dn)] : Array Value)[i]?)⟩, da0, da1⟩ := MD9.cells H13
              have HK5 := Lib.hid H13
              have HRD5 := Lib.hid hrd13
              clear H13 hrd13 t13 cr0 cr1 cx0 cx1 ca0 ca1
              go_wp2_with fail
              refine (md_same HK5.out HRD5.out).mono ?_
              rintro e w14 ⟨rfl, H14⟩
              obtain ⟨⟨er0, (er1 : ∀ i, World.cell? _ ⟨r, i, none⟩ = (#[.pointer (some ⟨m, 0, none⟩), .int .i64 n', .int .i64 mode', .int .i64 task', .int .i64 op', .int .i64 line', .int .u32 fa', .int .u32 fb', .int .i64 st', .bool true, .int .i64 wc', .int .i64 wi', .bool hit', .int .i64 ret', .int .i64 ak, .int .i64 ac, .int .u32 ax, .int .u32 ay, .int .u32 ao, (.slice pn notes'.length cn)] : Array Value)[i]?)⟩, ⟨ex0, (ex1 : ∀ i, World.cell? _ ⟨q, i, none⟩ = (#[.slice p L'.length cap, .int .i64 n', .int .i64 mode', .int .i64 task', .int .i64 op', .int .i64 line', .int .u32 fa', .int .u32 fb', .int .i64 st', .bool true, .int .i64 wc', .int .i64 wi', .bool hit', .int .i64 ret', .int .i64 ak, .int .i64 ac, .int .u32 ax, .int .u32 ay, .int .u32 ao, (.slice qn notes'.length dn)] : Array Value)[i]?)⟩, ea0, ea1⟩ := MD9.cells H14
              have HK6 := Lib.hid H14
              clear H14 dr0 dr1 dx0 dx1 da0 da1
              have HLD := Lib.hid (rangeAt_list er1)
              clear er0 er1 ex0 ex1 ea0 ea1
              go_wp2_with (refine wpList_load_want (by first | rfl | kernel_rfl) 43 (.tmp 157) rfl r 0 (by first | rfl | kernel_rfl) _ _ HLD.out Try.underlying43 rfl (by kernel_rfl) ?_)
              have hss2 := HSS.out _ HK6.out
              simp only [Bool.not_true, Bool.not_false, Bool.true_and, Bool.false_and] at hss2
              refine hss2.mono ?_
              clear hss2
              rintro e w15 ⟨rfl, H15⟩
              obtain ⟨u0, u1, u2⟩ := (Has.at_ H15 9 rfl).own
              have HK7 := Lib.hid H15
              clear H15 HLD
              go_wp2_with fail
              rw [only_normal]
              go_wp2_with fail
              refine ⟨⟨j + 1, w15.heap.size, by omega, rfl, ⟨?_, ?_⟩, ?_⟩, ?_⟩
              · rw [HRUN.out]; exact HSOK.out
              · rw [HRUN.out]; exact ⟨rfl, rfl, rfl⟩
              · rw [HRUN.out]; exact MD9.next HK7.out rfl (by simp)
              · rw [LS9.count (MD9.next HK7.out rfl (by simp)), HCN.out]; omega
            | false =>
              have HK0 := Lib.hid H9.drew
              obtain ⟨⟨zr0, (zr1 : ∀ i, World.cell? _ ⟨r, i, none⟩ = (#[.pointer (some ⟨m, 0, none⟩), .int .i64 n', .int .i64 mode', .int .i64 task', .int .i64 op', .int .i64 line', .int .u32 fa', .int .u32 fb', .int .i64 st', .bool false, .int .i64 wc', .int .i64 wi', .bool hit', .int .i64 ret', .int .i64 ak, .int .i64 ac, .int .u32 ax, .int .u32 ay, .int .u32 ao, (.slice pn notes'.length cn)] : Array Value)[i]?)⟩, ⟨zx0, (zx1 : ∀ i, World.cell? _ ⟨q, i, none⟩ = (#[.slice p L'.length cap, .int .i64 n', .int .i64 mode', .int .i64 task', .int .i64 op', .int .i64 line', .int .u32 fa', .int .u32 fb', .int .i64 st', .bool false, .int .i64 wc', .int .i64 wi', .bool hit', .int .i64 ret', .int .i64 ak, .int .i64 ac, .int .u32 ax, .int .u32 ay, .int .u32 ao, (.slice qn notes'.length dn)] : Array Value)[i]?)⟩, za0, za1⟩ := MD9.cells H9.drew
              clear H9
              refine region_flat (by kernel_rfl) (by kernel_rfl) ?_
              simp only [probed, probes, List.nil_append]
              go_wp2_with fail
              refine (HRS.out _ HK0.out).mono ?_
              rintro e w8 ⟨rfl, H8⟩
              have HK1 := Lib.hid H8
              clear H8
              go_wp2_with fail
              rw [only_normal]
              rename_i hK
              refine hK _ _ ?_
              clear hK zr0 zr1 zx0 zx1 za0 za1
              refine wp_from (Facts := fun W => MD9 w m a r p g cap q bs bi ba (.slice (some ⟨b, off, none⟩) k c2) j ⟨n', mode', task', ⟨op', line', fa', fb', st', ⟨false, wc', wi', hit'⟩, ret'⟩, ⟨ak, ac, ax, ay, ao⟩, notes', L'⟩ (.slice pn notes'.length cn) (.slice qn notes'.length dn) (.slice pa out.length ca) (.slice pb out.length cb) out W) ?_ (by first | exact HK1.out | exact (HK1.out).drew)
              intro W9 H9h0
              have H9h := Lib.hid H9h0
              clear H9h0
              go_wp2_with fail
              have H9 := H9h.out
              clear H9h HK0 HK1
              refine region_moved 46 4 rfl (by kernel_rfl) (by kernel_rfl) ?_
              simp only [List.take_succ_cons, List.take_zero, List.drop_succ_cons, List.drop_zero, List.cons_append, List.nil_append]
              have HK := Lib.hid H9.drew
              obtain ⟨⟨zr0, (zr1 : ∀ i, World.cell? _ ⟨r, i, none⟩ = (#[.pointer (some ⟨m, 0, none⟩), .int .i64 n', .int .i64 mode', .int .i64 task', .int .i64 op', .int .i64 line', .int .u32 fa', .int .u32 fb', .int .i64 st', .bool false, .int .i64 wc', .int .i64 wi', .bool hit', .int .i64 ret', .int .i64 ak, .int .i64 ac, .int .u32 ax, .int .u32 ay, .int .u32 ao, (.slice pn notes'.length cn)] : Array Value)[i]?)⟩, ⟨zx0, (zx1 : ∀ i, World.cell? _ ⟨q, i, none⟩ = (#[.slice p L'.length cap, .int .i64 n', .int .i64 mode', .int .i64 task', .int .i64 op', .int .i64 line', .int .u32 fa', .int .u32 fb', .int .i64 st', .bool false, .int .i64 wc', .int .i64 wi', .bool hit', .int .i64 ret', .int .i64 ak, .int .i64 ac, .int .u32 ax, .int .u32 ay, .int .u32 ao, (.slice qn notes'.length dn)] : Array Value)[i]?)⟩, za0, za1⟩ := MD9.cells H9.drew
              clear H9
              go_wp2_with fail
              refine (md_over HK.out).mono ?_
              rintro e w10 ⟨rfl, H10⟩
              obtain ⟨⟨ar0, (ar1 : ∀ i, World.cell? _ ⟨r, i, none⟩ = (#[.pointer (some ⟨m, 0, none⟩), .int .i64 n', .int .i64 mode', .int .i64 task', .int .i64 op', .int .i64 line', .int .u32 fa', .int .u32 fb', .int .i64 st', .bool false, .int .i64 wc', .int .i64 wi', .bool hit', .int .i64 ret', .int .i64 ak, .int .i64 ac, .int .u32 ax, .int .u32 ay, .int .u32 ao, (.slice pn notes'.length cn)] : Array Value)[i]?)⟩, ⟨ax0, (ax1 : ∀ i, World.cell? _ ⟨q, i, none⟩ = (#[.slice p L'.length cap, .int .i64 n', .int .i64 mode', .int .i64 task', .int .i64 op', .int .i64 line', .int .u32 fa', .int .u32 fb', .int .i64 st', .bool false, .int .i64 wc', .int .i64 wi', .bool hit', .int .i64 ret', .int .i64 ak, .int .i64 ac, .int .u32 ax, .int .u32 ay, .int .u32 ao, (.slice qn notes'.length dn)] : Array Value)[i]?)⟩, aa0, aa1⟩ := MD9.cells H10
              have HK2 := Lib.hid H10
              clear H10 zr0 zr1 zx0 zx1 za0 za1
              rw [HOB.out]
              have hob2 : (ob != ob) = false := by simp
              have hsb2 : (sb != sb) = false := by simp
              go_wp2_with fail
              refine (md_outs HK2.out (by have := HOU.out; omega)).mono ?_
              rintro e w11 ⟨rfl, H11⟩
              obtain ⟨⟨br0, (br1 : ∀ i, World.cell? _ ⟨r, i, none⟩ = (#[.pointer (some ⟨m, 0, none⟩), .int .i64 n', .int .i64 mode', .int .i64 task', .int .i64 op', .int .i64 line', .int .u32 fa', .int .u32 fb', .int .i64 st', .bool false, .int .i64 wc', .int .i64 wi', .bool hit', .int .i64 ret', .int .i64 ak, .int .i64 ac, .int .u32 ax, .int .u32 ay, .int .u32 ao, (.slice pn notes'.length cn)] : Array Value)[i]?)⟩, ⟨bx0, (bx1 : ∀ i, World.cell? _ ⟨q, i, none⟩ = (#[.slice p L'.length cap, .int .i64 n', .int .i64 mode', .int .i64 task', .int .i64 op', .int .i64 line', .int .u32 fa', .int .u32 fb', .int .i64 st', .bool false, .int .i64 wc', .int .i64 wi', .bool hit', .int .i64 ret', .int .i64 ak, .int .i64 ac, .int .u32 ax, .int .u32 ay, .int .u32 ao, (.slice qn notes'.length dn)] : Array Value)[i]?)⟩, ba0, ba1⟩ := MD9.cells H11
              have HK3 := Lib.hid H11
              clear H11 ar0 ar1 ax0 ax1 aa0 aa1
              go_wp2_with fail
              refine (md_notes HK3.out (by have := HSO.out; simp only at this ⊢; omega)).mono ?_
              rintro e w12 ⟨rfl, H12⟩
              obtain ⟨⟨cr0, (cr1 : ∀ i, World.cell? _ ⟨r, i, none⟩ = (#[.pointer (some ⟨m, 0, none⟩), .int .i64 n', .int .i64 mode', .int .i64 task', .int .i64 op', .int .i64 line', .int .u32 fa', .int .u32 fb', .int .i64 st', .bool false, .int .i64 wc', .int .i64 wi', .bool hit', .int .i64 ret', .int .i64 ak, .int .i64 ac, .int .u32 ax, .int .u32 ay, .int .u32 ao, (.slice pn notes'.length cn)] : Array Value)[i]?)⟩, ⟨cx0, (cx1 : ∀ i, World.cell? _ ⟨q, i, none⟩ = (#[.slice p L'.length cap, .int .i64 n', .int .i64 mode', .int .i64 task', .int .i64 op', .int .i64 line', .int .u32 fa', .int .u32 fb', .int .i64 st', .bool false, .int .i64 wc', .int .i64 wi', .bool hit', .int .i64 ret', .int .i64 ak, .int .i64 ac, .int .u32 ax, .int .u32 ay, .int .u32 ao, (.slice qn notes'.length dn)] : Array Value)[i]?)⟩, ca0, ca1⟩ := MD9.cells H12
              have HK4 := Lib.hid H12
              clear H12 br0 br1 bx0 bx1 ba0 ba1
              go_wp2_with fail
              rw [only_normal]
              refine callK_static rfl rfl (enters_of Try.func23 (by kernel_rfl) rfl) (by simp [Act.eval]) (fun W tW => (md_all (HK4.out.grow tW)).mono ?_)
              rintro e w13 ⟨p', cap', rfl, H13, hrd13, t13⟩
              refine ⟨_, rfl, t13, ?_⟩
              obtain ⟨⟨dr0, (dr1 : ∀ i, World.cell? _ ⟨r, i, none⟩ = (#[.pointer (some ⟨m, 0, none⟩), .int .i64 n', .int .i64 mode', .int .i64 task', .int .i64 op', .int .i64 line', .int .u32 fa', .int .u32 fb', .int .i64 st', .bool false, .int .i64 wc', .int .i64 wi', .bool hit', .int .i64 ret', .int .i64 ak, .int .i64 ac, .int .u32 ax, .int .u32 ay, .int .u32 ao, (.slice pn notes'.length cn)] : Array Value)[i]?)⟩, ⟨dx0, (dx1 : ∀ i, World.cell? _ ⟨q, i, none⟩ = (#[.slice p L'.length cap, .int .i64 n', .int .i64 mode', .int .i64 task', .int .i64 op', .int .i64 line', .int .u32 fa', .int .u32 fb', .int .i64 st', .bool false, .int .i64 wc', .int .i64 wi', .bool hit', .int .i64 ret', .int .i64 ak, .int .i64 ac, .int .u32 ax, .int .u32 ay, .int .u32 ao, (.slice qn notes'.length dn)] : Array Value)[i]?)⟩, da0, da1⟩ := MD9.cells H13
              have HK5 := Lib.hid H13
              have HRD5 := Lib.hid hrd13
              clear H13 hrd13 t13 cr0 cr1 cx0 cx1 ca0 ca1
              go_wp2_with fail
              refine (md_same HK5.out HRD5.out).mono ?_
              rintro e w14 ⟨rfl, H14⟩
              obtain ⟨⟨er0, (er1 : ∀ i, World.cell? _ ⟨r, i, none⟩ = (#[.pointer (some ⟨m, 0, none⟩), .int .i64 n', .int .i64 mode', .int .i64 task', .int .i64 op', .int .i64 line', .int .u32 fa', .int .u32 fb', .int .i64 st', .bool false, .int .i64 wc', .int .i64 wi', .bool hit', .int .i64 ret', .int .i64 ak, .int .i64 ac, .int .u32 ax, .int .u32 ay, .int .u32 ao, (.slice pn notes'.length cn)] : Array Value)[i]?)⟩, ⟨ex0, (ex1 : ∀ i, World.cell? _ ⟨q, i, none⟩ = (#[.slice p L'.length cap, .int .i64 n', .int .i64 mode', .int .i64 task', .int .i64 op', .int .i64 line', .int .u32 fa', .int .u32 fb', .int .i64 st', .bool false, .int .i64 wc', .int .i64 wi', .bool hit', .int .i64 ret', .int .i64 ak, .int .i64 ac, .int .u32 ax, .int .u32 ay, .int .u32 ao, (.slice qn notes'.length dn)] : Array Value)[i]?)⟩, ea0, ea1⟩ := MD9.cells H14
              have HK6 := Lib.hid H14
              clear H14 dr0 dr1 dx0 dx1 da0 da1
              have HLD := Lib.hid (rangeAt_list er1)
              clear er0 er1 ex0 ex1 ea0 ea1
              go_wp2_with (refine wpList_load_want (by first | rfl | kernel_rfl) 43 (.tmp 157) rfl r 0 (by first | rfl | kernel_rfl) _ _ HLD.out Try.underlying43 rfl (by kernel_rfl) ?_)
              have hss2 := HSS.out _ HK6.out
              simp only [Bool.not_true, Bool.not_false, Bool.true_and, Bool.false_and] at hss2
              refine hss2.mono ?_
              clear hss2
              rintro e w15 ⟨rfl, H15⟩
              obtain ⟨u0, u1, u2⟩ := (Has.at_ H15 9 rfl).own
              have HK7 := Lib.hid H15
              clear H15 HLD
              go_wp2_with fail
              rw [only_normal]
              go_wp2_with fail
              refine ⟨⟨j + 1, w15.heap.size, by omega, rfl, ⟨?_, ?_⟩, ?_⟩, ?_⟩
              · rw [HRUN.out]; exact HSOK.out
              · rw [HRUN.out]; exact ⟨rfl, rfl, rfl⟩
              · rw [HRUN.out]; exact MD9.next HK7.out rfl (by simp)
              · rw [LS9.count (MD9.next HK7.out rfl (by simp)), HCN.out]; omega
        · have i10 : ((10 : Int) < ((ls[j]'(by rw [HL2.out]; exact hjk)).2.length : Int)) := by omega
          go_wp2_with fail
          refine (awake09 _).mono ?_
          rintro e w9 ⟨rfl, t9⟩
          go_wp2_with fail
          (try simp only [Exit.inBlock, Exit.then])
          go_ret
          exact ⟨rfl, (Has.touch HHX.out).trans t9⟩
      · have hi2 : (k : Int) ≤ (j : Int) := by omega
        have HHX := Lib.hid HX
        clear HX
        go_wp2_with fail
        refine (awake09 _).mono ?_
        rintro e w9 ⟨rfl, t9⟩
        go_wp2_with fail
        go_ret
        exact ⟨rfl, (Has.touch HHX.out).trans t9⟩
theorem lineSteps_long {A A2 : Option Addr} {ln cp k c2 : Nat} (w : World) (n mode task : Int) (f : Fr) (hl : 1024 < ln ∨ 20 < k) :
    Calls Try.prog 3 #[.slice A ln cp, .int .i64 n, .int .i64 mode, .int .i64 task, .agg (Fr.cells f), .slice A2 k c2] w fun e w' => e = .returned (.bool true) ∧ Touch [] w w' := by
  obtain ⟨op, line, fa, fb, st, ⟨on, wc, wi, hit⟩, ret⟩ := f
  simp only [Fr.cells]
  by_cases h1 : 1024 < ln
  · have i1 : ((1024 : Int) < (ln : Int)) := by omega
    clear hl
    go_enter Try.func3, Try.ntmps3
    go_wp2_with (go_at_call 11; refine (awake09 _).mono ?_; rintro e w9 ⟨rfl, t9⟩)
    go_ret
    exact ⟨rfl, (((Touch.refl [] w).alloc _).alloc _).trans t9⟩
  · have i1 : ¬ ((1024 : Int) < (ln : Int)) := by omega
    have i2 : ((20 : Int) < (k : Int)) := by omega
    clear hl h1
    go_enter Try.func3, Try.ntmps3
    go_wp2_with (go_at_call 11; refine (awake09 _).mono ?_; rintro e w9 ⟨rfl, t9⟩)
    go_ret
    exact ⟨rfl, (((Touch.refl [] w).alloc _).alloc _).trans t9⟩

/-- WHATEVER THE INPUT. -/
theorem lineSteps_any {A A2 : Option Addr} {ln cp k c2 : Nat} {L : List Int} {ls : List (Value × List Op9)} (w : World) (hr : Rd w 1 A ln (L.flatMap fun x => [Value.int .u32 x])) (hL : ∀ x, x ∈ L → 0 ≤ x ∧ x < 4294967296) (n mode task : Int) (f : Fr) (hf : FrOk f) (hn : I64 n)
    (hA : Rd w 1 A2 k (ls.map Prod.fst)) (hl : ls.length = k) (hI : ∀ x, x ∈ ls → Inner w Op9.cells Op9Ok 8 x) :
    Calls Try.prog 3 #[.slice A ln cp, .int .i64 n, .int .i64 mode, .int .i64 task, .agg (Fr.cells f), .slice A2 k c2] w fun e w' => e = .returned (.bool true) ∧ Touch [] w w' := by
  have hr' : Rd w 1 A ln (u32s L) := by
    rw [← u32s_flatMap]
    exact hr
  by_cases h1 : ln ≤ 1024
  · by_cases h2 : k ≤ 20
    · exact lineSteps_some w hr' ⟨by have := len_of_rd hr'; omega, hL⟩ n mode task f hn hf.1 hf.2 hA hl h2 hI
    · exact lineSteps_long w n mode task f (Or.inr (by omega))
  · exact lineSteps_long w n mode task f (Or.inl (by omega))
end Go.Proofs.Ytlndihdlodempaa.Z
