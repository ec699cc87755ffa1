/- Package line: a run's notes, its ways on, its waiting. -/
import Derived.Test.YtlndihdlodempaaZRun2
import Derived.Test.YtlndihdlodempaaZFlat3
set_option linter.unusedVariables false
set_option linter.unusedSimpArgs false
namespace Go.Proofs.Ytlndihdlodempaa.Z
open Go.RowKit

/-- The world holds a run, at block r, over the memory at m, a. -/
def RunHas (S0 : List Nat) (w0 : World) (m a r : Nat) (rs : List Res) (s : Rn) (w : World) : Prop :=
  ∃ nv, Has S0 w0 w (.mem m a s.L :: .blk r (rcells m s nv) :: .own 98 4 nv s.notes.length (nts s.notes) :: rs)

set_option maxRecDepth 100000 in
theorem run_go {S0 : List Nat} {w0 w : World} {m a r : Nat} {nv : Value} {rs : List Res} {s : Rn} (H : Has S0 w0 w (.mem m a s.L :: .blk r (rcells m s nv) :: rs)) (k : Int) :
    Calls Try.prog 60 #[.pointer (some ⟨r, 0, none⟩), .int .i64 k] w fun e w' => e = .returned (.tuple #[]) ∧ Has S0 w0 w' (.mem m a (s.goto k).L :: .blk r (rcells m (s.goto k) nv) :: rs) := by
  obtain ⟨n, mode, task, ⟨op, line, fa, fb, st, ⟨on, wc, wi, hit⟩, ret⟩, ⟨ak, ac, ax, ay, ao⟩, notes, L⟩ := s
  simp only [rcells, Rn.goto] at H ⊢
  obtain ⟨x0, x1, x2⟩ := H.blk1.own
  go_enter Try.func60, Try.ntmps60
  go_wp2
  go_end0
  exact ⟨rfl, H.set1 5 _⟩

theorem run_go_nil (w : World) (k : Int) :
    Calls Try.prog 60 #[.pointer none, .int .i64 k] w fun e w' => e = .returned (.tuple #[]) ∧ Touch [] w w' := by
  go_enter Try.func60, Try.ntmps60
  go_wp2
  go_end0
  exact ⟨rfl, Touch.refl _ _⟩

set_option maxRecDepth 100000 in
theorem run_end {S0 : List Nat} {w0 w : World} {m a r : Nat} {nv : Value} {rs : List Res} {s : Rn} (H : Has S0 w0 w (.mem m a s.L :: .blk r (rcells m s nv) :: rs)) (b : Bool) :
    Calls Try.prog 48 #[.pointer (some ⟨r, 0, none⟩), .bool b] w fun e w' => e = .returned (.tuple #[]) ∧ Has S0 w0 w' (.mem m a (s.fin b).L :: .blk r (rcells m (s.fin b) nv) :: rs) := by
  obtain ⟨n, mode, task, ⟨op, line, fa, fb, st, ⟨on, wc, wi, hit⟩, ret⟩, ⟨ak, ac, ax, ay, ao⟩, notes, L⟩ := s
  simp only [rcells, Rn.fin] at H ⊢
  obtain ⟨x0, x1, x2⟩ := H.blk1.own
  cases b with
  | true =>
    go_enter Try.func48, Try.ntmps48
    go_wp2
    go_end0
    exact ⟨rfl, by first | exact (H.set1 13 _).set1 13 _ | exact H.set1 13 _⟩
  | false =>
    go_enter Try.func48, Try.ntmps48
    go_wp2
    go_end0
    exact ⟨rfl, H.set1 13 _⟩

theorem run_end_nil (w : World) (b : Bool) :
    Calls Try.prog 48 #[.pointer none, .bool b] w fun e w' => e = .returned (.tuple #[]) ∧ Touch [] w w' := by
  go_enter Try.func48, Try.ntmps48
  go_wp2
  refine bodyPost_ret (v := .tuple #[]) (by simp [results, Try.results48, go_sem]) rfl ⟨rfl, Touch.refl _ _⟩

set_option maxHeartbeats 400000 in
set_option maxRecDepth 100000 in
theorem run_wake {S0 : List Nat} {w0 w : World} {m a r : Nat} {nv : Value} {rs : List Res} {s : Rn} (H : Has S0 w0 w (.mem m a s.L :: .blk r (rcells m s nv) :: rs)) (c : Int) :
    Calls Try.prog 49 #[.pointer (some ⟨r, 0, none⟩), .int .i64 c] w fun e w' => e = .returned (.tuple #[]) ∧ Has S0 w0 w' (.mem m a (s.wake c).L :: .blk r (rcells m (s.wake c) nv) :: rs) := by
  obtain ⟨n, mode, task, ⟨op, line, fa, fb, st, ⟨on, wc, wi, hit⟩, ret⟩, ⟨ak, ac, ax, ay, ao⟩, notes, L⟩ := s
  simp only [Rn.wake] at H ⊢
  have hb := fun W => begin_any mode c W
  generalize beginA mode c = k at hb ⊢
  obtain ⟨ko, kc, ki, kh⟩ := k
  simp only [rcells, Wk.cells] at H hb ⊢
  obtain ⟨x0, x1, x2⟩ := H.blk1.own
  have HB := Lib.hid hb
  have HH := Lib.hid H
  clear hb H
  go_enter Try.func49, Try.ntmps49
  go_wp2_with fail
  refine (HB.out _).mono ?_
  rintro e w1 ⟨rfl, t1⟩
  have H1 := HH.out.grow t1
  obtain ⟨y0, y1, y2⟩ := H1.blk1.own
  go_wp2
  go_end0
  exact ⟨rfl, ((((H1.set1 9 _).set1 10 _).set1 11 _).set1 12 _)⟩

theorem run_wake_nil (w : World) (c : Int) :
    Calls Try.prog 49 #[.pointer none, .int .i64 c] w fun e w' => e = .returned (.tuple #[]) ∧ Touch [] w w' := by
  go_enter Try.func49, Try.ntmps49
  go_wp2
  go_end0
  exact ⟨rfl, Touch.refl _ _⟩

theorem note_info : (Try.prog.info? 98).map (fun i => (i.zero, i.size, i.bytes)) = some (some (.agg #[.int .i64 0, .int .i64 0, .int .i64 0, .int .i64 0]), 4, 32) := by kernel_rfl

theorem nts_length (l : List Nt) : (nts l).length = l.length * 4 := by
  induction l with
  | nil => rfl
  | cons x l ih =>
    have : nts (x :: l) = Nt.cells x ++ nts l := rfl
    rw [this, List.length_append, ih, List.length_cons]
    simp only [Nt.cells, List.length_cons, List.length_nil]
    omega
theorem nts_one (l : List Nt) : ∀ u ∈ nts l, u.oneCell' = true := by
  intro u hu
  simp only [nts, List.mem_flatMap] at hu
  obtain ⟨x, _, hx⟩ := hu
  simp only [Nt.cells, List.mem_cons, List.not_mem_nil, or_false] at hx
  rcases hx with rfl | rfl | rfl | rfl <;> rfl

/-- More is appended to what is owned. -/
theorem Has.grown {S0 : List Nat} {w0 w w' : World} {e size n m : Nat} {v v' : Value} {xs ys : List Value} {rs : List Res} (h : Has S0 w0 w (.own e size v n xs :: rs)) (hown : w'.ownsRow 0 e size v' m ys) (hg : w.grownBy w' v.ownBlock)
    (hat : v'.ownBlock = v.ownBlock ∨ v'.ownBlock = some w.heap.size) : Has S0 w0 w' (.own e size v' m ys :: rs) :=
  Has.upd (xs := [.own e size v n xs]) (rs := rs) [.own e size v' m ys] (S := v.ownBlock.toList) h ((Touch.refl _ w).grown hg (by intro k hk; simp [hk])) (fun k hk => Or.inl (by simp [foots, Res.foot]; simpa using hk)) (by simp [Res.holds]; exact hown) (by simp) (by
    intro r hr k hk
    simp only [List.mem_singleton] at hr
    subst hr
    simp only [Res.foot, Option.mem_toList] at hk
    rcases hat with h' | h'
    · rw [h'] at hk
      exact Or.inl (by simp [foots, Res.foot]; simpa using hk)
    · rw [h'] at hk
      simp at hk
      exact Or.inr (by omega))

theorem Has.own3 {S0 : List Nat} {w0 w : World} {x y : Res} {e size n : Nat} {v : Value} {xs : List Value} {rs : List Res} (h : Has S0 w0 w (x :: y :: .own e size v n xs :: rs)) : w.ownsRow 0 e size v n xs := h.all (.own e size v n xs) (by simp)

theorem Has.grown3 {S0 : List Nat} {w0 w w' : World} {x y : Res} {e size n m : Nat} {v v' : Value} {xs ys : List Value} {rs : List Res} (h : Has S0 w0 w (x :: y :: .own e size v n xs :: rs)) (hown : w'.ownsRow 0 e size v' m ys) (hg : w.grownBy w' v.ownBlock)
    (hat : v'.ownBlock = v.ownBlock ∨ v'.ownBlock = some w.heap.size) : Has S0 w0 w' (x :: y :: .own e size v' m ys :: rs) :=
  ((h.rot3).grown hown hg hat).back3

theorem wpList_from {P : Program} {ops : Array Oper} {Q : Exit → Act → World → Prop} {l : List Oper} {a : Act} {W0 : World} {Facts : World → Prop} (h : ∀ W, Facts W → wpList P ops Q l a W) (h0 : Facts W0) : wpList P ops Q l a W0 := h _ h0

theorem rd_one4 {w : World} {b : Nat} {c0 c1 c2 c3 : Value} (h : Blk w b #[c0, c1, c2, c3]) : Rd w 4 (some ⟨b, 0, none⟩) 1 [c0, c1, c2, c3] :=
  ⟨rfl, fun _ => ⟨_, rfl, h.lt, fun j u hu => by
    rw [Addr.add_lit, Nat.zero_add, h.cell, ← hu]
    simp⟩⟩

set_option maxHeartbeats 1600000 in
set_option maxRecDepth 100000 in
theorem run_note {S0 : List Nat} {w0 w : World} {m a r : Nat} {rs : List Res} {s : Rn} (H : RunHas S0 w0 m a r rs s w) (hlen : s.notes.length ≤ 1000) (what arg : Int) :
    Calls Try.prog 59 #[.pointer (some ⟨r, 0, none⟩), .int .i64 what, .int .i64 arg] w fun e w' => e = .returned (.tuple #[]) ∧ RunHas S0 w0 m a r rs (s.note what arg) w' := by
  obtain ⟨n, mode, task, ⟨op, line, fa, fb, st, ⟨on, wc, wi, hit⟩, ret⟩, ⟨ak, ac, ax, ay, ao⟩, notes, L⟩ := s
  simp only [RunHas, Rn.note] at H hlen ⊢
  obtain ⟨nv, H⟩ := H
  simp only [rcells] at H ⊢
  obtain ⟨x0, x1, x2⟩ := H.blk1.own
  obtain ⟨i0, hi0, hz0, hz1, hz2⟩ := info_parts note_info
  have HI := Lib.hid (show _ ∧ _ ∧ _ ∧ _ from ⟨hi0, hz0, hz1, hz2⟩)
  have HL := Lib.hid hlen
  have HH := Lib.hid H
  clear hi0 hz0 hz1 hz2 hlen H
  go_enter Try.func59, Try.ntmps59
  go_wp2_with fail
  refine region_flat (by kernel_rfl) (by kernel_rfl) ?_
  simp only [probed, probes, List.nil_append]
  go_wp2_with (at_builtin; refine wpList_from (Facts := fun W => Has S0 w0 W (.mem m a L :: .blk r #[.pointer (some ⟨m, 0, none⟩), .int .i64 n, .int .i64 mode, .int .i64 task, .int .i64 op, .int .i64 line, .int .u32 fa, .int .u32 fb, .int .i64 st, .bool on, .int .i64 wc, .int .i64 wi, .bool hit, .int .i64 ret, .int .i64 ak, .int .i64 ac, .int .u32 ax, .int .u32 ay, .int .u32 ao, nv] :: .own 98 4 nv notes.length (nts notes) :: .blk w.heap.size #[.int .i64 task, .int .i64 what, .int .i64 0, .int .i64 arg] :: rs)) ?_ (by first | exact HH.out.al31.drew | exact HH.out.drew.al31); intro W HW; refine wpList_append_rd (P := Try.prog) _ rfl (.tmp 12) (.tmp 20) _ rfl 0 98 i0 _ 4 32 Try.underlying41 HI.out.1 HI.out.2.1 HI.out.2.2.1 HI.out.2.2.2 rfl (by omega) nv notes.length (nts notes) rfl HW.own3 (some ⟨w.heap.size, 0, none⟩) 1 1 [.int .i64 task, .int .i64 what, .int .i64 0, .int .i64 arg] rfl (rd_one4 HW.blk3) (by simp [Value.oneCell']) (by have := HL.out; simp only [maxLen]; omega) (by have := HL.out; omega) (by omega) ?_; intro v' w' hown hg hat; obtain ⟨p', c', rfl⟩ := owns_slice hown; have H1 := HW.grown3 hown hg hat; clear HW hown hg hat x0 x1 x2; obtain ⟨y0, y1, y2⟩ := H1.blk1.own)
  rw [only_normal]
  have HW := H1.set1 19 (.slice p' (notes.length + 1) c')
  go_end0
  have e1 : (notes ++ [(⟨task, what, 0, arg⟩ : Nt)]).length = notes.length + 1 := by simp
  have e2 : nts (notes ++ [(⟨task, what, 0, arg⟩ : Nt)]) = nts notes ++ [.int .i64 task, .int .i64 what, .int .i64 0, .int .i64 arg] := by simp [nts, Nt.cells]
  refine ⟨rfl, .slice p' (notes.length + 1) c', ?_⟩
  rw [e1, e2]
  exact HW.cut31

end Go.Proofs.Ytlndihdlodempaa.Z
