/- 6 texts of this claim, joined: what each shows stands at its own head. -/
import Derived.Test.YtlndihdlodempaaZM02MutexFair
import Derived.Test.YtlndihdlodempaaZAlone
import Derived.Test.YtlndihdlodempaaZHas3
import Derived.Test.YtlndihdlodempaaZFirst2
/- The mutex's game: each turn keeps what holds; who gets in is the first one. -/
set_option linter.unusedVariables false
set_option linter.unusedSimpArgs false
namespace Go.Proofs.Ytlndihdlodempaa.Z
open Go.RowKit

section
variable {n k : Nat} {G : Gm} {Q : List Nat} {s : Rn}
theorem pick_go (h1 : G.st k ≠ 1) (hs : G.step k = (false, s)) (h : ¬ (G.st k = 3 ∧ s.f.wk.on = false)) : G.pick k = ⟨G.M.put k s.f (G.st k) s.L, G.times, gmOrder G k s, G.inside⟩ := by
  unfold Gm.pick
  rw [if_neg h1, hs]
  unfold gmAfter
  simp only [Bool.false_eq_true, false_and, if_false]
  rw [if_neg h]
theorem pick_done (hs : G.step k = (false, s)) (h3 : G.st k = 3) (hw : s.f.wk.on = false) : G.pick k = ⟨G.M.put k Fr.zero 0 s.L, G.times, gmOrder G k s, G.inside⟩ := by
  unfold Gm.pick
  rw [if_neg (by omega), hs]
  unfold gmAfter
  simp only [Bool.false_eq_true, false_and, if_false]
  rw [if_pos ⟨h3, hw⟩]
theorem pick_in (hs : G.step k = (true, s)) (h0 : G.st k = 0) : G.pick k = ⟨G.M.put k Fr.zero 1 s.L, G.times.set k (G.times.getD k 0 + 1), (gmOrder G k s).tail, k⟩ := by
  unfold Gm.pick
  rw [if_neg (by omega), hs]
  unfold gmAfter
  rw [if_pos ⟨rfl, h0⟩]
theorem pick_out (hs : G.step k = (true, s)) (h2 : G.st k = 2) (hw : s.f.wk.on = false) : G.pick k = ⟨G.M.put k Fr.zero 0 s.L, G.times, gmOrder G k s, G.inside⟩ := by
  unfold Gm.pick
  rw [if_neg (by omega), hs]
  unfold gmAfter
  rw [if_neg (by simp only; omega), if_pos ⟨rfl, hw⟩]
theorem pick_wakes (hs : G.step k = (true, s)) (h2 : G.st k = 2) (hw : s.f.wk.on = true) : G.pick k = ⟨G.M.put k s.f 3 s.L, G.times, gmOrder G k s, G.inside⟩ := by
  unfold Gm.pick
  rw [if_neg (by omega), hs]
  unfold gmAfter
  rw [if_neg (by simp only; omega), if_neg (by rw [hw]; simp)]
  rfl
theorem good_false (hs : G.step k = (false, s)) : G.good k := fun _ h => by rw [hs] at h; cases h
theorem good_not (h : G.st k ≠ 0) : G.good k := fun _ _ h0 => absurd h0 h
theorem order_no (h : regs s = false) : gmOrder G k s = G.order := by unfold gmOrder; rw [h]; rfl
theorem order_yes (h : regs s = true) : gmOrder G k s = G.order ++ [(k : Int)] := by unfold gmOrder; rw [if_pos h]

theorem step_of {b : Bool} {f' : Fr} {N : List Nt} {L' : List Int} (H : GInv n G Q) (h : Ln (G.st k) n k G.M.mode (G.f k) G.M.L b f' N L') : ∃ acc, G.step k = (b, ⟨n, G.M.mode, k, f', acc, N, L'⟩) := by
  obtain ⟨acc, h⟩ := h
  refine ⟨acc, ?_⟩
  unfold Gm.step Mt.run
  rw [H.num]
  exact h


variable {m : Nat → Int} {p : Nat} {v : Int}
theorem nx_upd_nx (hp : p < n) : nxOf n (upd m (8 + p) v) = fun j => if j = p then v else nxOf n m j := by
  funext j
  unfold nxOf upd
  by_cases h : j = p
  · subst h; simp [hp]
  · rw [if_neg h]
    by_cases hj : j < n
    · rw [if_pos hj, if_pos hj, if_neg (by omega)]
    · rw [if_neg hj, if_neg hj]
theorem bl_upd_nx (hp : p < n) : blOf n (upd m (8 + p) v) = blOf n m := by
  funext j
  unfold blOf upd
  by_cases hj : j < n
  · rw [if_pos hj, if_pos hj, if_neg (by omega)]
  · rw [if_neg hj, if_neg hj]
theorem bl_upd_bl (hp : p < n) : blOf n (upd m (8 + n + p) v) = fun j => if j = p then v else blOf n m j := by
  funext j
  unfold blOf upd
  by_cases h : j = p
  · subst h; simp [hp]
  · rw [if_neg h]
    by_cases hj : j < n
    · rw [if_pos hj, if_pos hj, if_neg (by omega)]
    · rw [if_neg hj, if_neg hj]
theorem nx_upd_bl : nxOf n (upd m (8 + n + p) v) = nxOf n m := by
  funext j
  unfold nxOf upd
  by_cases hj : j < n
  · rw [if_pos hj, if_pos hj, if_neg (by omega)]
  · rw [if_neg hj, if_neg hj]
theorem nx_upd_0 : nxOf n (upd m 0 v) = nxOf n m := by
  funext j
  unfold nxOf upd
  by_cases hj : j < n
  · rw [if_pos hj, if_pos hj, if_neg (by omega)]
  · rw [if_neg hj, if_neg hj]
theorem bl_upd_0 : blOf n (upd m 0 v) = blOf n m := by
  funext j
  unfold blOf upd
  by_cases hj : j < n
  · rw [if_pos hj, if_pos hj, if_neg (by omega)]
  · rw [if_neg hj, if_neg hj]
theorem upd_far {c d : Nat} (h : d ≠ c) : upd m c v d = m d := by unfold upd; rw [if_neg h]
theorem upd_at {c : Nat} : upd m c v c = v := by unfold upd; rw [if_pos rfl]
theorem main_at {L : List Int} {c : Nat} (h : c < 8 + 2 * n) : mainOf n L c = L.getD c 0 := by unfold mainOf; rw [if_pos h]

abbrev KsOf (G : Gm) (k : Nat) (X : Mk) : Nat → Mk := fun j => if j = k then X else mkG (G.st j) (G.f j)
theorem ks_at {X : Mk} : KsOf G k X k = X := if_pos rfl
theorem ks_far {X : Mk} : ∀ j, j ≠ k → KsOf G k X j = mkG (G.st j) (G.f j) := fun j h => if_neg h

/-- Nothing of the queue has changed. -/
theorem GInv.stay (H : GInv n G Q) (hk : k < n) {f' : Fr} {s' : Int} {L' : List Int} (hL : L'.length = 8 + 4 * n) (hm : mainOf n L' = mainOf n G.M.L) (hmk : mkG s' f' = mkG (G.st k) (G.f k)) (htk : TkOk n G.M.mode (mainOf n L') k s' f') (h0 : G.st k ≠ 1) (h1 : s' ≠ 1) :
    GInv n ⟨G.M.put k f' s' L', G.times, G.order, G.inside⟩ Q :=
  H.put hk hL H.tml (ks' := fun j => mkG (G.st j) (G.f j)) (fun j => by
    by_cases h : j = k
    · rw [if_pos h, hmk, h]
    · rw [if_neg h]) htk (fun j hj _ => by rw [hm]; exact H.tk j hj) (by rw [hm]; exact H.mx) H.ord (H.ins.keep h0 h1)

/-- A task that isn't in the queue goes on outside of it. -/
theorem GInv.outs (H : GInv n G Q) (hk : k < n) {f' : Fr} {s' : Int} {L' : List Int} {X : Mk} (hL : L'.length = 8 + 4 * n) (hX : mkG s' f' = X) (h0 : (mkG (G.st k) (G.f k)).inq = false) (hx : X.inq = false)
    (hn : ∀ j, j ≠ k → nxOf n (mainOf n L') j = nxOf n (mainOf n G.M.L) j) (hb : ∀ j, j ≠ k → blOf n (mainOf n L') j = blOf n (mainOf n G.M.L) j) (e : mainOf n L' 0 = mainOf n G.M.L 0)
    (hp : ((X = .nx ∨ X = .nb) → nxOf n (mainOf n L') k = 0) ∧ (X = .nb → blOf n (mainOf n L') k = 1)) (htk : TkOk n G.M.mode (mainOf n L') k s' f') (h1 : G.st k ≠ 1) (h2 : s' ≠ 1) :
    GInv n ⟨G.M.put k f' s' L', G.times, G.order, G.inside⟩ Q := by
  have ht : ∀ Y : Mk, Y.inq = false → Y.turn = false := fun Y h => by cases Y <;> first | rfl | cases h
  refine H.put hk hL H.tml (ks' := KsOf G k X) (fun j => by rw [hX]) htk (fun j hj hjk => (H.tk j hj).mono (fun h => ?_) (fun h => ?_)) (H.mx.outs hk h0 ks_far (by rw [ks_at]; exact hx) hn hb e (by rw [ks_at]; exact hp)) (H.ord.same fun j => ?_) (H.ins.keep h1 h2)
  · have := hb j hjk
    rw [bl_at hj, bl_at hj] at this
    rw [this]; exact h
  · have := hn j hjk
    rw [nx_at hj, nx_at hj] at this
    exact this
  · by_cases h : j = k
    · subst h; rw [ks_at, ht X hx]; exact (ht _ h0).symm
    · rw [ks_far j h]

theorem tlw_one {x : Nat} {r : List Nat} (hn : (x :: r).Nodup) (h : tlw (x :: r) = (x : Int) + 1) : r = [] := by
  cases r with
  | nil => rfl
  | cons y r =>
    exfalso
    obtain ⟨z, h1, h2⟩ := tlw_mem (Q := y :: r) (by simp)
    have h3 : tlw (x :: y :: r) = tlw (y :: r) := rfl
    rw [h3, h2] at h
    have : z = x := by omega
    subst this
    exact (List.nodup_cons.1 hn).1 h1
theorem nts_append (Q : List Nat) (k : Nat) : nts_ (Q ++ [k]) = nts_ Q ++ [(k : Int)] := by simp [nts_]

/-- Who comes in front of all gets in. -/
theorem GInv.heads (H : GInv n G Q) (hk : k < n) {r : List Nat} (hq : Q = k :: r) {f' : Fr} {s' : Int} {L' : List Int} {X : Mk} (hL : L'.length = 8 + 4 * n) (hX : mkG s' f' = X) (hm : mainOf n L' = mainOf n G.M.L)
    (hh : Head (KsOf G k X) (nxOf n (mainOf n G.M.L)) (blOf n (mainOf n G.M.L)) (k :: r)) (hi : X.inq = true) : MxIs n (KsOf G k X) (mainOf n L' 0) (nxOf n (mainOf n L')) (blOf n (mainOf n L')) Q :=
  H.mx.heads hk hq ks_far (by rw [hm]; exact hh) (fun j => by rw [hm]) (fun j => by rw [hm]) (by rw [hm]) (by rw [ks_at]; exact hi)
end
end Go.Proofs.Ytlndihdlodempaa.Z

/- The mutex's game: each turn keeps what holds; who gets in is the first one. -/
set_option linter.unusedVariables false
set_option linter.unusedSimpArgs false
namespace Go.Proofs.Ytlndihdlodempaa.Z
open Go.RowKit

section
variable {n k : Nat} {G : Gm} {Q : List Nat}
theorem step_at {st : Int} {b : Bool} {f' : Fr} {N : List Nt} {L' : List Int} (H : GInv n G Q) (h : G.st k = st) (hl : Ln st n k G.M.mode (G.f k) G.M.L b f' N L') : ∃ acc, G.step k = (b, ⟨n, G.M.mode, k, f', acc, N, L'⟩) := by
  subst h
  exact step_of H hl
theorem regs_nil (a b c : Int) (f : Fr) (acc : Acc) (L : List Int) : regs ⟨a, b, c, f, acc, [], L⟩ = false := rfl
theorem regs_2 (a b c : Int) (f : Fr) (acc : Acc) (L : List Int) (k : Int) : regs ⟨a, b, c, f, acc, [⟨k, 2, 0, 2⟩], L⟩ = true := rfl
theorem regs_8 (a b c : Int) (f : Fr) (acc : Acc) (L : List Int) (k : Int) : regs ⟨a, b, c, f, acc, [⟨k, 8, 0, 0⟩], L⟩ = false := rfl
theorem mk_zero (f : Fr) (h : f.line = 0) : mkG 0 f = .out := by unfold mkG; rw [if_neg (by decide), if_neg (by decide), if_pos rfl, if_pos h]
theorem mk_three (f : Fr) : mkG 3 f = .out := by unfold mkG; rw [if_neg (by decide), if_neg (by decide), if_neg (by decide)]
theorem tk_zero {mode : Int} {m : Nat → Int} {j : Nat} : TkOk n mode m j 0 Fr.zero :=
  ⟨Or.inl ⟨rfl, (by first | decide | simp), (by first | decide | simp)⟩, (fun h => (by cases h)), fun _ => rfl, (fun _ h => (by cases h)), (fun h => (by cases h))⟩
theorem tk_one {mode : Int} {m : Nat → Int} {j : Nat} : TkOk n mode m j 1 Fr.zero :=
  ⟨Or.inr (Or.inl rfl), (fun h => (by cases h)), (fun h => (by rcases h with ⟨h, _⟩ | ⟨h, _⟩ <;> cases h)), (fun h => (by cases h)), (fun h => (by cases h))⟩

/-- A wake-up goes on. -/
theorem gm_wake (H : GInv n G Q) (hk : k < n) (hw : (G.f k).wk.on = true) : G.good k ∧ GInv n (G.pick k) Q := by
  have T := H.tk k hk
  obtain ⟨hst, h0, hi⟩ := T.wk hw
  obtain ⟨acc, hs⟩ := step_of H (ln_wake (n := n) (k := k) (mode := G.M.mode) (L := G.M.L) (G.st k) hw)
  obtain ⟨g1, g2, g3⟩ := wakeG (L := G.M.L) H.h1 H.h2 H.len hw h0 hi
  refine ⟨good_false hs, ?_⟩
  have h1 : G.st k ≠ 1 := by omega
  have hL : (wakeA G.M.L n (G.f k).wk).2.2.length = 8 + 4 * n := by rw [g2]; exact H.len
  by_cases hd : G.st k = 3 ∧ (wakeA G.M.L n (G.f k).wk).1.on = false
  · rw [pick_done hs hd.1 hd.2, order_no (regs_nil _ _ _ _ _ _)]
    refine H.stay hk hL g1 ?_ (by rw [g1]; exact tk_zero) h1 (by decide)
    rw [hd.1, mk_three, mk_zero _ rfl]
  · rw [pick_go h1 hs hd, order_no (regs_nil _ _ _ _ _ _)]
    refine H.stay hk hL g1 rfl ?_ h1 h1
    rw [g1]
    refine ⟨?_, fun h => ⟨hst, g3 h⟩, T.st0, T.w4, T.w8⟩
    rcases T.shape with h | h | h | h
    · exact Or.inl h
    · exact Or.inr (Or.inl h)
    · exact Or.inr (Or.inr (Or.inl h))
    · refine Or.inr (Or.inr (Or.inr ⟨h.1, ?_⟩))
      cases hx : (wakeA G.M.L n (G.f k).wk).1.on
      · exact absurd ⟨h.1, hx⟩ hd
      · rfl

/-- Who is in goes out. -/
theorem gm_in (H : GInv n G Q) (hk : k < n) (h : G.st k = 1) : G.good k ∧ GInv n (G.pick k) Q := by
  refine ⟨fun h0 => absurd h h0, ?_⟩
  unfold Gm.pick
  rw [if_pos h]
  have hx : mkG (G.st k) (G.f k) = .hd := by rw [h]; rfl
  refine H.put hk H.len H.tml (ks' := fun j => mkG (G.st j) (G.f j)) (fun j => ?_) ?_ (fun j hj _ => H.tk j hj) H.mx H.ord ?_
  · by_cases e : j = k
    · rw [if_pos e, e, hx]; rfl
    · rw [if_neg e]
  · exact ⟨Or.inr (Or.inr (Or.inl ⟨rfl, (by first | decide | simp), (by first | decide | simp)⟩)), (fun h => (by cases h)), fun _ => rfl, (fun h => (by cases h)), (fun _ h => (by cases h))⟩
  · refine Or.inl ⟨rfl, fun j hj => ?_⟩
    show (if j = k then (2 : Int) else G.st j) ≠ 1
    by_cases e : j = k
    · rw [if_pos e]; decide
    · rw [if_neg e]
      intro h2
      exact e (H.mx.one hj hk (by show (mkG (G.st j) (G.f j)).turn = true; rw [h2]; rfl) (by show (mkG (G.st k) (G.f k)).turn = true; rw [hx]; rfl))

theorem gm_e0 (H : GInv n G Q) (hk : k < n) (hw : (G.f k).wk.on = false) (h : G.st k = 0) (hln : (G.f k).line = 0) : G.good k ∧ GInv n (G.pick k) Q := by
  have T := H.tk k hk
  have hl := ln_e0 (mode := G.M.mode) H.h1 H.h2 hk H.len hw hln
  obtain ⟨acc, hs⟩ := step_at H h hl
  refine ⟨good_false hs, ?_⟩
  rw [pick_go (by omega) hs (by omega), order_no (regs_nil _ _ _ _ _ _), h]
  have hm : mainOf n (G.M.L.set (8 + k) 0) = upd (mainOf n G.M.L) (8 + k) 0 := main_set H.len (by omega)
  have hx : mkG (G.st k) (G.f k) = .out := by rw [h]; exact mk_zero _ hln
  refine H.outs (X := .nx) hk (by simp [H.len]) rfl (by rw [hx]; rfl) rfl ?_ ?_ ?_ ?_ ?_ (by omega) (by decide)
  · intro j hj; rw [hm, nx_upd_nx hk]; exact if_neg hj
  · intro j hj; rw [hm, bl_upd_nx hk]
  · rw [hm]; exact upd_far (by omega)
  · refine ⟨fun _ => ?_, (fun h => (by cases h))⟩
    rw [hm, nx_upd_nx hk]; exact if_pos rfl
  · exact ⟨Or.inl ⟨rfl, (by first | decide | simp), (by first | decide | simp)⟩, fun h => (by rw [hw] at h; cases h), fun _ => T.st0 (Or.inl ⟨h, by rw [hln]; decide⟩), (fun _ h => (by cases h)), (fun h => (by cases h))⟩

theorem gm_e1 (H : GInv n G Q) (hk : k < n) (hw : (G.f k).wk.on = false) (h : G.st k = 0) (hln : (G.f k).line = 1) : G.good k ∧ GInv n (G.pick k) Q := by
  have T := H.tk k hk
  have hl := ln_e1 (mode := G.M.mode) H.h1 H.h2 hk H.len hw hln
  obtain ⟨acc, hs⟩ := step_at H h hl
  refine ⟨good_false hs, ?_⟩
  rw [pick_go (by omega) hs (by omega), order_no (regs_nil _ _ _ _ _ _), h]
  have hm : mainOf n (G.M.L.set (8 + n + k) 1) = upd (mainOf n G.M.L) (8 + n + k) 1 := main_set H.len (by omega)
  have hx : mkG (G.st k) (G.f k) = .nx := by rw [h]; unfold mkG; rw [hln]; rfl
  have hpre := (H.mx.pre k hk).1 (Or.inl hx)
  refine H.outs (X := .nb) hk (by simp [H.len]) rfl (by rw [hx]; rfl) rfl ?_ ?_ ?_ ?_ ?_ (by omega) (by decide)
  · intro j hj; rw [hm, nx_upd_bl]
  · intro j hj; rw [hm, bl_upd_bl hk]; exact if_neg hj
  · rw [hm]; exact upd_far (by omega)
  · refine ⟨fun _ => ?_, fun _ => ?_⟩
    · rw [hm, nx_upd_bl]; exact hpre
    · rw [hm, bl_upd_bl hk]; exact if_pos rfl
  · exact ⟨Or.inl ⟨rfl, (by first | decide | simp), (by first | decide | simp)⟩, fun h => (by rw [hw] at h; cases h), fun _ => T.st0 (Or.inl ⟨h, by rw [hln]; decide⟩), (fun _ h => (by cases h)), (fun h => (by cases h))⟩

theorem gm_e2 (H : GInv n G Q) (hk : k < n) (hw : (G.f k).wk.on = false) (h : G.st k = 0) (hln : (G.f k).line = 2) : G.good k ∧ ∃ Q', GInv n (G.pick k) Q' := by
  have T := H.tk k hk
  have hm : mainOf n (G.M.L.set 0 (k + 1)) = upd (mainOf n G.M.L) 0 (k + 1) := main_set H.len (by omega)
  have hx : mkG (G.st k) (G.f k) = .nb := by rw [h]; unfold mkG; rw [hln]; rfl
  have hpre := (H.mx.pre k hk).1 (Or.inr hx)
  have h00 : mainOf n G.M.L 0 = G.M.L.getD 0 0 := main_at (by omega)
  have hnq : k ∉ Q := fun hm => by have := (H.mx.inq k hk).1 hm; simp only [hx] at this; cases this
  have hn : ∀ j, nxOf n (mainOf n (G.M.L.set 0 (k + 1))) j = nxOf n (mainOf n G.M.L) j := fun j => by rw [hm, nx_upd_0]
  have hb : ∀ j, blOf n (mainOf n (G.M.L.set 0 (k + 1))) j = blOf n (mainOf n G.M.L) j := fun j => by rw [hm, bl_upd_0]
  have e0 : mainOf n (G.M.L.set 0 (k + 1)) 0 = k + 1 := by rw [hm]; exact upd_at
  have hoth : ∀ j, j < n → j ≠ k → TkOk n G.M.mode (mainOf n (G.M.L.set 0 (k + 1))) j (G.st j) (G.f j) := fun j hj _ => (H.tk j hj).mono (fun h => by rw [hm, upd_far (by omega)]; exact h) (fun _ => by rw [hm, upd_far (by omega)])
  by_cases hz : G.M.L.getD 0 0 = 0
  · have hl := ln_e2a (mode := G.M.mode) H.h1 H.h2 hk H.len hw hln hz
    obtain ⟨acc, hs⟩ := step_at H h hl
    have hQ : Q = [] := tlw_zero (by rw [← H.mx.tl, h00]; exact hz)
    have hnone := H.mx.none_of (by rw [h00]; exact hz)
    have ho : G.order = [] := by rw [H.ord.2 hnone, hQ]; rfl
    have hor := order_yes (G := G) (k := k) (regs_2 n G.M.mode k { G.f k with a := G.M.L.getD 0 0 } acc (G.M.L.set 0 (k + 1)) k)
    have hin : G.inside = -1 := by
      rcases H.ins with h1 | ⟨j, h1, h2, h3⟩
      · exact h1.1
      · have := hnone j h1
        simp only [h3] at this
        cases this
    refine ⟨fun _ _ _ => ⟨hin, [], ?_⟩, [k], ?_⟩
    · rw [hs]; simp only; rw [hor, ho]; rfl
    · rw [pick_in hs h, hor, ho]
      refine H.put hk (by simp [H.len]) (by simp [H.tml]) (ks' := KsOf G k .hd) (fun j => by rfl) tk_one hoth (H.mx.comes hk (by rw [hx]; rfl) (by rw [h00]; exact hz) hpre ks_far ks_at hn hb e0) ?_ ?_
      · refine ⟨fun x r hq _ => ?_, fun ha => ?_⟩
        · simp only [List.cons.injEq] at hq
          rw [← hq.2]; rfl
        · have := ha k hk
          rw [ks_at] at this
          cases this
      · exact Or.inr ⟨k, hk, rfl, if_pos rfl⟩
  · have hl := ln_e2b (mode := G.M.mode) H.h1 H.h2 hk H.len hw hln hz
    obtain ⟨acc, hs⟩ := step_at H h hl
    refine ⟨good_false hs, Q ++ [k], ?_⟩
    rw [pick_go (by omega) hs (by omega), order_yes (regs_2 _ _ _ _ _ _ _), h]
    have ht : mainOf n G.M.L 0 ≠ 0 := by rw [h00]; exact hz
    have hQ : Q ≠ [] := fun e => by have := H.mx.tl; rw [e] at this; exact ht this
    refine H.put hk (by simp [H.len]) H.tml (ks' := KsOf G k (.e3 (mainOf n G.M.L 0))) (fun j => by rw [h00]; rfl) ?_ hoth (H.mx.behind hk hx ht ks_far ks_at hn hb e0) ?_ (H.ins.keep (by omega) (by decide))
    · exact ⟨Or.inl ⟨rfl, (by first | decide | simp), (by first | decide | simp)⟩, fun h => (by rw [hw] at h; cases h), fun _ => T.st0 (Or.inl ⟨h, by rw [hln]; decide⟩), (fun _ h => (by cases h)), (fun h => (by cases h))⟩
    · refine ⟨fun x r hq htx => ?_, fun ha => ?_⟩
      · cases Q with
        | nil => exact absurd rfl hQ
        | cons y r' =>
          simp only [List.cons_append, List.cons.injEq] at hq
          obtain ⟨rfl, rfl⟩ := hq
          have hyk : y ≠ k := fun e => hnq (by simp [e])
          rw [ks_far y hyk] at htx
          rw [H.ord.1 y r' rfl htx, nts_append]
      · have : ∀ i, i < n → (mkG (G.st i) (G.f i)).turn = false := fun i hi => by
          by_cases e : i = k
          · rw [e, hx]; rfl
          · have := ha i hi
            rw [ks_far i e] at this
            exact this
        rw [H.ord.2 this, nts_append]

theorem gm_e3 (H : GInv n G Q) (hk : k < n) (hw : (G.f k).wk.on = false) (h : G.st k = 0) (hln : (G.f k).line = 3) : G.good k ∧ GInv n (G.pick k) Q := by
  have T := H.tk k hk
  have hx : mkG (G.st k) (G.f k) = .e3 (G.f k).a := by rw [h]; unfold mkG; rw [hln]; rfl
  obtain ⟨p, x, r, hQ, hkr, hpQ, hp, ha⟩ := H.mx.pred hk hx
  have hl := ln_e3 (mode := G.M.mode) H.h1 H.h2 hk hp H.len hw hln ha
  obtain ⟨acc, hs⟩ := step_at H h hl
  refine ⟨good_false hs, ?_⟩
  rw [pick_go (by omega) hs (by omega), order_no (regs_nil _ _ _ _ _ _), h]
  have hm : mainOf n (G.M.L.set (8 + p) (k + 1)) = upd (mainOf n G.M.L) (8 + p) (k + 1) := main_set H.len (by omega)
  rw [ha] at hx
  have hnp : nxOf n (mainOf n G.M.L) p = 0 := by
    have hc := H.mx.ch
    rw [hQ] at hc
    obtain ⟨p', h1, h2, h3⟩ := chain_pred hc hkr
    simp only [hx] at h2
    rcases h2 with ⟨h2, h4⟩ | ⟨h2, _⟩
    · have : (p : Int) = p' := by injection h2 with h2; omega
      have : p = p' := by omega
      rw [this]; exact h4
    · cases h2
  have hmx := H.mx.link (ks' := KsOf G k .e4) (nx' := nxOf n (mainOf n (G.M.L.set (8 + p) (k + 1)))) (bl' := blOf n (mainOf n (G.M.L.set (8 + p) (k + 1)))) (tail' := mainOf n (G.M.L.set (8 + p) (k + 1)) 0) hk hx ks_far ks_at (fun j hj => by rw [hm, nx_upd_nx hp]; exact if_neg hj) (by rw [hm, nx_upd_nx hp]; exact if_pos rfl) (fun j => by rw [hm, bl_upd_nx hp]) (by rw [hm]; exact upd_far (by omega))
  refine H.put hk (by simp [H.len]) H.tml (ks' := KsOf G k .e4) (fun j => rfl) ?_ (fun j hj hjk => (H.tk j hj).mono (fun h => ?_) (fun h => ?_)) hmx (H.ord.same fun j => ?_) (H.ins.keep (by omega) (by decide))
  · refine ⟨Or.inl ⟨rfl, (by first | decide | simp), (by first | decide | simp)⟩, fun hon => ⟨Or.inr ⟨rfl, rfl⟩, ?_⟩, fun hh => ?_, fun _ _ h4 => ?_, (fun h => (by cases h))⟩
    · have hon : (beginA G.M.mode ((8 + p : Nat) : Int)).on = true := hon
      show 0 ≤ (beginA G.M.mode ((8 + p : Nat) : Int)).i ∧ (beginA G.M.mode ((8 + p : Nat) : Int)).i < n
      unfold beginA at hon ⊢
      split
      · have := H.h1; constructor <;> simp only <;> omega
      · rename_i hm2; rw [if_neg hm2] at hon; cases hon
    · rcases hh with ⟨_, hh⟩ | ⟨hh, _⟩
      · exact absurd rfl hh
      · cases hh
    · have hz : (G.f k).st = 0 := T.st0 (Or.inl ⟨h, by rw [hln]; decide⟩)
      have h4 : stageA G.M.mode (G.f k).st = 4 := h4
      rw [hz] at h4
      unfold stageA at h4
      split at h4 <;> omega
  · rw [hm, upd_far (by omega)]; exact h
  · by_cases e : j = p
    · rw [e] at h
      rw [nx_at hp] at hnp
      exact absurd hnp h
    · rw [hm, upd_far (by omega)]
  · by_cases e : j = k
    · rw [e, ks_at, hx]; rfl
    · rw [ks_far j e]

theorem gm_e4 (H : GInv n G Q) (hk : k < n) (hw : (G.f k).wk.on = false) (h : G.st k = 0) (hln : (G.f k).line = 4) : G.good k ∧ GInv n (G.pick k) Q := by
  have T := H.tk k hk
  have hx : mkG (G.st k) (G.f k) = .e4 := by rw [h]; unfold mkG; rw [hln]; rfl
  have hl := ln_e4 (mode := G.M.mode) (L := G.M.L) H.h1 H.h2 hk hw hln
  obtain ⟨acc, hs⟩ := step_at H h hl
  obtain ⟨w1, w2, w3, w4⟩ := waitG (t := k) (c := 8 + n + k) (L := G.M.L) (mode := G.M.mode) (st := (G.f k).st) (p := fun v => v == 0) H.h1 H.h2 hk H.len (by omega)
  generalize waitA G.M.L n G.M.mode k (G.f k).st (8 + n + k : Nat) (fun v => v == 0) = R at hs w1 w2 w3 w4
  have hL : R.words.length = 8 + 4 * n := by rw [w2]; exact H.len
  cases hd : R.done with
  | false =>
    rw [hd] at hs
    obtain ⟨v1, v2⟩ := w4 hd
    refine ⟨good_false hs, ?_⟩
    rw [pick_go (by omega) hs (by omega), order_no (regs_nil _ _ _ _ _ _), h]
    refine H.stay hk hL w1 ?_ ?_ (by omega) (by decide)
    · rw [hx]; unfold mkG; simp only [hln]; rfl
    · refine ⟨Or.inl ⟨rfl, (by simp only [hln]; first | decide | simp), (by simp only [hln]; first | decide | simp)⟩, fun h => (by rw [hw] at h; cases h), fun hh => ?_, fun _ _ h4 => ?_, (fun h => (by cases h))⟩
      · rcases hh with ⟨_, hh⟩ | ⟨hh, _⟩
        · exact absurd hln hh
        · cases hh
      · rw [w1]
        cases hsn : R.seen with
        | true => have := (v1 hsn).1; simpa using this
        | false => exact absurd h4 (v2 hsn)
  | true =>
    rw [hd] at hs
    have hb0 : mainOf n G.M.L (8 + n + k) = 0 := by
      rcases (w3 hd).2 with ⟨h4, _⟩ | ⟨_, h5, _⟩
      · exact T.w4 h hln h4
      · simpa using h5
    obtain ⟨⟨r, hQ⟩, hnone⟩ := H.mx.first_of hk hx (by rw [bl_at hk, hb0]; decide)
    have ho : G.order = (k : Int) :: nts_ r := by rw [H.ord.2 hnone, hQ]; rfl
    have hin : G.inside = -1 := by
      rcases H.ins with h1 | ⟨j, h1, h2, h3⟩
      · exact h1.1
      · have := hnone j h1
        simp only [h3] at this
        cases this
    have hor := order_no (G := G) (k := k) (regs_nil n G.M.mode k { G.f k with st := R.stage } acc R.words)
    refine ⟨fun _ _ _ => ⟨hin, nts_ r, ?_⟩, ?_⟩
    · rw [hs]; simp only; rw [hor, ho]
    · rw [pick_in hs h, hor, ho]
      refine H.put hk hL (by simp [H.tml]) (ks' := KsOf G k .hd) (fun j => rfl) tk_one (fun j hj _ => by rw [w1]; exact H.tk j hj) (H.heads hk hQ hL rfl w1 (f' := Fr.zero) (s' := 1) (head_cons.2 (Or.inl ks_at)) rfl) ?_ (Or.inr ⟨k, hk, rfl, if_pos rfl⟩)
      refine ⟨fun x r' hq _ => ?_, fun ha => ?_⟩
      · rw [hQ] at hq
        simp only [List.cons.injEq] at hq
        rw [← hq.2]; rfl
      · have := ha k hk
        rw [ks_at] at this
        cases this

theorem gm_g6 (H : GInv n G Q) (hk : k < n) (hw : (G.f k).wk.on = false) (h : G.st k = 2) (hln : (G.f k).line = 6) : G.good k ∧ GInv n (G.pick k) Q := by
  have T := H.tk k hk
  have hx : mkG (G.st k) (G.f k) = .hd := by rw [h]; unfold mkG; rw [hln]; rfl
  obtain ⟨r, hQ⟩ := H.mx.head_of hk (by simp only [hx]; rfl)
  have hnk : nxOf n (mainOf n G.M.L) k = G.M.L.getD (8 + k) 0 := by rw [nx_at hk, main_at (by omega)]
  have hturn : ∀ X : Mk, X.turn = true → ∀ j, (KsOf G k X j).turn = (mkG (G.st j) (G.f j)).turn := fun X hX j => by
    by_cases e : j = k
    · rw [e, ks_at, hX, hx]; rfl
    · rw [ks_far j e]
  refine ⟨good_not (by omega), ?_⟩
  by_cases hz : G.M.L.getD (8 + k) 0 = 0
  · have hl := ln_g6a (mode := G.M.mode) H.h1 H.h2 hk H.len hw hln hz
    obtain ⟨acc, hs⟩ := step_at H h hl
    rw [pick_go (by omega) hs (by omega), order_no (regs_nil _ _ _ _ _ _), h]
    refine H.put hk H.len H.tml (ks' := KsOf G k .g1) (fun j => rfl) ?_ (fun j hj _ => H.tk j hj) (H.heads hk hQ H.len rfl rfl (f' := { G.f k with a := G.M.L.getD (8 + k) 0, line := 7 }) (s' := 2) (head_cons.2 (Or.inr (Or.inl ks_at))) rfl) (H.ord.same (hturn _ rfl)) (H.ins.keep (by omega) (by decide))
    exact ⟨Or.inr (Or.inr (Or.inl ⟨rfl, (by first | decide | simp), (by first | decide | simp)⟩)), fun h => (by rw [hw] at h; cases h), fun _ => T.st0 (Or.inr ⟨h, by rw [hln]; decide⟩), (fun h => (by cases h)), (fun _ h => (by cases h))⟩
  · have hl := ln_g6b (mode := G.M.mode) H.h1 H.h2 hk H.len hw hln hz
    obtain ⟨acc, hs⟩ := step_at H h hl
    rw [pick_go (by omega) hs (by omega), order_no (regs_nil _ _ _ _ _ _), h]
    refine H.put hk H.len H.tml (ks' := KsOf G k (.g3 (G.M.L.getD (8 + k) 0))) (fun j => rfl) ?_ (fun j hj _ => H.tk j hj) (H.heads hk hQ H.len rfl rfl (f' := { G.f k with a := G.M.L.getD (8 + k) 0, line := 9 }) (s' := 2) (head_cons.2 (Or.inr (Or.inr (Or.inr (Or.inl ⟨_, ks_at, hnk, hz⟩))))) rfl) (H.ord.same (hturn _ rfl)) (H.ins.keep (by omega) (by decide))
    exact ⟨Or.inr (Or.inr (Or.inl ⟨rfl, (by first | decide | simp), (by first | decide | simp)⟩)), fun h => (by rw [hw] at h; cases h), fun _ => T.st0 (Or.inr ⟨h, by rw [hln]; decide⟩), (fun h => (by cases h)), (fun _ h => (by cases h))⟩

theorem gm_g7 (H : GInv n G Q) (hk : k < n) (hw : (G.f k).wk.on = false) (h : G.st k = 2) (hln : (G.f k).line = 7) : G.good k ∧ ∃ Q', GInv n (G.pick k) Q' := by
  have T := H.tk k hk
  have hx : mkG (G.st k) (G.f k) = .g1 := by rw [h]; unfold mkG; rw [hln]; rfl
  have htk : (mkG (G.st k) (G.f k)).turn = true := by rw [hx]; rfl
  obtain ⟨r, hQ⟩ := H.mx.head_of hk htk
  have h00 : mainOf n G.M.L 0 = G.M.L.getD 0 0 := main_at (by omega)
  refine ⟨good_not (by omega), ?_⟩
  by_cases hz : G.M.L.getD 0 0 = k + 1
  · have hl := ln_g7a (mode := G.M.mode) H.h1 H.h2 hk H.len hw hln hz
    obtain ⟨acc, hs⟩ := step_at H h hl
    have hm : mainOf n (G.M.L.set 0 0) = upd (mainOf n G.M.L) 0 0 := main_set H.len (by omega)
    have hr : r = [] := tlw_one (by rw [← hQ]; exact H.mx.nd) (by rw [← hQ, ← H.mx.tl, h00]; exact hz)
    refine ⟨[], ?_⟩
    rw [pick_out hs h hw, order_no (regs_8 _ _ _ _ _ _ _)]
    refine H.put hk (by simp [H.len]) H.tml (ks' := KsOf G k .out) (fun j => rfl) tk_zero (fun j hj hjk => (H.tk j hj).mono (fun h => by rw [hm, upd_far (by omega)]; exact h) (fun _ => by rw [hm, upd_far (by omega)]))
      (H.mx.leaves hk htk (by rw [h00]; exact hz) ks_far ks_at (fun j => by rw [hm, nx_upd_0]) (fun j => by rw [hm, bl_upd_0]) (by rw [hm]; exact upd_at)) ⟨fun x r hq _ => (by cases hq), fun _ => ?_⟩ (H.ins.keep (by omega) (by decide))
    rw [H.ord.1 k r hQ htk, hr]
  · have hl := ln_g7b (mode := G.M.mode) H.h1 H.h2 hk H.len hw hln hz
    obtain ⟨acc, hs⟩ := step_at H h hl
    have hr := H.mx.more hk hQ (by rw [h00]; exact hz)
    refine ⟨Q, ?_⟩
    rw [pick_go (by omega) hs (by omega), order_no (regs_nil _ _ _ _ _ _), h]
    refine H.put hk H.len H.tml (ks' := KsOf G k .g2) (fun j => rfl) ?_ (fun j hj _ => H.tk j hj) (H.heads hk hQ H.len rfl rfl (f' := { G.f k with line := 8 }) (s' := 2) (head_cons.2 (Or.inr (Or.inr (Or.inl ⟨ks_at, hr⟩)))) rfl) (H.ord.same fun j => ?_) (H.ins.keep (by omega) (by decide))
    · have hz0 : (G.f k).st = 0 := T.st0 (Or.inr ⟨h, by rw [hln]; decide⟩)
      refine ⟨Or.inr (Or.inr (Or.inl ⟨rfl, (by first | decide | simp), (by first | decide | simp)⟩)), fun h => (by rw [hw] at h; cases h), fun hh => ?_, (fun h => (by cases h)), fun _ _ h4 => ?_⟩
      · rcases hh with ⟨hh, _⟩ | ⟨_, hh⟩
        · cases hh
        · exact absurd rfl hh
      · have h4 : stageA G.M.mode (G.f k).st = 4 := h4
        rw [hz0] at h4
        unfold stageA at h4
        split at h4 <;> omega
    · by_cases e : j = k
      · rw [e, ks_at, hx]; rfl
      · rw [ks_far j e]

theorem gm_g8 (H : GInv n G Q) (hk : k < n) (hw : (G.f k).wk.on = false) (h : G.st k = 2) (hln : (G.f k).line = 8) : G.good k ∧ GInv n (G.pick k) Q := by
  have T := H.tk k hk
  have hx : mkG (G.st k) (G.f k) = .g2 := by rw [h]; unfold mkG; rw [hln]; rfl
  obtain ⟨r, hQ⟩ := H.mx.head_of hk (by simp only [hx]; rfl)
  obtain ⟨f', hf', hl⟩ := ln_g8 (mode := G.M.mode) (L := G.M.L) H.h1 H.h2 hk hw hln
  obtain ⟨acc, hs⟩ := step_at H h hl
  obtain ⟨w1, w2, w3, w4⟩ := waitG (t := k) (c := 8 + k) (L := G.M.L) (mode := G.M.mode) (st := (G.f k).st) (p := fun v => v != 0) H.h1 H.h2 hk H.len (by omega)
  generalize waitA G.M.L n G.M.mode k (G.f k).st (8 + k : Nat) (fun v => v != 0) = R at hs w1 w2 w3 w4 hf'
  have hL : R.words.length = 8 + 4 * n := by rw [w2]; exact H.len
  have hwk : f'.wk = (G.f k).wk := by rw [hf']
  have hnk : nxOf n (mainOf n G.M.L) k = mainOf n G.M.L (8 + k) := nx_at hk
  refine ⟨good_not (by omega), ?_⟩
  rw [pick_go (by omega) hs (by omega), order_no (regs_nil _ _ _ _ _ _), h]
  cases hd : R.done with
  | false =>
    obtain ⟨v1, v2⟩ := w4 hd
    have hln' : f'.line = 8 := by rw [hf', hd]; rfl
    refine H.stay hk hL w1 ?_ ?_ (by omega) (by decide)
    · rw [hx]; unfold mkG; simp only [hln']; rfl
    · refine ⟨Or.inr (Or.inr (Or.inl ⟨rfl, (by simp only [hln']; first | decide | simp), (by simp only [hln']; first | decide | simp)⟩)), fun h => (by rw [hwk, hw] at h; cases h), fun hh => ?_, (fun h => (by cases h)), fun _ _ h4 => ?_⟩
      · rcases hh with ⟨hh, _⟩ | ⟨_, hh⟩
        · cases hh
        · exact absurd hln' hh
      · rw [w1]
        cases hsn : R.seen with
        | true =>
          obtain ⟨u1, u2⟩ := v1 hsn
          have e : f'.a = mainOf n G.M.L (8 + k) := by rw [hf', hsn]; exact u2
          exact ⟨e, by rw [e]; simpa using u1⟩
        | false =>
          have e : f'.st = R.stage := by rw [hf']
          rw [e] at h4
          exact absurd h4 (v2 hsn)
  | true =>
    have hln' : f'.line = 9 := by rw [hf', hd]; rfl
    have hst' : f'.st = 0 := by rw [hf']; exact (w3 hd).1
    have ha : f'.a = mainOf n G.M.L (8 + k) ∧ f'.a ≠ 0 := by
      rcases (w3 hd).2 with ⟨h4, hsn⟩ | ⟨hsn, h5, h6⟩
      · have e : f'.a = (G.f k).a := by rw [hf', hsn]; rfl
        rw [e]
        exact T.w8 h hln h4
      · have e : f'.a = mainOf n G.M.L (8 + k) := by rw [hf', hsn]; exact h6
        exact ⟨e, by rw [e]; simpa using h5⟩
    refine H.put hk hL H.tml (ks' := KsOf G k (.g3 f'.a)) (fun j => by
      have : mkG 2 f' = .g3 f'.a := by unfold mkG; simp only [hln']; rfl
      rw [this]) ?_ (fun j hj _ => by rw [w1]; exact H.tk j hj) (H.heads hk hQ hL rfl w1 (f' := { f' with line := 9 }) (s' := 2) (head_cons.2 (Or.inr (Or.inr (Or.inr (Or.inl ⟨_, ks_at, by rw [hnk]; exact ha.1.symm, ha.2⟩))))) rfl) (H.ord.same fun j => ?_) (H.ins.keep (by omega) (by decide))
    · exact ⟨Or.inr (Or.inr (Or.inl ⟨rfl, (by simp only [hln']; first | decide | simp), (by simp only [hln']; first | decide | simp)⟩)), fun h => (by rw [hwk, hw] at h; cases h), fun _ => hst', (fun h => (by cases h)), fun _ h => (by rw [hln'] at h; cases h)⟩
    · by_cases e : j = k
      · rw [e, ks_at, hx]; rfl
      · rw [ks_far j e]

theorem gm_g9 (H : GInv n G Q) (hk : k < n) (hw : (G.f k).wk.on = false) (h : G.st k = 2) (hln : (G.f k).line = 9) : G.good k ∧ ∃ Q', GInv n (G.pick k) Q' := by
  have T := H.tk k hk
  have hx : mkG (G.st k) (G.f k) = .g3 (G.f k).a := by rw [h]; unfold mkG; rw [hln]; rfl
  have htk : (mkG (G.st k) (G.f k)).turn = true := by rw [hx]; rfl
  obtain ⟨r, hQ⟩ := H.mx.head_of hk htk
  have hh := H.mx.hd
  rw [hQ, head_cons] at hh
  simp only [hx] at hh
  have hnx : nxOf n (mainOf n G.M.L) k = (G.f k).a ∧ (G.f k).a ≠ 0 := by
    rcases hh with hh | hh | ⟨hh, _⟩ | ⟨a, h1, h2, h3⟩ | ⟨hh, _⟩
    · cases hh
    · cases hh
    · cases hh
    · injection h1 with h1
      rw [h1]; exact ⟨h2, h3⟩
    · cases hh
  obtain ⟨y, r', hr, hy, ha, hky, hyk⟩ := H.mx.succ hQ hnx.1 hnx.2
  have hl := ln_g9 (mode := G.M.mode) H.h1 H.h2 hk hy H.len hw hln ha
  obtain ⟨acc, hs⟩ := step_at H h hl
  refine ⟨good_not (by omega), ?_⟩
  have hm : mainOf n (G.M.L.set (8 + n + y) 0) = upd (mainOf n G.M.L) (8 + n + y) 0 := main_set H.len (by omega)
  obtain ⟨r2, hQ2, hmx⟩ := H.mx.gives (ks' := KsOf G k .out) (nx' := nxOf n (mainOf n (G.M.L.set (8 + n + y) 0))) (bl' := blOf n (mainOf n (G.M.L.set (8 + n + y) 0))) (tail' := mainOf n (G.M.L.set (8 + n + y) 0) 0) hk hx ks_far ks_at (fun j => by rw [hm, nx_upd_bl]) (fun j hj => by rw [hm, bl_upd_bl hy]; exact if_neg (fun e => hj (by rw [e]; exact ha.symm))) (fun j hj => by
    rw [hm, bl_upd_bl hy]
    exact if_pos (by omega)) (by rw [hm]; exact upd_far (by omega))
  have er : r2 = r := by rw [hQ] at hQ2; simp only [List.cons.injEq, true_and] at hQ2; exact hQ2.symm
  subst er
  have hord : Ord n (KsOf G k .out) r2 G.order := by
    refine ⟨fun x r3 hq htx => ?_, fun _ => H.ord.1 k r2 hQ htk⟩
    exfalso
    have hxr : x ∈ r2 := by rw [hq]; simp
    have hxk : x ≠ k := fun e => by
      have := H.mx.nd
      rw [hQ] at this
      exact (List.nodup_cons.1 this).1 (e ▸ hxr)
    rw [ks_far x hxk] at htx
    exact hxk (H.mx.one (H.mx.lt x (by rw [hQ]; simp [hxr])) hk htx htk)
  have hoth : ∀ j, j < n → j ≠ k → TkOk n G.M.mode (mainOf n (G.M.L.set (8 + n + y) 0)) j (G.st j) (G.f j) := fun j hj _ => (H.tk j hj).mono (fun h => by
    rw [hm]
    by_cases e : j = y
    · rw [e]; exact upd_at
    · rw [upd_far (by omega)]; exact h) (fun _ => by rw [hm, upd_far (by omega)])
  refine ⟨r2, ?_⟩
  by_cases hon : (beginA G.M.mode ((8 + n + y : Nat) : Int)).on = true
  · rw [pick_wakes hs h hon, order_no (regs_8 _ _ _ _ _ _ _)]
    refine H.put hk (by simp [H.len]) H.tml (ks' := KsOf G k .out) (fun j => by rw [mk_three]) ?_ hoth hmx hord (H.ins.keep (by omega) (by decide))
    refine ⟨Or.inr (Or.inr (Or.inr ⟨rfl, hon⟩)), fun _ => ⟨Or.inl rfl, ?_⟩, fun hh => ?_, (fun h => (by cases h)), (fun h => (by cases h))⟩
    · show 0 ≤ (beginA G.M.mode ((8 + n + y : Nat) : Int)).i ∧ (beginA G.M.mode ((8 + n + y : Nat) : Int)).i < n
      unfold beginA at hon ⊢
      split
      · have := H.h1; constructor <;> simp only <;> omega
      · rename_i hm2; rw [if_neg hm2] at hon; cases hon
    · rcases hh with ⟨hh, _⟩ | ⟨hh, _⟩ <;> cases hh
  · have hoff : (beginA G.M.mode ((8 + n + y : Nat) : Int)).on = false := by simpa using hon
    rw [pick_out hs h hoff, order_no (regs_8 _ _ _ _ _ _ _)]
    exact H.put hk (by simp [H.len]) H.tml (ks' := KsOf G k .out) (fun j => rfl) tk_zero hoth hmx hord (H.ins.keep (by omega) (by decide))

/-- A TURN: what holds stays so; who gets in is the first one, and nobody else is in. -/
theorem gm_keep (H : GInv n G Q) (hk : k < n) : G.good k ∧ ∃ Q', GInv n (G.pick k) Q' := by
  have T := H.tk k hk
  have w : ∀ {P : Prop} {R : Gm → List Nat → Prop}, P ∧ R (G.pick k) Q → P ∧ ∃ Q', R (G.pick k) Q' := fun h => ⟨h.1, _, h.2⟩
  cases hw : (G.f k).wk.on with
  | true => exact w (R := GInv n) (gm_wake H hk hw)
  | false =>
    rcases T.shape with ⟨h, h1, h2⟩ | h | ⟨h, h1, h2⟩ | ⟨_, h⟩
    · rcases (show (G.f k).line = 0 ∨ (G.f k).line = 1 ∨ (G.f k).line = 2 ∨ (G.f k).line = 3 ∨ (G.f k).line = 4 by omega) with e | e | e | e | e
      · exact w (R := GInv n) (gm_e0 H hk hw h e)
      · exact w (R := GInv n) (gm_e1 H hk hw h e)
      · exact gm_e2 H hk hw h e
      · exact w (R := GInv n) (gm_e3 H hk hw h e)
      · exact w (R := GInv n) (gm_e4 H hk hw h e)
    · exact w (R := GInv n) (gm_in H hk h)
    · rcases (show (G.f k).line = 6 ∨ (G.f k).line = 7 ∨ (G.f k).line = 8 ∨ (G.f k).line = 9 by omega) with e | e | e | e
      · exact w (R := GInv n) (gm_g6 H hk hw h e)
      · exact gm_g7 H hk hw h e
      · exact w (R := GInv n) (gm_g8 H hk hw h e)
      · exact gm_g9 H hk hw h e
    · rw [hw] at h; cases h
end
end Go.Proofs.Ytlndihdlodempaa.Z

/- Package mutex: the lines of who gives the queue on. Written by genmg.py. -/
set_option linter.unusedVariables false
set_option linter.unusedSimpArgs false
namespace Go.Proofs.Ytlndihdlodempaa.Z
open Go.RowKit

attribute [local go_sem ↓] Go.wp_at_zero Go.wp_at_succ

set_option maxHeartbeats 800000 in
theorem mg_noted {S0 : List Nat} {w0 w : World} {m a r n c : Nat} {A : Option Addr} {l : List Int} {rs : List Res} {s : Rn} (hN : ∀ W s', RunHas S0 w0 m a r rs s' W → Rd W 1 A n (i64s l)) (H : RunHas S0 w0 m a r (rs) s w) (hn : l.length = n) (hc : s.notes.length + l.length ≤ 1000) :
    Calls Try.prog 83 #[.pointer (some ⟨r, 0, none⟩), .slice A n c] w fun e w' => e = .returned (.tuple #[]) ∧ RunHas S0 w0 m a r (rs) (s.noted l) w' := by
  subst hn
  have hll : l.length ≤ 1000 := by omega
  have HC := Lib.hid hc
  have HH := Lib.hid H
  clear hc H
  go_enter Try.func83, Try.ntmps83
  go_wp2_with fail
  go_loopw [8] (fun i wr => ∃ k : Nat, k ≤ l.length ∧ i = .int .i64 k ∧ RunHas S0 w0 m a r (rs) (s.noted (l.take k)) wr) (fun i _ => l.length - (intOf i).toNat)
  case atStart => exact ⟨0, Nat.zero_le _, rfl, HH.out⟩
  case round =>
    obtain ⟨k, hk, rfl, hH⟩ := hrel
    have HK := Lib.hid hH
    clear hH
    by_cases hlt : k < l.length
    · obtain ⟨b, off, rfl, hbl, hcell⟩ := i64s_at (hN _ _ HK.out) hlt
      obtain ⟨x, hx⟩ : ∃ x, l.getD k 0 = x := ⟨_, rfl⟩
      rw [hx] at hcell
      have HX := Lib.hid hx
      clear hx
      have hi : (k : Int) < (l.length : Int) := by omega
      go_wp2_with fail
      refine (run_note HK.out (by rw [noted_notes]; have := HC.out; simp only [List.length_take]; omega) x 0).mono ?_
      rintro e w1 ⟨rfl, H1⟩
      go_wp2
      go_roundw
      case rel => exact ⟨k + 1, by omega, by go_num, by rw [noted_succ s l k hlt, HX.out]; exact H1⟩
      case measure => simp [intOf]; omega
    · have hkn : k = l.length := by omega
      subst hkn
      have hi : (l.length : Int) ≤ (l.length : Int) := Int.le_refl _
      have H2 := HK.out
      rw [List.take_length] at H2
      clear HK hlt hk
      go_wp2_with fail
      go_end0
      exact ⟨rfl, H2⟩

set_option maxHeartbeats 1600000 in
theorem mg_g0 {S0 : List Nat} {w0 w : World} {m a r : Nat} {rs : List Res} {s : Rn} (tail q : Int) {nn c : Nat} {A : Option Addr} {nl : List Int} (hnl : nl.length = nn) (hq : -1000 ≤ q ∧ q ≤ 1000) (hN : ∀ W s' xs, RunHas S0 w0 m a r (xs ++ rs) s' W → Rd W 1 A nn (i64s nl)) (hc : s.notes.length + nl.length ≤ 900) (H : RunHas S0 w0 m a r (rs) s w) {l : Int} (hl : s.f.line = l) (hsub : wrap64 (l - q) = 0) (hn : I64 s.n) (ha : 0 ≤ s.f.a ∧ s.f.a < 4294967296) :
    Calls Try.prog 28 #[.pointer (some ⟨r, 0, none⟩), .int .i64 tail, .int .i64 q, .slice A nn c] w fun e w' => e = .returned (.bool false) ∧ RunHas S0 w0 m a r (rs) (mxG0 q s) w' := by
  obtain ⟨o, hop⟩ : ∃ o, s.f.op = o := ⟨_, rfl⟩
  obtain ⟨z0, z2, z4, z5, z6, z7⟩ := H.facts hop hl rfl rfl
  have HA := Lib.hid ha
  have HC := Lib.hid hc
  have HQ := Lib.hid hq
  have HNX := Lib.hid (fun W => mapNext s.n s.task W hn)
  have HLD := Lib.hid (fun W rs (H : RunHas S0 w0 m a r rs s W) => rn_load H (cellP s.n 0 s.task))
  have HH := Lib.hid (H.box rfl #[.pointer (some ⟨r, 4, none⟩)] 102)
  clear H ha hc hn
  unfold mxG0
  (try dsimp only)
  by_cases hz : (doA s.L ⟨1, (cellP s.n 0 s.task), 0, 0, 0⟩).1.old = 0
  · simp only [if_pos hz]
    have hzb : ((doA s.L ⟨1, (cellP s.n 0 s.task), 0, 0, 0⟩).1.old != 0) = false := by simpa using hz
    clear hz
    go_enter Try.func28, Try.ntmps28
    go_wp2_with fail
    have HW := HH.out
    generalize w.heap.size = tb at HW ⊢
    generalize w.alloc _ = W at HW ⊢
    obtain ⟨z0, z2, z4, z5, z6, z7⟩ := HW.facts hop hl rfl rfl
    obtain ⟨y1, y2, y3⟩ := HW.whose rfl rfl rfl
    obtain ⟨u0, u1, u2⟩ := HW.first.own
    go_region_held3 (fun w' => w'.cell? ⟨r, 1, none⟩ = some (.int .i64 s.n) ∧ w'.cell? ⟨r, 3, none⟩ = some (.int .i64 s.task) ∧ w'.cell? ⟨r, 6, none⟩ = some (.int .u32 s.f.a) ∧ w'.cell? ⟨tb, 0, none⟩ = some (.pointer (some ⟨r, 4, none⟩)))
      (first | (refine RunHas.sees_box (S0 := S0) (w0 := w0) (m := m) (a := a) (rs := rs) (s := s) ?_; first | with_reducible assumption | with_reducible exact HW.drew))
      (first | (go_at_call 75; refine (HNX.out _).mono ?_; rintro e w1 ⟨rfl, t1⟩; have H1 := RunHas.grow HW.drew t1))
    clear u0 u1 u2 z0 z2 z4 z5 z6 z7 y1 y2 y3
    obtain ⟨x0, x2, x4, x5, x6, x7⟩ := H1.facts hop hl rfl rfl
    obtain ⟨v1, v2, v3⟩ := H1.whose rfl rfl rfl
    obtain ⟨u0, u1, u2⟩ := H1.first.own
    go_wp2_with fail
    have hne2 := H1.ne_first
    go_region_held3 (fun w' => ∀ i, w'.cell? ⟨tb, i, none⟩ = (#[.pointer (some ⟨r, 4, none⟩)] : Array Value)[i]?)
      (first | assumption | (intro i; rw [World.cell?_setCell_far _ _ _ _ (by exact hne2)]; apply_assumption) | (intro i; apply_assumption))
      (first | (go_at_call 53; (with_reducible refine (HLD.out _ _ H1.drew).mono ?_); rintro e w2 ⟨rfl, H2⟩; obtain ⟨v0, v1, v2⟩ := H2.first.own; obtain ⟨x0, x2, x4, x5, x6, x7⟩ := H2.facts hop hl rfl rfl))
    have H3 := H2.setA (doA s.L ⟨1, (cellP s.n 0 s.task), 0, 0, 0⟩).1.old
    go_wp2_with fail
    refine (rn_go H3 (q + 1)).mono ?_
    rintro e w4 ⟨rfl, H4⟩
    go_wp2_with fail
    go_ret
    exact ⟨rfl, H4.unbox⟩
  · simp only [if_neg hz]
    have hzb : ((doA s.L ⟨1, (cellP s.n 0 s.task), 0, 0, 0⟩).1.old != 0) = true := by simpa using hz
    clear hz
    go_enter Try.func28, Try.ntmps28
    go_wp2_with fail
    have HW := HH.out
    generalize w.heap.size = tb at HW ⊢
    generalize w.alloc _ = W at HW ⊢
    obtain ⟨z0, z2, z4, z5, z6, z7⟩ := HW.facts hop hl rfl rfl
    obtain ⟨y1, y2, y3⟩ := HW.whose rfl rfl rfl
    obtain ⟨u0, u1, u2⟩ := HW.first.own
    go_region_held3 (fun w' => w'.cell? ⟨r, 1, none⟩ = some (.int .i64 s.n) ∧ w'.cell? ⟨r, 3, none⟩ = some (.int .i64 s.task) ∧ w'.cell? ⟨r, 6, none⟩ = some (.int .u32 s.f.a) ∧ w'.cell? ⟨tb, 0, none⟩ = some (.pointer (some ⟨r, 4, none⟩)))
      (first | (refine RunHas.sees_box (S0 := S0) (w0 := w0) (m := m) (a := a) (rs := rs) (s := s) ?_; first | with_reducible assumption | with_reducible exact HW.drew))
      (first | (go_at_call 75; refine (HNX.out _).mono ?_; rintro e w1 ⟨rfl, t1⟩; have H1 := RunHas.grow HW.drew t1))
    clear u0 u1 u2 z0 z2 z4 z5 z6 z7 y1 y2 y3
    obtain ⟨x0, x2, x4, x5, x6, x7⟩ := H1.facts hop hl rfl rfl
    obtain ⟨v1, v2, v3⟩ := H1.whose rfl rfl rfl
    obtain ⟨u0, u1, u2⟩ := H1.first.own
    go_wp2_with fail
    have hne2 := H1.ne_first
    go_region_held3 (fun w' => ∀ i, w'.cell? ⟨tb, i, none⟩ = (#[.pointer (some ⟨r, 4, none⟩)] : Array Value)[i]?)
      (first | assumption | (intro i; rw [World.cell?_setCell_far _ _ _ _ (by exact hne2)]; apply_assumption) | (intro i; apply_assumption))
      (first | (go_at_call 53; (with_reducible refine (HLD.out _ _ H1.drew).mono ?_); rintro e w2 ⟨rfl, H2⟩; obtain ⟨v0, v1, v2⟩ := H2.first.own; obtain ⟨x0, x2, x4, x5, x6, x7⟩ := H2.facts hop hl rfl rfl))
    have H3 := H2.setA (doA s.L ⟨1, (cellP s.n 0 s.task), 0, 0, 0⟩).1.old
    go_wp2_with fail
    refine (rn_go H3 (q + 3)).mono ?_
    rintro e w4 ⟨rfl, H4⟩
    go_wp2_with fail
    go_ret
    exact ⟨rfl, H4.unbox⟩

set_option maxHeartbeats 1600000 in
theorem mg_g1 {S0 : List Nat} {w0 w : World} {m a r : Nat} {rs : List Res} {s : Rn} (tail q : Int) {nn c : Nat} {A : Option Addr} {nl : List Int} (hnl : nl.length = nn) (hq : -1000 ≤ q ∧ q ≤ 1000) (hN : ∀ W s' xs, RunHas S0 w0 m a r (xs ++ rs) s' W → Rd W 1 A nn (i64s nl)) (hc : s.notes.length + nl.length ≤ 900) (H : RunHas S0 w0 m a r (rs) s w) {l : Int} (hl : s.f.line = l) (hsub : wrap64 (l - q) = 1) (hn : I64 s.n) (ha : 0 ≤ s.f.a ∧ s.f.a < 4294967296) :
    Calls Try.prog 28 #[.pointer (some ⟨r, 0, none⟩), .int .i64 tail, .int .i64 q, .slice A nn c] w fun e w' => e = .returned (.bool (mxG1 tail q nl s).1) ∧ RunHas S0 w0 m a r (rs) (mxG1 tail q nl s).2 w' := by
  obtain ⟨o, hop⟩ : ∃ o, s.f.op = o := ⟨_, rfl⟩
  obtain ⟨z0, z2, z4, z5, z6, z7⟩ := H.facts hop hl rfl rfl
  have HA := Lib.hid ha
  have HC := Lib.hid hc
  have HQ := Lib.hid hq
  have HNX := Lib.hid (fun W => mapNext s.n s.task W hn)
  have hcas := fun W rs (H : RunHas S0 w0 m a r rs s W) => rn_cas H tail (mxOwn s) 0 (mxOwn_word s) (by decide)
  have HH := Lib.hid (H.box rfl #[.pointer (some ⟨r, 4, none⟩)] 102)
  clear H ha hc hn
  unfold mxG1
  cases hb : casB s.L tail (mxOwn s) 0 with
  | true =>
    rw [hb] at hcas
    simp only [if_true]
    have HCAS := Lib.hid hcas
    clear hcas hb
    go_enter Try.func28, Try.ntmps28
    go_wp2_with fail
    have HW := HH.out
    generalize w.heap.size = tb at HW ⊢
    generalize w.alloc _ = W at HW ⊢
    obtain ⟨z0, z2, z4, z5, z6, z7⟩ := HW.facts hop hl rfl rfl
    obtain ⟨y1, y2, y3⟩ := HW.whose rfl rfl rfl
    obtain ⟨u0, u1, u2⟩ := HW.first.own
    go_region_held3 (fun w' => w'.cell? ⟨r, 1, none⟩ = some (.int .i64 s.n) ∧ w'.cell? ⟨r, 3, none⟩ = some (.int .i64 s.task) ∧ w'.cell? ⟨r, 6, none⟩ = some (.int .u32 s.f.a) ∧ w'.cell? ⟨tb, 0, none⟩ = some (.pointer (some ⟨r, 4, none⟩)))
      (first | (refine RunHas.sees_box (S0 := S0) (w0 := w0) (m := m) (a := a) (rs := rs) (s := s) ?_; first | with_reducible assumption | with_reducible exact HW.drew))
      (first | (go_at_call 75; refine (HNX.out _).mono ?_; rintro e w1 ⟨rfl, t1⟩; have H1 := RunHas.grow HW.drew t1))
    clear u0 u1 u2 z0 z2 z4 z5 z6 z7 y1 y2 y3
    obtain ⟨x0, x2, x4, x5, x6, x7⟩ := H1.facts hop hl rfl rfl
    obtain ⟨v1, v2, v3⟩ := H1.whose rfl rfl rfl
    obtain ⟨u0, u1, u2⟩ := H1.first.own
    go_wp2_with fail
    refine (mx_own H1).mono ?_
    rintro e w9 ⟨rfl, rfl⟩
    go_wp2_with fail
    refine (HCAS.out _ _ H1).mono ?_
    rintro e w2 ⟨rfl, H2⟩
    go_wp2_with fail
    refine (mg_noted (fun W s' H => hN W s' [_] H) H2 hnl (by have := HC.out; simp [Rn.did]; omega)).mono ?_
    rintro e w3 ⟨rfl, H3⟩
    go_wp2_with fail
    go_ret
    exact ⟨rfl, H3.unbox⟩
  | false =>
    rw [hb] at hcas
    simp only [Bool.false_eq_true, if_false]
    have HCAS := Lib.hid hcas
    clear hcas hb
    go_enter Try.func28, Try.ntmps28
    go_wp2_with fail
    have HW := HH.out
    generalize w.heap.size = tb at HW ⊢
    generalize w.alloc _ = W at HW ⊢
    obtain ⟨z0, z2, z4, z5, z6, z7⟩ := HW.facts hop hl rfl rfl
    obtain ⟨y1, y2, y3⟩ := HW.whose rfl rfl rfl
    obtain ⟨u0, u1, u2⟩ := HW.first.own
    go_region_held3 (fun w' => w'.cell? ⟨r, 1, none⟩ = some (.int .i64 s.n) ∧ w'.cell? ⟨r, 3, none⟩ = some (.int .i64 s.task) ∧ w'.cell? ⟨r, 6, none⟩ = some (.int .u32 s.f.a) ∧ w'.cell? ⟨tb, 0, none⟩ = some (.pointer (some ⟨r, 4, none⟩)))
      (first | (refine RunHas.sees_box (S0 := S0) (w0 := w0) (m := m) (a := a) (rs := rs) (s := s) ?_; first | with_reducible assumption | with_reducible exact HW.drew))
      (first | (go_at_call 75; refine (HNX.out _).mono ?_; rintro e w1 ⟨rfl, t1⟩; have H1 := RunHas.grow HW.drew t1))
    clear u0 u1 u2 z0 z2 z4 z5 z6 z7 y1 y2 y3
    obtain ⟨x0, x2, x4, x5, x6, x7⟩ := H1.facts hop hl rfl rfl
    obtain ⟨v1, v2, v3⟩ := H1.whose rfl rfl rfl
    obtain ⟨u0, u1, u2⟩ := H1.first.own
    go_wp2_with fail
    refine (mx_own H1).mono ?_
    rintro e w9 ⟨rfl, rfl⟩
    go_wp2_with fail
    refine (HCAS.out _ _ H1).mono ?_
    rintro e w2 ⟨rfl, H2⟩
    go_wp2_with fail
    refine (rn_go H2 (q + 2)).mono ?_
    rintro e w3 ⟨rfl, H3⟩
    go_wp2_with fail
    go_ret
    exact ⟨rfl, H3.unbox⟩

set_option maxHeartbeats 1600000 in
theorem mg_g2 {S0 : List Nat} {w0 w : World} {m a r : Nat} {rs : List Res} {s : Rn} (tail q : Int) {nn c : Nat} {A : Option Addr} {nl : List Int} (hnl : nl.length = nn) (hq : -1000 ≤ q ∧ q ≤ 1000) (hN : ∀ W s' xs, RunHas S0 w0 m a r (xs ++ rs) s' W → Rd W 1 A nn (i64s nl)) (hc : s.notes.length + nl.length ≤ 900) (H : RunHas S0 w0 m a r (rs) s w) {l : Int} (hl : s.f.line = l) (hsub : wrap64 (l - q) = 2) (hn : I64 s.n) (ha : 0 ≤ s.f.a ∧ s.f.a < 4294967296) :
    Calls Try.prog 28 #[.pointer (some ⟨r, 0, none⟩), .int .i64 tail, .int .i64 q, .slice A nn c] w fun e w' => e = .returned (.bool false) ∧ RunHas S0 w0 m a r (rs) (mxG2 q s) w' := by
  obtain ⟨o, hop⟩ : ∃ o, s.f.op = o := ⟨_, rfl⟩
  obtain ⟨z0, z2, z4, z5, z6, z7⟩ := H.facts hop hl rfl rfl
  have HA := Lib.hid ha
  have HC := Lib.hid hc
  have HQ := Lib.hid hq
  have HNX := Lib.hid (fun W => mapNext s.n s.task W hn)
  have hwt := fun (tb : Nat) W (H : RunHas S0 w0 m a r (.blk tb #[.pointer (some ⟨r, 4, none⟩)] :: rs) s W) => rn_wait_keep H hn (cellP s.n 0 s.task) 84 #[] #[.pointer (some ⟨tb, 0, none⟩)] (fun v => v != 0) (enters_of Try.func84 (by kernel_rfl) rfl) (fun W nv v h0 h1 HX => mx_keeps v W ⟨h0, h1⟩ HX.blk1 (HX.at_ 3 rfl))
  have HH := Lib.hid (H.box rfl #[.pointer (some ⟨r, 4, none⟩)] 102)
  clear H ha hc hn
  unfold mxG2
  (try dsimp only)
  generalize (waitA s.L s.n s.mode s.task s.f.st (cellP s.n 0 s.task) (fun v => v != 0)).seen = sn at hwt
  cases hd : (waitA s.L s.n s.mode s.task s.f.st (cellP s.n 0 s.task) (fun v => v != 0)).done <;> rw [hd] at hwt <;> simp only [if_true, Bool.false_eq_true, if_false] <;> (have HWT := Lib.hid hwt) <;> clear hwt hd
  · go_enter Try.func28, Try.ntmps28
    go_wp2_with fail
    have HW := HH.out
    generalize w.heap.size = tb at HW ⊢
    generalize w.alloc _ = W at HW ⊢
    obtain ⟨z0, z2, z4, z5, z6, z7⟩ := HW.facts hop hl rfl rfl
    obtain ⟨y1, y2, y3⟩ := HW.whose rfl rfl rfl
    obtain ⟨u0, u1, u2⟩ := HW.first.own
    go_region_held3 (fun w' => w'.cell? ⟨r, 1, none⟩ = some (.int .i64 s.n) ∧ w'.cell? ⟨r, 3, none⟩ = some (.int .i64 s.task) ∧ w'.cell? ⟨r, 6, none⟩ = some (.int .u32 s.f.a) ∧ w'.cell? ⟨tb, 0, none⟩ = some (.pointer (some ⟨r, 4, none⟩)))
      (first | (refine RunHas.sees_box (S0 := S0) (w0 := w0) (m := m) (a := a) (rs := rs) (s := s) ?_; first | with_reducible assumption | with_reducible exact HW.drew))
      (first | (go_at_call 75; refine (HNX.out _).mono ?_; rintro e w1 ⟨rfl, t1⟩; have H1 := RunHas.grow HW.drew t1))
    clear u0 u1 u2 z0 z2 z4 z5 z6 z7 y1 y2 y3
    obtain ⟨x0, x2, x4, x5, x6, x7⟩ := H1.facts hop hl rfl rfl
    obtain ⟨v1, v2, v3⟩ := H1.whose rfl rfl rfl
    obtain ⟨u0, u1, u2⟩ := H1.first.own
    go_wp2_with fail
    refine (HWT.out _ _ H1).mono ?_
    rintro e w2 ⟨rfl, H2⟩
    go_wp2_with fail
    go_ret
    exact ⟨rfl, H2.unbox⟩
  · go_enter Try.func28, Try.ntmps28
    go_wp2_with fail
    have HW := HH.out
    generalize w.heap.size = tb at HW ⊢
    generalize w.alloc _ = W at HW ⊢
    obtain ⟨z0, z2, z4, z5, z6, z7⟩ := HW.facts hop hl rfl rfl
    obtain ⟨y1, y2, y3⟩ := HW.whose rfl rfl rfl
    obtain ⟨u0, u1, u2⟩ := HW.first.own
    go_region_held3 (fun w' => w'.cell? ⟨r, 1, none⟩ = some (.int .i64 s.n) ∧ w'.cell? ⟨r, 3, none⟩ = some (.int .i64 s.task) ∧ w'.cell? ⟨r, 6, none⟩ = some (.int .u32 s.f.a) ∧ w'.cell? ⟨tb, 0, none⟩ = some (.pointer (some ⟨r, 4, none⟩)))
      (first | (refine RunHas.sees_box (S0 := S0) (w0 := w0) (m := m) (a := a) (rs := rs) (s := s) ?_; first | with_reducible assumption | with_reducible exact HW.drew))
      (first | (go_at_call 75; refine (HNX.out _).mono ?_; rintro e w1 ⟨rfl, t1⟩; have H1 := RunHas.grow HW.drew t1))
    clear u0 u1 u2 z0 z2 z4 z5 z6 z7 y1 y2 y3
    obtain ⟨x0, x2, x4, x5, x6, x7⟩ := H1.facts hop hl rfl rfl
    obtain ⟨v1, v2, v3⟩ := H1.whose rfl rfl rfl
    obtain ⟨u0, u1, u2⟩ := H1.first.own
    go_wp2_with fail
    refine (HWT.out _ _ H1).mono ?_
    rintro e w2 ⟨rfl, H2⟩
    go_wp2_with fail
    refine (rn_go H2 (q + 3)).mono ?_
    rintro e w3 ⟨rfl, H3⟩
    go_wp2_with fail
    go_ret
    exact ⟨rfl, H3.unbox⟩

set_option maxHeartbeats 1600000 in
theorem mg_g3 {S0 : List Nat} {w0 w : World} {m a r : Nat} {rs : List Res} {s : Rn} (tail q : Int) {nn c : Nat} {A : Option Addr} {nl : List Int} (hnl : nl.length = nn) (hq : -1000 ≤ q ∧ q ≤ 1000) (hN : ∀ W s' xs, RunHas S0 w0 m a r (xs ++ rs) s' W → Rd W 1 A nn (i64s nl)) (hc : s.notes.length + nl.length ≤ 900) (H : RunHas S0 w0 m a r (rs) s w) {l : Int} (hl : s.f.line = l) (hsub : wrap64 (l - q) = 3) (hn : I64 s.n) (ha : 0 ≤ s.f.a ∧ s.f.a < 4294967296) :
    Calls Try.prog 28 #[.pointer (some ⟨r, 0, none⟩), .int .i64 tail, .int .i64 q, .slice A nn c] w fun e w' => e = .returned (.bool true) ∧ RunHas S0 w0 m a r (rs) (mxG3 nl s) w' := by
  obtain ⟨o, hop⟩ : ∃ o, s.f.op = o := ⟨_, rfl⟩
  obtain ⟨z0, z2, z4, z5, z6, z7⟩ := H.facts hop hl rfl rfl
  have HA := Lib.hid ha
  have HC := Lib.hid hc
  have HQ := Lib.hid hq
  have HNX := Lib.hid (fun W => mapNext s.n s.task W hn)
  have HBL := Lib.hid (fun W => mapBlocked s.n (s.f.a - 1) W hn)
  have HH := Lib.hid (H.box rfl #[.pointer (some ⟨r, 4, none⟩)] 102)
  clear H ha hc hn
  unfold mxG3
  go_enter Try.func28, Try.ntmps28
  go_wp2_with fail
  have HW := HH.out
  generalize w.heap.size = tb at HW ⊢
  generalize w.alloc _ = W at HW ⊢
  obtain ⟨z0, z2, z4, z5, z6, z7⟩ := HW.facts hop hl rfl rfl
  obtain ⟨y1, y2, y3⟩ := HW.whose rfl rfl rfl
  obtain ⟨u0, u1, u2⟩ := HW.first.own
  go_region_held3 (fun w' => w'.cell? ⟨r, 1, none⟩ = some (.int .i64 s.n) ∧ w'.cell? ⟨r, 3, none⟩ = some (.int .i64 s.task) ∧ w'.cell? ⟨r, 6, none⟩ = some (.int .u32 s.f.a) ∧ w'.cell? ⟨tb, 0, none⟩ = some (.pointer (some ⟨r, 4, none⟩)))
    (first | (refine RunHas.sees_box (S0 := S0) (w0 := w0) (m := m) (a := a) (rs := rs) (s := s) ?_; first | with_reducible assumption | with_reducible exact HW.drew | with_reducible exact H1.drew))
    (first | (go_at_call 75; refine (HNX.out _).mono ?_; rintro e w1 ⟨rfl, t1⟩; have H1 := RunHas.grow HW.drew t1))
  clear u0 u1 u2 z0 z2 z4 z5 z6 z7 y1 y2 y3
  obtain ⟨x0, x2, x4, x5, x6, x7⟩ := H1.facts hop hl rfl rfl
  obtain ⟨v1, v2, v3⟩ := H1.whose rfl rfl rfl
  obtain ⟨u0, u1, u2⟩ := H1.first.own
  go_wp2_with fail
  go_region_held3 (fun w' => w'.cell? ⟨r, 1, none⟩ = some (.int .i64 s.n) ∧ w'.cell? ⟨r, 3, none⟩ = some (.int .i64 s.task) ∧ w'.cell? ⟨r, 6, none⟩ = some (.int .u32 s.f.a) ∧ w'.cell? ⟨tb, 0, none⟩ = some (.pointer (some ⟨r, 4, none⟩)))
    (first | (refine RunHas.sees_box (S0 := S0) (w0 := w0) (m := m) (a := a) (rs := rs) (s := s) ?_; first | with_reducible assumption | with_reducible exact HW.drew | with_reducible exact H1.drew))
    (first | (go_at_call 78; refine (mx_other _ _ HA.out).mono ?_; rintro e w9 ⟨rfl, rfl⟩) | (go_at_call 76; refine (HBL.out _).mono ?_; rintro e w2 ⟨rfl, t2⟩; have H2 := RunHas.grow H1.drew t2))
  obtain ⟨p0, p2, p4, p5, p6, p7⟩ := H2.facts hop hl rfl rfl
  go_wp2_with fail
  refine (rn_store H2 (cellP s.n 1 (s.f.a - 1)) 0 (by decide)).mono ?_
  rintro e w3 ⟨rfl, H3⟩
  go_wp2_with fail
  refine (mg_noted (fun W s' H => hN W s' [_] H) H3 hnl (by have := HC.out; simp [Rn.did]; omega)).mono ?_
  rintro e w4 ⟨rfl, H4⟩
  go_wp2_with fail
  refine (rn_wake H4 (cellP s.n 1 (s.f.a - 1))).mono ?_
  rintro e w5 ⟨rfl, H5⟩
  go_wp2_with fail
  go_ret
  exact ⟨rfl, H5.unbox⟩

set_option maxHeartbeats 1600000 in
theorem mg_gnone {S0 : List Nat} {w0 w : World} {m a r : Nat} {rs : List Res} {s : Rn} (tail q : Int) {nn c : Nat} {A : Option Addr} {nl : List Int} (hnl : nl.length = nn) (hq : -1000 ≤ q ∧ q ≤ 1000) (hN : ∀ W s' xs, RunHas S0 w0 m a r (xs ++ rs) s' W → Rd W 1 A nn (i64s nl)) (hc : s.notes.length + nl.length ≤ 900) (H : RunHas S0 w0 m a r (rs) s w) {l : Int} (hl : s.f.line = l) (k0 : ¬ wrap64 (l - q) = 0) (k1 : ¬ wrap64 (l - q) = 1) (k2 : ¬ wrap64 (l - q) = 2) (k3 : ¬ wrap64 (l - q) = 3) (hn : I64 s.n) (ha : 0 ≤ s.f.a ∧ s.f.a < 4294967296) :
    Calls Try.prog 28 #[.pointer (some ⟨r, 0, none⟩), .int .i64 tail, .int .i64 q, .slice A nn c] w fun e w' => e = .returned (.bool false) ∧ RunHas S0 w0 m a r (rs) s w' := by
  obtain ⟨o, hop⟩ : ∃ o, s.f.op = o := ⟨_, rfl⟩
  obtain ⟨z0, z2, z4, z5, z6, z7⟩ := H.facts hop hl rfl rfl
  have HA := Lib.hid ha
  have HC := Lib.hid hc
  have HQ := Lib.hid hq
  have HNX := Lib.hid (fun W => mapNext s.n s.task W hn)
  have HH := Lib.hid (H.box rfl #[.pointer (some ⟨r, 4, none⟩)] 102)
  clear H ha hc hn
  go_enter Try.func28, Try.ntmps28
  go_wp2_with fail
  have HW := HH.out
  generalize w.heap.size = tb at HW ⊢
  generalize w.alloc _ = W at HW ⊢
  obtain ⟨z0, z2, z4, z5, z6, z7⟩ := HW.facts hop hl rfl rfl
  obtain ⟨y1, y2, y3⟩ := HW.whose rfl rfl rfl
  obtain ⟨u0, u1, u2⟩ := HW.first.own
  go_region_held3 (fun w' => w'.cell? ⟨r, 1, none⟩ = some (.int .i64 s.n) ∧ w'.cell? ⟨r, 3, none⟩ = some (.int .i64 s.task) ∧ w'.cell? ⟨r, 6, none⟩ = some (.int .u32 s.f.a) ∧ w'.cell? ⟨tb, 0, none⟩ = some (.pointer (some ⟨r, 4, none⟩)))
    (first | (refine RunHas.sees_box (S0 := S0) (w0 := w0) (m := m) (a := a) (rs := rs) (s := s) ?_; first | with_reducible assumption | with_reducible exact HW.drew))
    (first | (go_at_call 75; refine (HNX.out _).mono ?_; rintro e w1 ⟨rfl, t1⟩; have H1 := RunHas.grow HW.drew t1))
  clear u0 u1 u2 z0 z2 z4 z5 z6 z7 y1 y2 y3
  obtain ⟨x0, x2, x4, x5, x6, x7⟩ := H1.facts hop hl rfl rfl
  obtain ⟨v1, v2, v3⟩ := H1.whose rfl rfl rfl
  obtain ⟨u0, u1, u2⟩ := H1.first.own
  go_wp2_with fail
  go_ret
  exact ⟨rfl, H1.unbox⟩

/-- A line of who gives the queue on. -/
theorem mg_give {S0 : List Nat} {w0 w : World} {m a r : Nat} {rs : List Res} {s : Rn} (tail q : Int) {nn c : Nat} {A : Option Addr} {nl : List Int} (hnl : nl.length = nn) (hq : -1000 ≤ q ∧ q ≤ 1000) (hN : ∀ W s' xs, RunHas S0 w0 m a r (xs ++ rs) s' W → Rd W 1 A nn (i64s nl)) (hc : s.notes.length + nl.length ≤ 900) (H : RunHas S0 w0 m a r (rs) s w) (hn : I64 s.n) (ha : 0 ≤ s.f.a ∧ s.f.a < 4294967296) :
    Calls Try.prog 28 #[.pointer (some ⟨r, 0, none⟩), .int .i64 tail, .int .i64 q, .slice A nn c] w fun e w' => e = .returned (.bool (mxGive tail q nl s).1) ∧ RunHas S0 w0 m a r (rs) (mxGive tail q nl s).2 w' := by
  unfold mxGive
  split
  · exact mg_g0 tail q hnl hq hN hc H rfl (by assumption) hn ha
  split
  · exact mg_g1 tail q hnl hq hN hc H rfl (by assumption) hn ha
  split
  · exact mg_g2 tail q hnl hq hN hc H rfl (by assumption) hn ha
  split
  · exact mg_g3 tail q hnl hq hN hc H rfl (by assumption) hn ha
  · exact mg_gnone tail q hnl hq hN hc H rfl (by assumption) (by assumption) (by assumption) (by assumption) hn ha

end Go.Proofs.Ytlndihdlodempaa.Z

/- Package mutex: what a line keeps. Written by genmxfine.py. -/
set_option linter.unusedVariables false
set_option linter.unusedSimpArgs false
namespace Go.Proofs.Ytlndihdlodempaa.Z
open Go.RowKit

theorem keep_fine {s : Rn} (hw : Words s.L) {n mode task st c : Int} {p : Int → Bool} (h2 : 0 ≤ s.f.a ∧ s.f.a < 4294967296) : 0 ≤ (s.keep (waitA s.L n mode task st c p)).f.a ∧ (s.keep (waitA s.L n mode task st c p)).f.a < 4294967296 := by
  unfold Rn.keep
  split
  · rcases stageA_is mode st with e | e | e | e | e
    · rw [waitA0 e]; exact doA_old s.L hw _
    · rw [waitA1 e]; exact doA_old s.L hw _
    · rw [waitA2 e]; exact doA_old s.L hw _
    · rename_i h; rw [waitA3 e] at h; cases h
    · rw [waitA4 e]; exact doA_old s.L hw _
  · exact h2
theorem keep_rest (s : Rn) (R : WaitR) : (s.keep R).n = s.n ∧ (s.keep R).f.b = s.f.b ∧ (s.keep R).notes = s.notes := by
  unfold Rn.keep
  split <;> exact ⟨rfl, rfl, rfl⟩

/-- Whose run it is stays; what is kept is words; so many notes more at most. -/
def FK (k : Nat) (s s' : Rn) : Prop := (s'.n = s.n ∧ s'.mode = s.mode ∧ s'.task = s.task) ∧ ((0 ≤ s'.f.a ∧ s'.f.a < 4294967296) ∧ (0 ≤ s'.f.b ∧ s'.f.b < 4294967296)) ∧ s'.notes.length ≤ s.notes.length + k
section
variable {k : Nat} {s s' : Rn}
theorem FK.refl (h : (0 ≤ s.f.a ∧ s.f.a < 4294967296) ∧ (0 ≤ s.f.b ∧ s.f.b < 4294967296)) : FK 0 s s := ⟨⟨rfl, rfl, rfl⟩, h, Nat.le_refl _⟩
theorem FK.goto (h : FK k s s') (l : Int) : FK k s (s'.goto l) := h
theorem FK.fin (h : FK k s s') (b : Bool) : FK k s (s'.fin b) := h
theorem FK.wake (h : FK k s s') (c : Int) : FK k s (s'.wake c) := h
theorem FK.did (h : FK k s s') (R : Acc × Bool × List Int) : FK k s (s'.did R) := h
theorem FK.waited (h : FK k s s') (R : WaitR) : FK k s (s'.waited R) := h
theorem FK.setA (h : FK k s s') {v : Int} (hv : 0 ≤ v ∧ v < 4294967296) : FK k s (s'.setA v) := ⟨h.1, ⟨hv, h.2.1.2⟩, h.2.2⟩
theorem FK.setB (h : FK k s s') {v : Int} (hv : 0 ≤ v ∧ v < 4294967296) : FK k s (s'.setB v) := ⟨h.1, ⟨h.2.1.1, hv⟩, h.2.2⟩
theorem FK.note (h : FK k s s') (x y : Int) : FK (k + 1) s (s'.note x y) := ⟨h.1, h.2.1, by have := h.2.2; simp [Rn.note]; omega⟩
theorem FK.more (h : FK k s s') {j : Nat} (hj : k ≤ j) : FK j s s' := ⟨h.1, h.2.1, Nat.le_trans h.2.2 (Nat.add_le_add_left hj _)⟩
theorem FK.noted (h : FK k s s') (l : List Int) : FK (k + l.length) s (s'.noted l) := by
  induction l generalizing s' k with
  | nil => exact h
  | cons x l ih => exact (ih (h.note x 0)).more (by simp; omega)
theorem FK.keep (h : FK k s s') (hw : Words s'.L) (n mode task st c : Int) (p : Int → Bool) : FK k s (s'.keep (waitA s'.L n mode task st c p)) := by
  have h1 := keep_fine (s := s') hw (n := n) (mode := mode) (task := task) (st := st) (c := c) (p := p) h.2.1.1
  have h2 := keep_rest s' (waitA s'.L n mode task st c p)
  unfold Rn.keep at h1 h2 ⊢
  split
  · rename_i hs
    rw [if_pos hs] at h1
    exact h.setA h1
  · exact h
end
variable {s : Rn}
theorem mxEnter_fk (tail cls : Int) (hw : Words s.L) (h : (0 ≤ s.f.a ∧ s.f.a < 4294967296) ∧ (0 ≤ s.f.b ∧ s.f.b < 4294967296)) : FK 1 s (mxEnter tail cls s).2 := by
  have R := FK.refl h
  have hold := fun b => doA_old s.L hw b
  unfold mxEnter
  split
  · exact ((R.did _).goto _).more (by decide)
  split
  · exact ((R.did _).goto _).more (by decide)
  split
  · unfold mxE2
    dsimp only
    split
    · exact ((R.did _).setA (hold _)).note _ _
    · exact (((R.did _).setA (hold _)).note _ _).goto _
  split
  · exact (((R.did _).wake _).goto _).more (by decide)
  split
  · exact (R.waited _).more (by decide)
  · exact R.more (by decide)
theorem mxTry_fk (tail : Int) (h : (0 ≤ s.f.a ∧ s.f.a < 4294967296) ∧ (0 ≤ s.f.b ∧ s.f.b < 4294967296)) : FK 0 s (mxTry tail s).2.2 := by
  have R := FK.refl h
  unfold mxTry
  split
  · exact (R.did _).goto _
  split
  · exact R.did _
  · exact R
theorem mxGive_fk (tail q : Int) (nl : List Int) (hw : Words s.L) (h : (0 ≤ s.f.a ∧ s.f.a < 4294967296) ∧ (0 ≤ s.f.b ∧ s.f.b < 4294967296)) : FK nl.length s (mxGive tail q nl s).2 := by
  have R := FK.refl h
  have hold := fun b => doA_old s.L hw b
  unfold mxGive
  split
  · unfold mxG0
    dsimp only
    split
    · exact (((R.did _).setA (hold _)).goto _).more (Nat.zero_le _)
    · exact (((R.did _).setA (hold _)).goto _).more (Nat.zero_le _)
  split
  · unfold mxG1
    split
    · exact ((R.did _).noted nl).more (by omega)
    · exact ((R.did _).goto _).more (Nat.zero_le _)
  split
  · unfold mxG2
    dsimp only
    split
    · exact (((R.keep hw _ _ _ _ _ _).waited _).goto _).more (Nat.zero_le _)
    · exact ((R.keep hw _ _ _ _ _ _).waited _).more (Nat.zero_le _)
  split
  · exact (((R.did _).noted nl).wake _).more (by omega)
  · exact R.more (Nat.zero_le _)
end Go.Proofs.Ytlndihdlodempaa.Z

/- Law 12: the document's example. -/
set_option linter.unusedVariables false
set_option linter.unusedSimpArgs false
namespace Go.Proofs.Ytlndihdlodempaa.Z
open Go.RowKit
attribute [local go_sem ↓] Go.wp_at_zero Go.wp_at_succ

/-- So many lines of entering; of giving on. -/
def in12 (s : Rn) : Nat → Bool × Rn
  | 0 => (false, s)
  | k + 1 => mxEnter 0 1 (in12 s k).2
def out12 (s : Rn) : Nat → Bool × Rn
  | 0 => (false, s)
  | k + 1 => mxGive 0 6 [] (out12 s k).2
def ok12 (s : Rn) : Bool := decide (s.n = 1) && decide (0 ≤ s.f.a) && decide (s.f.a < 4294967296) && decide (s.notes.length ≤ 100)
theorem ok12_is {s : Rn} (h : ok12 s = true) : I64 s.n ∧ (0 ≤ s.f.a ∧ s.f.a < 4294967296) ∧ s.notes.length ≤ 100 := by
  unfold ok12 at h
  simp only [Bool.and_eq_true, decide_eq_true_eq] at h
  obtain ⟨⟨⟨h1, h2⟩, h3⟩, h4⟩ := h
  exact ⟨by unfold I64; omega, ⟨h2, h3⟩, h4⟩
def first12 : Rn := start 1 1 0 (own4 0 ++ List.replicate ((8 + 4 * (1 : Int)).toNat - 2) 0)
def second12 : Rn := (in12 first12 3).2.goto 6
theorem awake12_pure : ok12 (in12 first12 0).2 = true ∧ ok12 (in12 first12 1).2 = true ∧ ok12 (in12 first12 2).2 = true ∧ (in12 first12 3).1 = true ∧ ok12 (out12 second12 0).2 = true ∧ ok12 (out12 second12 1).2 = true ∧ (out12 second12 2).1 = true ∧ ldA (out12 second12 2).2.L 0 = 0 := by
  decide +kernel

theorem RunHas.line {S0 : List Nat} {w0 w : World} {m a r : Nat} {rs : List Res} {s : Rn} (H : RunHas S0 w0 m a r rs s w) (v : Int) : RunHas S0 w0 m a r rs (s.goto v) (w.setCell ⟨r, 5, none⟩ (.int .i64 v)) := by
  obtain ⟨nv, H⟩ := H
  exact ⟨nv, H.set1 5 (.int .i64 v)⟩

set_option maxHeartbeats 1600000 in
set_option maxRecDepth 100000 in
theorem mx_awake (w : World) : Calls Try.prog 25 #[] w fun e w' => e = .returned (.bool true) ∧ Touch [] w w' := by
  have hp := awake12_pure
  have hf := fun W => first4 1 0 W (by decide) (by decide)
  obtain ⟨s0, hs0⟩ : ∃ s0, first12 = s0 := ⟨_, rfl⟩
  have hL : own4 0 ++ List.replicate ((8 + 4 * (1 : Int)).toNat - 2) 0 = s0.L := by rw [← hs0]; rfl
  have hsn : s0.notes = [] := by rw [← hs0]; rfl
  have hsc : ∀ m nv, rcells m s0 nv = rcells m (start 1 1 0 []) nv := fun m nv => by rw [← hs0]; rfl
  obtain ⟨s6, hs6⟩ : ∃ s6, second12 = s6 := ⟨_, rfl⟩
  have h6 : s6 = (in12 s0 3).2.goto 6 := by rw [← hs6, ← hs0]; rfl
  rw [hs6, hs0] at hp
  rw [hL] at hf
  obtain ⟨p0, p1, p2, p3, q0, q1, q2, q3⟩ := hp
  have HF := Lib.hid hf
  have HP := Lib.hid (show ∀ k : Nat, k < 3 → ok12 (in12 s0 k).2 = true from fun k hk => by
    rcases (show k = 0 ∨ k = 1 ∨ k = 2 by omega) with rfl | rfl | rfl <;> assumption)
  have HQ := Lib.hid (show ∀ k : Nat, k < 2 → ok12 (out12 s6 k).2 = true from fun k hk => by
    rcases (show k = 0 ∨ k = 1 by omega) with rfl | rfl <;> assumption)
  have HP3 := Lib.hid p3
  have HQ2 := Lib.hid q2
  have HQ3 := Lib.hid q3
  have HS6 := Lib.hid h6
  have HSC := Lib.hid hsc
  clear hf hL hs0 hs6 p0 p1 p2 p3 q0 q1 q2 q3 h6 hsc
  go_enter Try.func25, Try.ntmps25
  go_wp2_with fail
  refine (HF.out _).mono ?_
  rintro e w1 h1
  obtain ⟨p, g, cap, rfl, H1⟩ := has_newwords (Has.start [] w) h1
  clear h1
  go_wp2_with fail
  refine (fromRow_has H1 rfl).mono ?_
  rintro e w2 ⟨m, a, rfl, H2⟩
  clear H1
  go_wp2_with fail
  have H3 := RunHas.fresh_ s0 H2 hsn 43
  rw [HSC.out] at H3
  refine wp_from (Facts := fun W => RunHas [] w m a w2.heap.size (.row p g cap s0.L :: []) s0 W) ?_ H3
  clear H3 H2
  intro W H3
  generalize w2.heap.size = r at H3 ⊢
  have HH := Lib.hid H3
  clear H3
  go_loopw [6, 8] (fun b i wr => ∃ k : Nat, k ≤ 3 ∧ i = .int .i64 k ∧ b = .bool (in12 s0 k).1 ∧ RunHas [] w m a r (.row p g cap s0.L :: []) (in12 s0 k).2 wr) (fun _ i _ => 3 - (intOf i).toNat)
  case atStart => exact ⟨0, Nat.zero_le _, rfl, rfl, HH.out⟩
  case round =>
    obtain ⟨k, hk, rfl, rfl, hH⟩ := hrel
    have HK := Lib.hid hH
    clear hH
    by_cases hlt : k < 3
    · obtain ⟨k1, k2, k3⟩ := ok12_is (HP.out k hlt)
      have HE := Lib.hid (mx_enter HK.out 0 1 k1 k2 (by omega))
      clear k1 k2 k3
      have hi : (k : Int) < 3 := by omega
      go_wp2_with fail
      refine (HE.out).mono ?_
      rintro e w3 ⟨rfl, H4⟩
      go_wp2_with fail
      exact ⟨⟨k + 1, by omega, by go_num, rfl, H4⟩, by simp [intOf]; omega⟩
    · have hkn : k = 3 := by omega
      have e3 : (in12 s0 k).1 = true := by rw [hkn]; exact HP3.out
      have e6 : (in12 s0 k).2.goto 6 = s6 := by rw [hkn]; exact HS6.out.symm
      rw [e3]
      have H5 := HK.out.line 6
      obtain ⟨z0, z2, z4, z5, z6, z7⟩ := HK.out.facts rfl rfl rfl rfl
      rw [e6] at H5
      have hi : (3 : Int) ≤ (k : Int) := by omega
      clear hlt hk hkn e3 e6
      go_wp2_with fail
      refine wp_from (Facts := fun W => RunHas [] w m a r (.row p g cap s0.L :: []) s6 W) ?_ H5
      clear H5 HK z0 z2 z4 z5 z6 z7
      intro W2 H6
      have HJ := Lib.hid H6
      clear H6
      go_loopw [7, 9] (fun b i wr => ∃ k : Nat, k ≤ 2 ∧ i = .int .i64 k ∧ b = .bool (out12 s6 k).1 ∧ RunHas [] w m a r (.row p g cap s0.L :: []) (out12 s6 k).2 wr) (fun _ i _ => 2 - (intOf i).toNat)
      case atStart => exact ⟨0, Nat.zero_le _, rfl, rfl, HJ.out⟩
      case round =>
        obtain ⟨k, hk, rfl, rfl, hH⟩ := hrel
        have HK := Lib.hid hH
        clear hH
        by_cases hlt : k < 2
        · obtain ⟨k1, k2, k3⟩ := ok12_is (HQ.out k hlt)
          have HE := Lib.hid (mg_give (A := none) (nn := 0) (c := 0) (nl := []) 0 6 rfl (by decide) (fun W s' xs _ => Rd.nil _ _ _) (by simp; omega) HK.out k1 k2)
          clear k1 k2 k3
          have hi : (k : Int) < 2 := by omega
          go_wp2_with fail
          refine (HE.out).mono ?_
          rintro e w3 ⟨rfl, H4⟩
          go_wp2_with fail
          exact ⟨⟨k + 1, by omega, by go_num, rfl, H4⟩, by simp [intOf]; omega⟩
        · have hkn : k = 2 := by omega
          have e2 : (out12 s6 k).1 = true := by rw [hkn]; exact HQ2.out
          rw [e2]
          obtain ⟨nv, H7⟩ := HK.out
          have hld := load_has H7 0
          rw [show ldA (out12 s6 k).2.L 0 = 0 by rw [hkn]; exact HQ3.out] at hld
          have HLD := Lib.hid hld
          have hi : (2 : Int) ≤ (k : Int) := by omega
          clear hlt hk hld hkn e2
          go_wp2_with fail
          refine (HLD.out).mono ?_
          rintro e w5 ⟨rfl, H8⟩
          go_wp2_with fail
          go_ret
          exact ⟨by simp, H8.touch⟩

end Go.Proofs.Ytlndihdlodempaa.Z

/- The mutex's game: how it lies in a world; what the step's function does. -/
set_option linter.unusedVariables false
set_option linter.unusedSimpArgs false
namespace Go.Proofs.Ytlndihdlodempaa.Z
open Go.RowKit
attribute [local go_sem ↓] Go.wp_at_zero Go.wp_at_succ

/-- The order as it lies in a world: nil, or a part of a block. -/
def OrdIs (v : Value) (xs : List Int) (ors : List Res) : Prop :=
  (v = .slice none 0 0 ∧ xs = [] ∧ ors = []) ∨
  ∃ (b off cap : Nat) (cs : Array Value), v = .slice (some ⟨b, off, none⟩) xs.length cap ∧ ors = [.blk b cs] ∧ xs.length ≤ cap ∧ off + cap ≤ cs.size ∧ cap ≤ 9223372036854775807 ∧ ∀ j, j < xs.length → cs[off + j]? = some (.int .i64 (xs.getD j 0))

def GmHas (w0 : World) (m a sb sa ta : Nat) (lv : Value) (rs : List Res) (G : Gm) (w : World) : Prop :=
  ∃ ts : List Tk, Fit G.M ts ∧ G.times.length = G.M.fs.length ∧ Has [] w0 w (.mem m a G.M.L :: .own 36 1 lv G.M.fs.length (ts.map Tk.ptr) :: .blk sb #[.slice (some ⟨sa, 0, none⟩) G.M.fs.length G.M.fs.length] :: .blk sa (i64s G.M.hold).toArray :: .blk ta (i64s G.times).toArray :: (tksRes m ts ++ rs))

/-- A task's run in front. -/
def GOpn (w0 : World) (m a r sb sa ta k : Nat) (hold times : List Int) (rest : List Res) (s : Rn) (w : World) : Prop :=
  RunHas [] w0 m a r (.blk sb #[.slice (some ⟨sa, 0, none⟩) k k] :: .blk sa (i64s hold).toArray :: .blk ta (i64s times).toArray :: rest) s w

theorem perm_gm {α : Type} (a b c d t e f : α) (P Q : List α) : (a :: b :: c :: d :: t :: (P ++ e :: f :: Q)).Perm (a :: e :: f :: c :: d :: t :: b :: (P ++ Q)) := by
  have h1 : (P ++ e :: f :: Q).Perm (e :: f :: (P ++ Q)) := (List.perm_middle).trans (List.Perm.cons _ List.perm_middle)
  have h2 : ([b, c, d, t] ++ e :: f :: (P ++ Q)).Perm (e :: f :: ([b, c, d, t] ++ (P ++ Q))) := (List.perm_middle).trans (List.Perm.cons _ List.perm_middle)
  have h3 : (([b] ++ [c, d, t]) ++ (P ++ Q)).Perm (([c, d, t] ++ [b]) ++ (P ++ Q)) := List.perm_append_comm.append_right _
  exact (((((h1.cons t).cons d).cons c).cons b).trans (h2.trans ((h3.cons f).cons e))).cons a

theorem GmHas.opened {w0 w : World} {m a sb sa ta : Nat} {lv : Value} {rs : List Res} {G : Gm} (H : GmHas w0 m a sb sa ta lv rs G w) {i : Nat} (hi : i < G.M.fs.length) :
    ∃ (r b off cap : Nat) (rest : List Res) (s : Rn), lv = .slice (some ⟨b, off, none⟩) G.M.fs.length cap ∧ s.f = G.f i ∧ s.n = G.M.n ∧ s.mode = G.M.mode ∧ s.task = i ∧ s.L = G.M.L ∧ GOpn w0 m a r sb sa ta G.M.fs.length G.M.hold G.times (rest ++ rs) s w ∧
      (∀ W s' hold' times' rs', GOpn w0 m a r sb sa ta G.M.fs.length hold' times' (rest ++ rs') s' W → b < W.heap.size ∧ W.cell? ⟨b, off + i, none⟩ = some (.pointer (some ⟨r, 0, none⟩))) ∧
      (∀ W s' h' times' o' i' rs', GOpn w0 m a r sb sa ta G.M.fs.length (G.M.hold.set i h') times' (rest ++ rs') s' W → FrOk s'.f → s'.n = G.M.n → s'.mode = G.M.mode → s'.task = i → times'.length = G.times.length → GmHas w0 m a sb sa ta lv rs' ⟨G.M.put i s'.f h' s'.L, times', o', i'⟩ W) := by
  obtain ⟨ts, F, ht, H⟩ := H
  obtain ⟨p, t, q, rfl, hp⟩ := split_at ts i (by rw [F.len]; exact hi)
  have hti : (p ++ t :: q)[i]? = some t := by rw [List.getElem?_append_right (by omega), hp, Nat.sub_self]; rfl
  obtain ⟨b, off, cap, rfl, hbl, hc⟩ := ptrs_at (H.all (.own 36 1 lv G.M.fs.length ((p ++ t :: q).map Tk.ptr)) (by simp)) hti
  obtain ⟨e1, e2, e3, e4⟩ := F.each i t hti
  obtain ⟨r, s, nv⟩ := t
  have hsplit : ∀ (t' : Tk) (rs : List Res), tksRes m (p ++ t' :: q) ++ rs = tksRes m p ++ .blk t'.r (rcells m t'.s t'.nv) :: .own 98 4 t'.nv t'.s.notes.length (nts t'.s.notes) :: (tksRes m q ++ rs) := by
    intro t' rs
    simp [tksRes, Tk.res]
  rw [hsplit] at H
  have H1 := H.perm (perm_gm _ _ _ _ _ _ _ _ _)
  have hre : ∀ rs : List Res, (.own 36 1 (.slice (some ⟨b, off, none⟩) G.M.fs.length cap) G.M.fs.length ((p ++ (⟨r, s, nv⟩ : Tk) :: q).map Tk.ptr) :: (tksRes m p ++ tksRes m q)) ++ rs = .own 36 1 (.slice (some ⟨b, off, none⟩) G.M.fs.length cap) G.M.fs.length ((p ++ (⟨r, s, nv⟩ : Tk) :: q).map Tk.ptr) :: (tksRes m p ++ (tksRes m q ++ rs)) := fun rs => by simp
  refine ⟨r, b, off, cap, .own 36 1 (.slice (some ⟨b, off, none⟩) G.M.fs.length cap) G.M.fs.length ((p ++ (⟨r, s, nv⟩ : Tk) :: q).map Tk.ptr) :: (tksRes m p ++ tksRes m q), { s with L := G.M.L }, rfl, ?_, e2, e3, e4, rfl, ⟨nv, by rw [hre]; exact H1⟩, ?_, ?_⟩
  · show s.f = G.M.fs.getD i Fr.zero
    simp only [List.getD, e1]; rfl
  · rintro W s' hold' times' rs' ⟨nv', H2⟩
    rw [hre] at H2
    have hown := H2.all (.own 36 1 (.slice (some ⟨b, off, none⟩) G.M.fs.length cap) G.M.fs.length ((p ++ (⟨r, s, nv⟩ : Tk) :: q).map Tk.ptr)) (by simp)
    obtain ⟨b', off', cap', hv, hb', hc'⟩ := ptrs_at hown hti
    simp only [Value.slice.injEq, Option.some.injEq, Addr.mk.injEq] at hv
    obtain ⟨⟨rfl, rfl, _⟩, _, rfl⟩ := hv
    exact ⟨hb', hc'⟩
  · rintro W s' h' times' o' i' rs' ⟨nv', H2⟩ hok hn hm ht' htl
    rw [hre] at H2
    refine ⟨p ++ (⟨r, s', nv'⟩ : Tk) :: q, ⟨?_, ?_, ?_, ?_, F.n64, ?_⟩, ?_, ?_⟩
    · have := F.len
      simp only [List.length_append, List.length_cons, Mt.put, List.length_set] at this ⊢
      exact this
    · simp only [Mt.put, List.length_set]; exact F.hlen
    · intro j t' hj
      by_cases hji : j = i
      · subst hji
        rw [List.getElem?_append_right (by omega), hp, Nat.sub_self] at hj
        simp only [List.getElem?_cons_zero, Option.some.injEq] at hj
        subst hj
        refine ⟨?_, hn, hm, ht'⟩
        simp only [Mt.put]
        rw [List.getElem?_set_self hi]
      · have hj' : (p ++ (⟨r, s, nv⟩ : Tk) :: q)[j]? = some t' := by
          rcases Nat.lt_or_ge j p.length with h1 | h1
          · rw [List.getElem?_append_left h1] at hj ⊢
            exact hj
          · rw [List.getElem?_append_right h1] at hj ⊢
            obtain ⟨d, hd⟩ : ∃ d, j - p.length = d + 1 := ⟨j - p.length - 1, by omega⟩
            rw [hd] at hj ⊢
            exact hj
        have := F.each j t' hj'
        refine ⟨?_, this.2⟩
        simp only [Mt.put]
        rw [List.getElem?_set_ne (fun e => hji e.symm)]
        exact this.1
    · intro f hf
      rcases List.mem_or_eq_of_mem_set hf with h1 | rfl
      · exact F.ok f h1
      · exact hok
    · simp only [Mt.put, List.length_set]; exact F.few
    · simp only [Mt.put, List.length_set]; rw [htl]; exact ht
    · have H3 := H2.perm (perm_gm (.mem m a s'.L) (.own 36 1 (.slice (some ⟨b, off, none⟩) G.M.fs.length cap) G.M.fs.length ((p ++ (⟨r, s, nv⟩ : Tk) :: q).map Tk.ptr)) (.blk sb #[.slice (some ⟨sa, 0, none⟩) G.M.fs.length G.M.fs.length]) (.blk sa (i64s (G.M.hold.set i h')).toArray) (.blk ta (i64s times').toArray) (.blk r (rcells m s' nv')) (.own 98 4 nv' s'.notes.length (nts s'.notes)) (tksRes m p) (tksRes m q ++ rs')).symm
      rw [hsplit ⟨r, s', nv'⟩]
      simp only [Mt.put, List.length_set]
      have he : (p ++ (⟨r, s', nv'⟩ : Tk) :: q).map Tk.ptr = (p ++ (⟨r, s, nv⟩ : Tk) :: q).map Tk.ptr := by simp [Tk.ptr]
      rw [he]
      exact H3

theorem i64s_get {l : List Int} {k : Nat} (h : k < l.length) : (i64s l).toArray[k]? = some (.int .i64 (l.getD k 0)) := by simp [i64s, List.getD, h]
/-- What the step's function does. -/
theorem gm_fun {w0 w : World} {m a r gb kb sb sa ta n k : Nat} {g0 : Bool} {hold times : List Int} {RS : List Res} {s : Rn} (H : RunHas [] w0 m a r (.blk gb #[.bool g0] :: .blk kb #[.int .i64 k] :: .blk sb #[.slice (some ⟨sa, 0, none⟩) n n] :: .blk sa (i64s hold).toArray :: RS) s w)
    (hk : k < n) (hl : hold.length = n) (hn64 : n ≤ 64) (hn : I64 s.n) (ha : 0 ≤ s.f.a ∧ s.f.a < 4294967296) (hc : s.notes.length ≤ 100) :
    Calls Try.prog 86 #[.pointer (some ⟨r, 0, none⟩), .pointer (some ⟨sb, 0, none⟩), .pointer (some ⟨kb, 0, none⟩), .pointer (some ⟨gb, 0, none⟩)] w
      fun e w' => e = .returned (.tuple #[]) ∧ RunHas [] w0 m a r (.blk gb #[.bool (if hold.getD k 0 = 0 then mxEnter 0 2 s else mxGive 0 6 [8] s).1] :: .blk kb #[.int .i64 k] :: .blk sb #[.slice (some ⟨sa, 0, none⟩) n n] :: .blk sa (i64s hold).toArray :: RS) (if hold.getD k 0 = 0 then mxEnter 0 2 s else mxGive 0 6 [8] s).2 w' := by
  have HH := Lib.hid H
  obtain ⟨nv, H⟩ := H
  obtain ⟨p0, p1, p2⟩ := (H.at_ 3 rfl).own
  obtain ⟨q0, q1, q2⟩ := (H.at_ 4 rfl).own
  obtain ⟨u0, u1, u2⟩ := (H.at_ 5 rfl).own
  obtain ⟨v0, v1, v2⟩ := (H.at_ 6 rfl).own
  have vk : w.cell? ⟨sa, k, none⟩ = some (.int .i64 (hold.getD k 0)) := (v1 k).trans (i64s_get (by omega))
  have i1 : (k : Int) < (n : Int) := by omega
  have i2 : ¬ ((k : Int) < 0) := by omega
  clear v1 H
  obtain ⟨z, hz⟩ : ∃ z, hold.getD k 0 = z := ⟨_, rfl⟩
  rw [hz] at vk ⊢
  have HN := Lib.hid hn
  have HA := Lib.hid ha
  have HC := Lib.hid hc
  clear hz hn ha hc hl
  by_cases h0 : z = 0
  · subst h0
    simp only [if_true]
    have he := fun W (H : RunHas [] w0 m a r (.blk gb #[.bool g0] :: .blk kb #[.int .i64 k] :: .blk sb #[.slice (some ⟨sa, 0, none⟩) n n] :: .blk sa (i64s hold).toArray :: RS) s W) => mx_enter H 0 2 HN.out HA.out (by have := HC.out; omega)
    generalize mxEnter 0 2 s = R at he ⊢
    obtain ⟨b, s1⟩ := R
    have HE := Lib.hid he
    clear he
    go_enter Try.func86, Try.ntmps86
    go_wp2_with fail
    refine (HE.out _ HH.out).mono ?_
    rintro e w1 ⟨rfl, nv1, H1⟩
    obtain ⟨p0, p1, p2⟩ := (H1.at_ 3 rfl).own
    go_wp2_with fail
    go_end0
    exact ⟨rfl, nv1, H1.set3 0 (.bool b)⟩
  · simp only [if_neg h0]
    have hzb : (z == 0) = false := by simpa using h0
    clear h0
    have he := fun (g : Nat) W (H : RunHas [] w0 m a r (.blk g (i64s [8]).toArray :: .blk gb #[.bool g0] :: .blk kb #[.int .i64 k] :: .blk sb #[.slice (some ⟨sa, 0, none⟩) n n] :: .blk sa (i64s hold).toArray :: RS) s W) => mx_give (c := 1) 0 6 (nl := [8]) rfl (by decide) (by have := HC.out; simp; omega) H HN.out HA.out
    generalize mxGive 0 6 [8] s = R at he ⊢
    obtain ⟨b, s1⟩ := R
    have HE := Lib.hid he
    clear he
    go_enter Try.func86, Try.ntmps86
    go_wp2_with fail
    refine (HE.out _ _ (HH.out.box rfl _ _)).mono ?_
    rintro e w1 ⟨rfl, H1⟩
    obtain ⟨nv1, H1⟩ := H1.unbox
    obtain ⟨p0, p1, p2⟩ := (H1.at_ 3 rfl).own
    go_wp2_with fail
    go_end0
    exact ⟨rfl, nv1, H1.set3 0 (.bool b)⟩

end Go.Proofs.Ytlndihdlodempaa.Z
