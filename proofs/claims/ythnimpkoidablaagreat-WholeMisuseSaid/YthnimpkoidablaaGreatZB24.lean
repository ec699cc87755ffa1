/- 5 texts of this claim, joined: what Package world needs of them. -/
import Derived.Test.YthnimpkoidablaaGreatZB23
import Derived.Test.YthnimpkoidablaaGreatZB09
import Derived.Test.YthnimpkoidablaaGreatZB06
import Derived.Test.YthnimpkoidablaaGreatZB10
import Derived.Deep.RegionHeld3
import Derived.Deep.DrawnRows
set_option linter.unusedVariables false
set_option linter.unusedSimpArgs false
namespace Go.Proofs.YthnimpkoidablaaGreat.Z
open Go.RowKit
theorem owns_base0 {w : World} {base : Nat} {e : TypeId} {size n : Nat} {v : Value} {xs : List Value} (h : w.ownsRow base e size v n xs) : w.ownsRow 0 e size v n xs :=
  ⟨h.1, h.2.imp id fun ⟨g, cap, cur, a, _, c⟩ => ⟨g, cap, cur, a, Nat.zero_le _, c⟩⟩
def WState (S0 : List Nat) (w0 : World) (p : Wl) (rs : List Res) (M : Mt) (e : Ending) (w' : World) : Prop :=
  ∃ pr gr cr pt ct, e = .returned (.agg #[.int .i64 p.kind, .int .i64 M.mode, .int .i64 M.n, .slice pr M.L.length cr, .slice pt M.fs.length ct]) ∧ WHas S0 w0 p (.own 78 11 (.slice pt M.fs.length ct) M.fs.length (tcells M.hold M.fs) :: .row pr gr cr M.L :: rs) M w'
def CloneHas (S0 : List Nat) (w0 : World) (k : Nat) (xs : List Value) (rs : List Res) (e : Ending) (w' : World) : Prop := ∃ pt ct, e = .returned (.slice pt k ct) ∧ Has S0 w0 w' (.own 78 11 (.slice pt k ct) k xs :: rs)
theorem clone_has {S0 : List Nat} {w0 w : World} {b n c : Nat} {xs : List Value} {rs : List Res} (H : Has S0 w0 w rs) (hr : Rd w 11 (some ⟨b, 0, none⟩) n xs) (h1 : ∀ u ∈ xs, u.oneCell' = true) (hn : n ≤ 64) :
    Calls Tryz.prog 41 #[.slice (some ⟨b, 0, none⟩) n c] w (CloneHas S0 w0 n xs rs) :=
  (clone_tasks w hr h1 hn).mono fun e w' ⟨v, he, ho, hb⟩ => by
    obtain ⟨pt, ct, rfl⟩ := owns_slice ho
    refine ⟨pt, ct, he, H.came (.own 78 11 (.slice pt n ct) n xs) (S := []) (Below.toTouch hb) (by simp) (owns_base0 ho) ?_⟩
    intro k hk
    rcases ho.2 with ⟨hv, _⟩ | ⟨g, cap, cur, hv, hbase, _⟩
    · simp only [Value.slice.injEq] at hv
      obtain ⟨rfl, _, _⟩ := hv
      simp [Res.foot, Value.ownBlock] at hk
    · simp only [Value.slice.injEq] at hv
      obtain ⟨rfl, _, _⟩ := hv
      simp [Res.foot, Value.ownBlock] at hk
      omega
theorem rd_tasks {w : World} {b k : Nat} {hs : List Int} {fs : List Fr} (h : Blk w b (tcells hs fs).toArray) (e : hs.length = fs.length) (hk : fs.length = k) : Rd w 11 (some ⟨b, 0, none⟩) k (tcells hs fs) :=
  ⟨by rw [tc_len _ _ e, hk], fun _ => ⟨_, rfl, h.lt, fun j u hu => by
    rw [Addr.add_lit, Nat.zero_add, h.cell, ← hu]
    simp⟩⟩
def StK (S0 : List Nat) (w0 : World) (p : Wl) (M : Mt) (rb : Nat) (rest : List Res) (w : World) : Prop :=
  ∃ cs : Array Value, cs.size = 5 ∧ Has S0 w0 w (.blk rb cs :: .mem p.m p.a M.L :: .blk p.x (wcells p M.mode M.n M.fs.length) :: .blk p.tb (tcells M.hold M.fs).toArray :: rest)
def StF (S0 : List Nat) (w0 : World) (p : Wl) (M : Mt) (rb : Nat) (w : World) : Prop := ∃ rest, StK S0 w0 p M rb rest w
theorem StK.f {S0 : List Nat} {w0 : World} {p : Wl} {M : Mt} {rb : Nat} {rest : List Res} {w : World} (h : StK S0 w0 p M rb rest w) : StF S0 w0 p M rb w := ⟨rest, h⟩
theorem StK.set {S0 : List Nat} {w0 : World} {p : Wl} {M : Mt} {rb : Nat} {rest : List Res} {w : World} (h : StK S0 w0 p M rb rest w) (i : Nat) (v : Value) : StK S0 w0 p M rb rest (w.setCell ⟨rb, i, none⟩ v) := by
  obtain ⟨cs, hc, H⟩ := h
  exact ⟨_, by simpa using hc, H.set i v⟩
theorem StK.grow {S0 : List Nat} {w0 : World} {p : Wl} {M : Mt} {rb : Nat} {rest : List Res} {w w' : World} (h : StK S0 w0 p M rb rest w) (t : Touch [] w w') : StK S0 w0 p M rb rest w' := by
  obtain ⟨cs, hc, H⟩ := h
  exact ⟨cs, hc, H.grow t⟩
theorem stf {S0 : List Nat} {w0 : World} {p : Wl} {M : Mt} {rb : Nat} {w : World} (h : StF S0 w0 p M rb w) :
    StF S0 w0 p M rb w ∧ (∀ i, w.cell? ⟨p.x, i, none⟩ = (#[.int .i64 p.kind, .int .i64 M.mode, .pointer (some ⟨p.m, 0, none⟩), .int .i64 M.n, .func (.func p.fid) #[] #[], .slice (some ⟨p.tb, 0, none⟩) M.fs.length M.fs.length] : Array Value)[i]?) ∧
    (w.cell? ⟨rb, 0, none⟩ = some (cellD w rb 0) ∧ w.cell? ⟨rb, 1, none⟩ = some (cellD w rb 1) ∧ w.cell? ⟨rb, 2, none⟩ = some (cellD w rb 2) ∧ w.cell? ⟨rb, 3, none⟩ = some (cellD w rb 3) ∧ w.cell? ⟨rb, 4, none⟩ = some (cellD w rb 4)) ∧ (∀ i, w.frozen? ⟨rb, i, none⟩ = false) := by
  obtain ⟨rest, cs, hc, H⟩ := h
  have hb := Has.at_ H 0 rfl
  exact ⟨⟨rest, cs, hc, H⟩, (Has.at_ H 2 rfl).cell, ⟨cellD_is hb (by omega), cellD_is hb (by omega), cellD_is hb (by omega), cellD_is hb (by omega), cellD_is hb (by omega)⟩, hb.own.2.2⟩
def StAll (S0 : List Nat) (w0 : World) (p : Wl) (M : Mt) (rb : Nat) (rs : List Res) (e : Ending) (w : World) : Prop :=
  ∃ pr gr cr, e = .returned (.slice pr M.L.length cr) ∧ StK S0 w0 p M rb (.row pr gr cr M.L :: rs) w
theorem st_all {S0 : List Nat} {w0 : World} {p : Wl} {M : Mt} {rb : Nat} {rs : List Res} {w : World} (h : StK S0 w0 p M rb rs w) : Calls Tryz.prog 40 #[.pointer (some ⟨p.m, 0, none⟩)] w (StAll S0 w0 p M rb rs) := by
  obtain ⟨cs, hc, H⟩ := h
  refine (all_mem H.tail.mem).mono fun e w'' hh => ?_
  obtain ⟨pr, gr, cr, he, H'⟩ := has_newrow H H.tail.mem.words hh
  exact ⟨pr, gr, cr, he, cs, hc, H'.perm (List.perm_append_comm_assoc [_] [_, _, _, _] rs)⟩
def StClone (S0 : List Nat) (w0 : World) (p : Wl) (M : Mt) (rb : Nat) (rs : List Res) (e : Ending) (w : World) : Prop :=
  ∃ pt ct, e = .returned (.slice pt M.fs.length ct) ∧ StK S0 w0 p M rb (.own 78 11 (.slice pt M.fs.length ct) M.fs.length (tcells M.hold M.fs) :: rs) w
theorem st_clone {S0 : List Nat} {w0 : World} {p : Wl} {M : Mt} {rb : Nat} {rs : List Res} {w : World} (hl : M.hold.length = M.fs.length) (h64 : M.fs.length ≤ 64) (h : StK S0 w0 p M rb rs w) : Calls Tryz.prog 41 #[.slice (some ⟨p.tb, 0, none⟩) M.fs.length M.fs.length] w (StClone S0 w0 p M rb rs) := by
  obtain ⟨cs, hc, H⟩ := h
  refine (clone_has H (rd_tasks (Has.at_ H 3 rfl) hl rfl) (tcells_one _ _) h64).mono fun e w'' hh => ?_
  obtain ⟨pt, ct, he, H'⟩ := hh
  exact ⟨pt, ct, he, cs, hc, H'.perm (List.perm_append_comm_assoc [_] [_, _, _, _] rs)⟩
set_option maxHeartbeats 3200000 in
set_option maxRecDepth 100000 in
theorem wstate_ok {S0 : List Nat} {w0 w : World} {p : Wl} {rs : List Res} {M : Mt} (H : WHas S0 w0 p rs M w) :
    Calls Tryz.prog 26 #[.pointer (some ⟨p.x, 0, none⟩)] w (WState S0 w0 p rs M) := by
  obtain ⟨F, H⟩ := H
  have HFIT := Lib.hid F
  have H2 : Has S0 w0 (w.alloc (.cells #[.int .i64 0, .int .i64 0, .int .i64 0, .slice none 0 0, .slice none 0 0] 68)) (.blk w.heap.size #[.int .i64 0, .int .i64 0, .int .i64 0, .slice none 0 0, .slice none 0 0] :: .mem p.m p.a M.L :: .blk p.x (wcells p M.mode M.n M.fs.length) :: .blk p.tb (tcells M.hold M.fs).toArray :: rs) := H.new1
  have HH := Lib.hid (show StK S0 w0 p M w.heap.size rs (w.alloc (.cells #[.int .i64 0, .int .i64 0, .int .i64 0, .slice none 0 0, .slice none 0 0] 68)) from ⟨_, rfl, H2⟩)
  have H3 := Lib.hid H2
  clear F H H2
  go_enter Tryz.func26, Tryz.ntmps26
  go_wp2_with fail
  refine wp_from (Facts := fun W => StK S0 w0 p M w.heap.size rs W ∧ (∀ i, W.cell? ⟨w.heap.size, i, none⟩ = (#[.int .i64 0, .int .i64 0, .int .i64 0, .slice none 0 0, .slice none 0 0] : Array Value)[i]?)) ?_ ⟨HH.out, (Has.at_ H3.out 0 rfl).cell⟩
  clear HH H3
  intro W ⟨HR, hz⟩
  clear hz
  generalize w.heap.size = rb at HR ⊢
  have hst := HFIT.out.hlen
  have hs4 := HFIT.out.few
  have HC := Lib.hid (fun (w' : World) (rest : List Res) (h : StK S0 w0 p M rb rest w') => st_clone hst hs4 h)
  have HDREW := Lib.hid (HR.grow ((Touch.refl [] W).drew))
  clear hst hs4 HR
  go_region_held3 (fun w' => StF S0 w0 p M rb w' ∧ (∀ i, w'.cell? ⟨p.x, i, none⟩ = (#[.int .i64 p.kind, .int .i64 M.mode, .pointer (some ⟨p.m, 0, none⟩), .int .i64 M.n, .func (.func p.fid) #[] #[], .slice (some ⟨p.tb, 0, none⟩) M.fs.length M.fs.length] : Array Value)[i]?) ∧
    (w'.cell? ⟨rb, 0, none⟩ = some (cellD w' rb 0) ∧ w'.cell? ⟨rb, 1, none⟩ = some (cellD w' rb 1) ∧ w'.cell? ⟨rb, 2, none⟩ = some (cellD w' rb 2) ∧ w'.cell? ⟨rb, 3, none⟩ = some (cellD w' rb 3) ∧ w'.cell? ⟨rb, 4, none⟩ = some (cellD w' rb 4)) ∧ (∀ i, w'.frozen? ⟨rb, i, none⟩ = false))
    (first | (refine stf ?_; first | with_reducible exact HDREW.out.f | with_reducible exact HA.out.f | with_reducible exact HB.out.f | with_reducible exact (((((HB.out.set _ _).set _ _).set _ _).set _ _).set _ _).f | exact (((((HB.out.set _ _).set _ _).set _ _).set _ _).set _ _).f))
    (first
      | (go_at_call 40; refine (st_all HDREW.out).mono ?_; rintro e w2 ⟨pr, gr, cr, rfl, HA0⟩; have HA := Lib.hid HA0; clear HA0)
      | (go_at_call 41; refine (HC.out _ _ HA.out).mono ?_; rintro e w3 ⟨pt, ct, rfl, HB0⟩; have HB := Lib.hid HB0; clear HB0))
  all_goals
    simp only [Exit.then]
    obtain ⟨cs, hc, HE⟩ := HB.out
    have HZ := ((((HE.set 0 (.int .i64 p.kind)).set 1 (.int .i64 M.mode)).set 2 (.int .i64 M.n)).set 3 (.slice pr M.L.length cr)).set 4 (.slice pt M.fs.length ct)
    rw [set_all5 hc] at HZ
    have HY := Lib.hid HZ
    clear HZ HE hc
    first
      | (rename_i hK _ _; refine hK _ _ ?_)
      | (rename_i hK _; refine hK _ _ ?_)
      | (rename_i hK; refine hK _ _ ?_)
    refine wp_from (Facts := fun W => Has S0 w0 W (.blk rb #[.int .i64 p.kind, .int .i64 M.mode, .int .i64 M.n, .slice pr M.L.length cr, .slice pt M.fs.length ct] :: .mem p.m p.a M.L :: .blk p.x (wcells p M.mode M.n M.fs.length) :: .blk p.tb (tcells M.hold M.fs).toArray :: .own 78 11 (.slice pt M.fs.length ct) M.fs.length (tcells M.hold M.fs) :: .row pr gr cr M.L :: rs)) ?_ HY.out
    clear HB HA HDREW HC HY
    intro W5 H5
    have HX := Lib.hid H5
    have hrg : W5.rangeAt rb 0 [.int .i64 p.kind, .int .i64 M.mode, .int .i64 M.n, .slice pr M.L.length cr, .slice pt M.fs.length ct] := fun j v hv => by
      rw [Nat.zero_add, (Has.at_ H5 0 rfl).cell]
      simpa using hv
    have HRG := Lib.hid hrg
    clear H5 hrg
    go_wp2_with fail
    refine bodyPost_ret (results_cell rfl _ _ _ rb _ _ (by first | rfl | kernel_rfl) HRG.out Tryz.underlying68 rfl (by kernel_rfl)) rfl ?_
    have H5 := HX.out
    exact ⟨pr, gr, cr, pt, ct, rfl, HFIT.out, H5.tail⟩
end Go.Proofs.YthnimpkoidablaaGreat.Z

set_option linter.unusedVariables false
set_option linter.unusedSimpArgs false
namespace Go.Proofs.YthnimpkoidablaaGreat.Z
open Go.RowKit
theorem may17 (op hold : Int) (hh : hold = 0 ∨ hold = 1 ∨ hold = 2) (w : World) : Calls Tryz.prog 25 #[.int .i64 op, .int .i64 hold] w fun e w' => e = .returned (.bool (mayB op hold)) ∧ w = w' := by
  rcases hh with rfl | rfl | rfl
  · by_cases h1 : op = 1
    · subst h1
      go_enter Tryz.func25, Tryz.ntmps25
      go_wp2
      go_ret
      exact ⟨rfl, rfl⟩
    have e1 : (op == 1) = false := by simpa using h1
    by_cases h3 : op = 3
    · subst h3
      go_enter Tryz.func25, Tryz.ntmps25
      go_wp2
      go_ret
      exact ⟨rfl, rfl⟩
    have e3 : (op == 3) = false := by simpa using h3
    by_cases h5 : op = 5
    · subst h5
      go_enter Tryz.func25, Tryz.ntmps25
      go_wp2
      go_ret
      exact ⟨rfl, rfl⟩
    have e5 : (op == 5) = false := by simpa using h5
    by_cases h6 : op = 6
    · subst h6
      go_enter Tryz.func25, Tryz.ntmps25
      go_wp2
      go_ret
      exact ⟨rfl, rfl⟩
    have e6 : (op == 6) = false := by simpa using h6
    go_enter Tryz.func25, Tryz.ntmps25
    go_wp2
    go_ret
    exact ⟨by simp [mayB, e1, e3, e5, e6], rfl⟩
  · by_cases h2 : op = 2
    · subst h2
      go_enter Tryz.func25, Tryz.ntmps25
      go_wp2
      go_ret
      exact ⟨rfl, rfl⟩
    have e2 : (op == 2) = false := by simpa using h2
    by_cases h7 : op = 7
    · subst h7
      go_enter Tryz.func25, Tryz.ntmps25
      go_wp2
      go_ret
      exact ⟨rfl, rfl⟩
    have e7 : (op == 7) = false := by simpa using h7
    go_enter Tryz.func25, Tryz.ntmps25
    go_wp2
    go_ret
    exact ⟨by simp [mayB, e2, e7], rfl⟩
  · by_cases h4 : op = 4
    · subst h4
      go_enter Tryz.func25, Tryz.ntmps25
      go_wp2
      go_ret
      exact ⟨rfl, rfl⟩
    have e4 : (op == 4) = false := by simpa using h4
    by_cases h8 : op = 8
    · subst h8
      go_enter Tryz.func25, Tryz.ntmps25
      go_wp2
      go_ret
      exact ⟨rfl, rfl⟩
    have e8 : (op == 8) = false := by simpa using h8
    go_enter Tryz.func25, Tryz.ntmps25
    go_wp2
    go_ret
    exact ⟨by simp [mayB, e4, e8], rfl⟩
def awL : List (Int × Int) := [(0, 3), (0, 0), (0, 0), (0, 0)]
def awX : Lk := ⟨3, 1, 1, 0⟩
theorem aw_run : ((runE fqA awL (awX.st (ownZ own4 2))).1.hold.getD 0 0 = 2 ∧ (runE fqA awL (awX.st (ownZ own4 2))).2.length = 4) ∧ (runE fqA awL (awX.st (ownZ own4 2))).1.fs.length = 2 := by decide +kernel
set_option maxHeartbeats 1600000 in
set_option maxRecDepth 100000 in
theorem awakeT (w : World) : Calls Tryz.prog 11 #[] w fun e w' => e = .returned (.bool true) ∧ Touch [] w w' := by
  have hmade : Calls Tryz.prog 10 #[.agg awX.cells.toArray] w (LMade [] w 4 70 [] (awX.st (ownZ own4 2))) := lmade_ok (x := awX) (by unfold LkOk awX; decide) kind_fq (Has.start [] w)
  have hrun : ∀ (M : Mt), M = awX.st (ownZ own4 2) → ∀ (p : Wl) (bl : Nat) (w1 : World), p.fid = 70 → WHas [] w p (.blk bl #[.int .i64 0, .int .i64 3, .int .i64 0, .int .i64 0, .int .i64 0, .int .i64 0, .int .i64 0, .int .i64 0] :: []) M w1 →
      Calls Tryz.prog 24 #[.pointer (some ⟨p.x, 0, none⟩), .slice (some ⟨bl, 0, none⟩) 4 4] w1 fun e w' => ∃ v, e = .returned v ∧ ∃ M' nl, M'.hold.getD 0 0 = 2 ∧ List.length nl = 4 ∧ 0 < M'.fs.length ∧ RunW [] w p (.blk bl #[.int .i64 0, .int .i64 3, .int .i64 0, .int .i64 0, .int .i64 0, .int .i64 0, .int .i64 0, .int .i64 0] :: []) v (M', nl) w' := by
    intro M hM p bl w1 hf H
    refine (wrunall_ok (g := fqA) (by rw [hf]; exact kind_fq.ok) H (A := some ⟨bl, 0, none⟩) (n := 4) (c := 4) (l := awL) ?_ (by decide)).mono ?_
    · intro v R W HR
      refine ⟨rfl, fun _ => ⟨_, rfl, (Has.at_ HR.2 4 rfl).lt, fun j u hu => ?_⟩⟩
      rw [Addr.add_lit, Nat.zero_add, (Has.at_ HR.2 4 rfl).cell, ← hu]
      simp [awL, pkCells]
    · rintro e w' ⟨v, he, H'⟩
      refine ⟨v, he, (runE fqA awL M).1, (runE fqA awL M).2, ?_, ?_, ?_, H'⟩
      · rw [hM]; exact aw_run.1.1
      · rw [hM]; exact aw_run.1.2
      · rw [hM]; exact Nat.lt_of_lt_of_eq (by decide : 0 < 2) aw_run.2.symm
  generalize awX.st (ownZ own4 2) = M at hmade hrun
  simp only [awX, Lk.cells] at hmade
  have HM := Lib.hid hmade
  have HR := Lib.hid (hrun M rfl)
  clear hmade hrun
  go_enter Tryz.func11, Tryz.ntmps11
  go_wp2_with fail
  refine HM.out.mono ?_
  rintro e w1 ⟨m, a, x, tb, rfl, H1⟩
  have HB := Lib.hid (H1.box (c0 := #[.int .i64 0, .int .i64 3, .int .i64 0, .int .i64 0, .int .i64 0, .int .i64 0, .int .i64 0, .int .i64 0]) (t0 := 38))
  clear H1 HM
  go_wp2_with fail
  refine (HR.out ⟨4, 70, m, a, x, tb⟩ _ _ rfl HB.out).mono ?_
  rintro e w2 ⟨v, rfl, M', nl, h1, h2, h3, H2⟩
  obtain ⟨pn, cn, rfl⟩ := owns_slice (Has.ownAt H2.2 3 rfl)
  simp only [h2] at H2
  have HW := Lib.hid H2
  have HL2 := Lib.hid h2
  have HL := Lib.hid h1
  have H3 := Lib.hid h3
  clear HB HR h1 h2 h3 H2
  go_wp2_with fail
  have hh := whold_ok HW.out 0 H3.out
  rw [HL.out] at hh
  refine hh.mono ?_
  rintro e w3 ⟨rfl, rfl⟩
  go_wp2_with fail
  go_ret
  exact ⟨by have h := HL2.out; simp [h], HW.out.touch⟩
end Go.Proofs.YthnimpkoidablaaGreat.Z

set_option linter.unusedVariables false
set_option linter.unusedSimpArgs false
namespace Go.Proofs.YthnimpkoidablaaGreat.Z
open Go.RowKit
theorem pickE_len (g : Rn → Rn) (M : Mt) (t op : Int) : (M.pickE g t op).1.fs.length = M.fs.length := by
  have hs : ∀ (M : Mt) (i : Nat), (M.stepE g i).1.fs.length = M.fs.length := fun M i => by
    unfold Mt.stepE
    split <;> simp [Mt.put]
  unfold Mt.pickE
  split
  · split
    · split
      · unfold Mt.beginE
        split
        · rw [hs]
          simp [Mt.put]
        · rfl
      · rfl
    · split
      · rfl
      · exact hs M _
  · rfl
theorem runE_len (g : Rn → Rn) : ∀ (l : List (Int × Int)) (M : Mt), (runE g l M).1.fs.length = M.fs.length
  | [], M => rfl
  | x :: l, M => (runE_len g l _).trans (pickE_len g M x.1 x.2)
theorem pickE_misuse {g : Rn → Rn} {M : Mt} {i : Nat} {o : Int} (h : i < M.fs.length) (hb : (M.fs.getD i Fr.zero).op = 0) (ho : 1 ≤ o ∧ o ≤ 8) (hm : mayB o (M.hold.getD i 0) = false) :
    M.pickE g i o = (M, ⟨true, Acc.zero, [⟨i, 1, o, 0⟩, ⟨i, 11, o, 3⟩]⟩) := by
  unfold Mt.pickE
  rw [if_pos ⟨by omega, by omega⟩]
  simp only [Int.toNat_natCast]
  rw [if_pos hb, if_pos ho]
  unfold Mt.beginE
  rw [if_neg (by rw [hm]; exact Bool.false_ne_true)]
theorem tcells_flat : ∀ (hs : List Int) (fs : List Fr), tcells hs fs = (hs.zip fs).flatMap fun q => tkCells q.1 q.2
  | h :: hs, f :: fs => by
    show tkCells h f ++ tcells hs fs = _
    rw [tcells_flat hs fs]
    rfl
  | [], fs => by simp [tcells]
  | _ :: _, [] => by simp [tcells]
theorem rd_blkC {w : World} {b n size : Nat} {cs : Array Value} {xs : List Value} (h : Blk w b cs) (hl : xs.length = n * size) (e : xs = cs.toList) : Rd w size (some ⟨b, 0, none⟩) n xs :=
  ⟨hl, fun _ => ⟨_, rfl, h.lt, fun j u hu => by
    rw [Addr.add_lit, Nat.zero_add, h.cell, ← hu, e]
    simp⟩⟩
theorem kind_any (k : Int) (h : 1 ≤ k ∧ k ≤ 6) : ∃ fid g Z, KindAll k fid g Z := by
  have : k = 1 ∨ k = 2 ∨ k = 3 ∨ k = 4 ∨ k = 5 ∨ k = 6 := by omega
  rcases this with rfl | rfl | rfl | rfl | rfl | rfl
  · exact ⟨_, _, _, kind_tf⟩
  · exact ⟨_, _, _, kind_pf⟩
  · exact ⟨_, _, _, kind_pq⟩
  · exact ⟨_, _, _, kind_fq⟩
  · exact ⟨_, _, _, kind_rf⟩
  · exact ⟨_, _, _, kind_wf⟩
end Go.Proofs.YthnimpkoidablaaGreat.Z

set_option linter.unusedVariables false
set_option linter.unusedSimpArgs false
namespace Go.Proofs.YthnimpkoidablaaGreat.Z
open Go.RowKit
set_option maxHeartbeats 1600000 in
set_option maxRecDepth 100000 in
theorem same_notes {A B : Option Addr} {n c d : Nat} {l : List Nt} (w : World) (hA : Rd w 4 A n (nts l)) (hB : Rd w 4 B n (nts l)) (hn : n ≤ 1048576) :
    Calls Tryz.prog 23 #[.slice A n c, .slice B n d] w fun e w' => e = .returned (.bool true) ∧ Touch [] w w' := by
  have hb : ((n : Int) != (n : Int)) = false := by simp
  have HA := Lib.hid hA
  have HB := Lib.hid hB
  clear hA hB
  go_enter Tryz.func23, Tryz.ntmps23
  go_wp2_with fail
  go_loopw [5] (fun i wr => ∃ k : Nat, k ≤ n ∧ i = .int .i64 k ∧ Touch [] w wr) (fun i _ => n - (intOf i).toNat)
  case atStart => exact ⟨0, Nat.zero_le _, rfl, Touch.refl _ _⟩
  case round =>
    obtain ⟨k, hk, rfl, hw⟩ := hrel
    by_cases hlt : k < n
    · obtain ⟨b, off, y, rfl, hbb, hy, _⟩ := elem_head (dec := Nt.cells) (size := 4) (by decide) (fun _ => rfl) (HA.out.touch hw (by simp)) hlt
      obtain ⟨b2, off2, y2, rfl, hbb2, hy2, _⟩ := elem_head (dec := Nt.cells) (size := 4) (by decide) (fun _ => rfl) (HB.out.touch hw (by simp)) hlt
      obtain rfl : y = y2 := Option.some.inj (hy.symm.trans hy2)
      obtain ⟨yt, yw, yo, ya⟩ := y
      have hT : ∀ w', Touch [] w w' → Touch [] w w' ∧ (b < w'.heap.size ∧ b2 < w'.heap.size) ∧ (w'.cell? ⟨b, off + k * 4, none⟩ = some (.int .i64 yt)) ∧ (w'.cell? ⟨b, off + k * 4 + 1, none⟩ = some (.int .i64 yw)) ∧ (w'.cell? ⟨b, off + k * 4 + 2, none⟩ = some (.int .i64 yo)) ∧ (w'.cell? ⟨b, off + k * 4 + 3, none⟩ = some (.int .i64 ya)) ∧ (w'.cell? ⟨b2, off2 + k * 4, none⟩ = some (.int .i64 yt)) ∧ (w'.cell? ⟨b2, off2 + k * 4 + 1, none⟩ = some (.int .i64 yw)) ∧ (w'.cell? ⟨b2, off2 + k * 4 + 2, none⟩ = some (.int .i64 yo)) ∧ (w'.cell? ⟨b2, off2 + k * 4 + 3, none⟩ = some (.int .i64 ya)) := fun w' t => by
        obtain ⟨c0, c1⟩ := elem_cells (dec := Nt.cells) (size := 4) (by decide) (fun _ => rfl) (HA.out.touch t (by simp)) hlt hy
        obtain ⟨e0, e1⟩ := elem_cells (dec := Nt.cells) (size := 4) (by decide) (fun _ => rfl) (HB.out.touch t (by simp)) hlt hy
        exact ⟨t, ⟨c0, e0⟩, c1 0 _ rfl, c1 1 _ rfl, c1 2 _ rfl, c1 3 _ rfl, e1 0 _ rfl, e1 1 _ rfl, e1 2 _ rfl, e1 3 _ rfl⟩
      have hi : (k : Int) < (n : Int) := by omega
      go_wp2_with fail
      go_region_held3 (fun w' => Touch [] w w' ∧ (b < w'.heap.size ∧ b2 < w'.heap.size) ∧ (w'.cell? ⟨b, off + k * 4, none⟩ = some (.int .i64 yt)) ∧ (w'.cell? ⟨b, off + k * 4 + 1, none⟩ = some (.int .i64 yw)) ∧ (w'.cell? ⟨b, off + k * 4 + 2, none⟩ = some (.int .i64 yo)) ∧ (w'.cell? ⟨b, off + k * 4 + 3, none⟩ = some (.int .i64 ya)) ∧ (w'.cell? ⟨b2, off2 + k * 4, none⟩ = some (.int .i64 yt)) ∧ (w'.cell? ⟨b2, off2 + k * 4 + 1, none⟩ = some (.int .i64 yw)) ∧ (w'.cell? ⟨b2, off2 + k * 4 + 2, none⟩ = some (.int .i64 yo)) ∧ (w'.cell? ⟨b2, off2 + k * 4 + 3, none⟩ = some (.int .i64 ya)))
        (first | (go_split_ands; refine hT _ ?_; first | assumption | exact Touch.refl _ _ | (with_reducible apply Touch.drew; first | exact Touch.refl _ _ | assumption)))
        (fail)
      go_wp2_with fail
      go_roundw
      case rel => exact ⟨k + 1, by omega, by go_num, by repeat (first | assumption | apply Touch.drewN | apply Touch.drew)⟩
      case measure => simp [intOf]; omega
    · have hkn : k = n := by omega
      have hi : (n : Int) ≤ (k : Int) := by omega
      go_wp2
      go_ret
      exact ⟨rfl, hw⟩
end Go.Proofs.YthnimpkoidablaaGreat.Z

set_option linter.unusedVariables false
set_option linter.unusedSimpArgs false
namespace Go.Proofs.YthnimpkoidablaaGreat.Z
open Go.RowKit
set_option maxHeartbeats 3200000 in
set_option maxRecDepth 100000 in
theorem wholeMisuse_any {A : Option Addr} {n c : Nat} {l : List (Int × Int)} (W : World) (x : Lk) (hx : LkOk x) (hr : Rd W 2 A n (l.flatMap pkCells)) (task op : Int) (ht : 0 ≤ task ∧ task < 256) (ho : 0 ≤ op ∧ op < 256) :
    Calls Tryz.prog 8 #[.agg x.cells.toArray, .slice A n c, .int .u8 task, .int .u8 op] W fun e w' => e = .returned (.bool true) ∧ Touch [] W w' := by
  obtain ⟨fid, g, Z, K⟩ := kind_any (1 + x.kind % 6) (by omega)
  have hmade : ∀ b w', Has [] W w' [.blk b x.cells.toArray] → Calls Tryz.prog 10 #[.agg x.cells.toArray] w' (LMade [] W (1 + x.kind % 6) fid [.blk b x.cells.toArray] (x.st Z)) := fun b w' h => lmade_ok hx K h
  have hn : ∀ w', Calls Tryz.prog 16 #[.agg x.cells.toArray] w' fun e w'' => e = .returned (.int .i64 x.k) ∧ Touch [] w' w'' := fun w' => ln_ok x hx w'
  have hlen : (x.st Z).fs.length = x.k := by simp [Lk.st, Mt.start]
  have hk1 : 1 ≤ x.k ∧ x.k ≤ 64 := by have := hx.2.1; unfold Lk.k; omega
  have HK := Lib.hid K.ok
  generalize x.st Z = M0 at hmade hlen
  generalize x.k = k at hn hlen hk1
  obtain ⟨kk, mm, nn, bb⟩ := x
  simp only [Lk.cells] at hmade hn ⊢
  generalize 1 + kk % 6 = kd at hmade
  clear K hx
  obtain ⟨τ, hτ, hτk⟩ : ∃ τ : Nat, Int.tmod task (k : Int) = (τ : Int) ∧ τ < k := by
    have h1 : Int.tmod task (k : Int) = task % (k : Int) := Int.tmod_eq_emod_of_nonneg ht.1
    have h2 := Int.emod_nonneg task (b := (k : Int)) (by omega)
    have h3 := Int.emod_lt_of_pos task (b := (k : Int)) (by omega)
    exact ⟨(task % (k : Int)).toNat, by omega, by omega⟩
  obtain ⟨q, hq, hq0, hq8⟩ : ∃ q : Int, Int.tmod op 8 = q ∧ 0 ≤ q ∧ q < 8 := ⟨_, rfl, by rw [Int.tmod_eq_emod_of_nonneg ho.1]; omega, by rw [Int.tmod_eq_emod_of_nonneg ho.1]; omega⟩
  have e1 : IntKind.i64.wrap task = task := by rw [IntKind.wrap_i64]; omega
  have e2 : IntKind.i64.wrap op = op := by rw [IntKind.wrap_i64]; omega
  have e3 : IntKind.i64.wrap (τ : Int) = (τ : Int) := by rw [IntKind.wrap_i64]; omega
  have e4 : IntKind.i64.wrap q = q := by rw [IntKind.wrap_i64]; omega
  have e5 : IntKind.i64.wrap (1 + q) = 1 + q := by rw [IntKind.wrap_i64]; omega
  have e6 : ¬ (k : Int) = 0 := by omega
  have e7 : ((k : Int) == 0) = false := by simp; omega
  have HMADE := Lib.hid hmade
  have HN := Lib.hid hn
  have HLEN := Lib.hid hlen
  have HK1 := Lib.hid hk1
  have HR := Lib.hid hr
  have HTK := Lib.hid hτk
  have HQ := Lib.hid (And.intro hq0 hq8)
  have HST := Lib.hid (show Has [] W (W.alloc (.cells #[.int .u8 kk, .int .u8 mm, .int .u8 nn, .int .u32 bb] 24)) [.blk W.heap.size #[.int .u8 kk, .int .u8 mm, .int .u8 nn, .int .u32 bb]] from (Has.start [] W).new1)
  clear hmade hn hlen hk1 hr hτk hq0 hq8 ht ho
  go_enter Tryz.func8, Tryz.ntmps8
  go_wp2_with fail
  refine (HMADE.out _ _ HST.out).mono ?_
  clear HMADE HST
  rintro e w1 ⟨m, a, x, tb, rfl, H1⟩
  obtain ⟨z0, z1, z2⟩ := H1.first.own
  have HW := Lib.hid H1
  clear H1
  generalize W.heap.size = b0 at *
  by_cases h400 : (n : Int) ≤ 400
  · have hN := HN
    go_wp2_with fail
    refine (wrunall_ok HK.out HW.out (fun v R W' h => HR.out.touch h.touch (by simp)) (by omega)).mono ?_
    rintro e w2 ⟨v, rfl, H2⟩
    have hl2 := (runE_len g l M0).trans HLEN.out
    unfold RunW at H2
    generalize runE g l M0 = R at H2 hl2
    obtain ⟨M1, nt1⟩ := R
    simp only at H2 hl2
    obtain ⟨y0, y1, y2⟩ := (Has.at_ H2.2 4 rfl).own
    have HW2 := Lib.hid H2
    have HL2 := Lib.hid hl2
    have HT2 := Lib.hid (show τ < M1.fs.length by have := HTK.out; omega)
    clear z0 z1 z2 H2 hl2 HW
    go_wp2_with fail
    refine (HN.out _).mono ?_
    rintro e w3 ⟨rfl, t3⟩
    have HW3 := Lib.hid (HW2.out.grow t3)
    clear HW2 t3 y0 y1 y2
    go_wp2_with fail
    refine (wbusy_ok HW3.out τ HT2.out).mono ?_
    rintro e w4 ⟨rfl, rfl⟩
    have hhold := whold_ok HW3.out τ HT2.out
    have hh3 := HW3.out.1.held τ
    have hmay := fun w => may17 (1 + q) _ hh3 w
    have hpick : (M1.fs.getD τ Fr.zero).op = 0 → mayB (1 + q) (M1.hold.getD τ 0) = false → M1.pickE g τ (1 + q) = (M1, ⟨true, Acc.zero, [⟨τ, 1, 1 + q, 0⟩, ⟨τ, 11, 1 + q, 3⟩]⟩) := fun h1 h2 => pickE_misuse HT2.out h1 (by have := HQ.out; omega) h2
    generalize (M1.fs.getD τ Fr.zero).op = bz at hpick ⊢
    generalize M1.hold.getD τ 0 = hd at hpick hhold hmay
    generalize hmb : mayB (1 + q) hd = mb at hpick hmay
    have HHOLD := Lib.hid hhold
    have HMAY := Lib.hid hmay
    have HPICK := Lib.hid hpick
    clear hhold hmay hpick hh3 hmb
    have hawake : ∀ w', Touch [] W w' → Calls Tryz.prog 11 #[] w' fun e w'' => e = .returned (.bool true) ∧ Touch [] W w'' := fun w' t => (awakeT w').mono fun e w'' h => ⟨h.1, t.trans h.2⟩
    have HAW := Lib.hid hawake
    clear hawake
    by_cases hbz : bz = 0
    · subst hbz
      go_wp2_with fail
      refine HHOLD.out.mono ?_
      rintro e w4 ⟨rfl, rfl⟩
      go_wp2_with fail
      refine (HMAY.out _).mono ?_
      rintro e w4 ⟨rfl, rfl⟩
      cases mb
      · have HEV := Lib.hid (HPICK.out (by first | rfl | trivial) (by first | rfl | trivial))
        clear HPICK HMAY HHOLD
        go_wp2_with fail
        refine (wstate_ok HW3.out).mono ?_
        rintro e w5 ⟨pr, gr, cr, pt, ct, rfl, H5⟩
        have hp := wpick_ok (p := ⟨kd, fid, m, a, x, tb⟩) (M := M1) HK.out (WHas.box H5 (c0 := #[.int .i64 kd, .int .i64 M1.mode, .int .i64 M1.n, .slice pr M1.L.length cr, .slice pt M1.fs.length ct]) (t0 := 68)) τ (1 + q)
        rw [HEV.out] at hp
        have HP := Lib.hid hp
        clear hp H5
        go_wp2_with fail
        refine HP.out.mono ?_
        clear HP
        rintro e w6 ⟨nv, rfl, H6⟩
        generalize w5.heap.size = b1 at *
        obtain ⟨pn, cn, rfl⟩ := owns_slice (Has.ownAt H6.2 3 rfl)
        simp only [Ev.cells, Acc.zero, List.length_cons, List.length_nil] at H6 ⊢
        have hp := wstate_ok (p := ⟨kd, fid, m, a, x, tb⟩) (M := M1) (WHas.box H6 (c0 := #[.bool true, .int .i64 0, .int .i64 0, .int .u32 0, .int .u32 0, .int .u32 0, .slice pn 2 cn]) (t0 := 35))
        have HP := Lib.hid hp
        clear hp H6
        go_wp2_with fail
        refine HP.out.mono ?_
        clear HP
        rintro e w7 ⟨pr2, gr2, cr2, pt2, ct2, rfl, H7⟩
        generalize w6.heap.size = be at *
        have h8 := WHas.box (p := ⟨kd, fid, m, a, x, tb⟩) (M := M1) (WHas.box H7 (c0 := #[.int .i64 kd, .int .i64 M1.mode, .int .i64 M1.n, .slice pr2 M1.L.length cr2, .slice pt2 M1.fs.length ct2]) (t0 := 68)) (c0 := #[.int .i64 τ, .int .i64 1, .int .i64 (1 + q), .int .i64 0, .int .i64 τ, .int .i64 11, .int .i64 (1 + q), .int .i64 3]) (t0 := 40)
        rw [World.size_alloc] at h8
        have HS3 := Lib.hid h8
        obtain ⟨f0, f1, f2⟩ := (Has.at_ H7.2 5 rfl).own
        have f3 : ¬ be = w7.heap.size := by omega
        have f4 : ¬ w7.heap.size = be := by omega
        clear h8 H7
        go_wp2_with fail
        refine (same_notes (A := pn) (n := 2) (c := cn) (d := 2) (l := [⟨τ, 1, 1 + q, 0⟩, ⟨τ, 11, 1 + q, 3⟩]) _ (Rd.own (Has.ownAt HS3.out.2 8 rfl)) (rd_blkC (Has.at_ HS3.out.2 3 rfl) rfl (by simp [nts, Nt.cells])) (by decide)).mono ?_
        rintro e w8 ⟨rfl, t8⟩
        have HS4 := Lib.hid (HS3.out.grow t8)
        clear HS3 t8 f0 f1 f2 f3 f4
        generalize w7.heap.size = b2 at *
        obtain ⟨u0, u1, u2⟩ := (Has.at_ HS4.out.2 4 rfl).own
        obtain ⟨v0, v1, v2⟩ := (Has.at_ HS4.out.2 9 rfl).own
        go_wp2_with fail
        have hwd : M1.L.length ≤ 1048576 := by have := HS4.out.words.1; omega
        refine (same_any w8 (Has.front HS4.out.2 11 (by simp)).row.rd (Has.front HS4.out.2 6 (by simp)).row.rd hwd).mono ?_
        rw [decide_eq_true (rfl : M1.L = M1.L)]
        rintro e w9 ⟨rfl, t9⟩
        have HS5 := Lib.hid (HS4.out.grow t9)
        clear HS4 t9 u0 u1 u2 v0 v1 v2 hwd
        obtain ⟨u0, u1, u2⟩ := (Has.at_ HS5.out.2 4 rfl).own
        obtain ⟨v0, v1, v2⟩ := (Has.at_ HS5.out.2 9 rfl).own
        have hRA := Rd.own (Has.ownAt HS5.out.2 10 rfl)
        have hRB := Rd.own (Has.ownAt HS5.out.2 5 rfl)
        rw [tcells_flat] at hRA hRB
        have HA := Lib.hid hRA
        have HB := Lib.hid hRB
        have hbn : ((M1.fs.length : Int) != (M1.fs.length : Int)) = false := by simp
        have h64 := HS5.out.1.few
        have H64 := Lib.hid h64
        clear hRA hRB h64
        go_wp2_with fail
        clear u0 u1 u2 v0 v1 v2
        go_loopw [16] (fun i wr => ∃ k1 : Nat, k1 ≤ M1.fs.length ∧ i = .int .i64 k1 ∧ Touch [] w9 wr) (fun i _ => M1.fs.length - (intOf i).toNat)
        case atStart => exact ⟨0, Nat.zero_le _, rfl, Touch.refl _ _⟩
        case round =>
          obtain ⟨k1, hk1, rfl, hw⟩ := hrel
          have HWR := Lib.hid hw
          obtain ⟨u0, u1, u2⟩ := (Has.at_ (HS5.out.grow hw).2 4 rfl).own
          obtain ⟨v0, v1, v2⟩ := (Has.at_ (HS5.out.grow hw).2 9 rfl).own
          by_cases hlt : k1 < M1.fs.length
          · obtain ⟨tb1, o1, y, rfl, hbb, hy, _⟩ := elem_head (dec := fun q : Int × Fr => tkCells q.1 q.2) (size := 11) (by decide) (fun _ => rfl) (HA.out.touch hw (by simp)) hlt
            obtain ⟨tb2, o2, y2, rfl, hbb2, hy2, _⟩ := elem_head (dec := fun q : Int × Fr => tkCells q.1 q.2) (size := 11) (by decide) (fun _ => rfl) (HB.out.touch hw (by simp)) hlt
            obtain rfl : y = y2 := Option.some.inj (hy.symm.trans hy2)
            obtain ⟨yh, yop, yln, ya, yb, yst, ⟨yon, ywc, ywi, ywh⟩, yrt⟩ := y
            have hT : ∀ w', Touch [] w9 w' → Touch [] w9 w' ∧ (∀ i, w'.cell? ⟨b1, i, none⟩ = (#[.int .i64 kd, .int .i64 M1.mode, .int .i64 M1.n, .slice pr M1.L.length cr, .slice (some ⟨tb1, o1, none⟩) M1.fs.length ct] : Array Value)[i]?) ∧ (∀ i, w'.cell? ⟨b2, i, none⟩ = (#[.int .i64 kd, .int .i64 M1.mode, .int .i64 M1.n, .slice pr2 M1.L.length cr2, .slice (some ⟨tb2, o2, none⟩) M1.fs.length ct2] : Array Value)[i]?) ∧ (tb1 < w'.heap.size ∧ tb2 < w'.heap.size) ∧ w'.cell? ⟨tb1, o1 + k1 * 11, none⟩ = some (.int .i64 yh) ∧ w'.cell? ⟨tb1, o1 + k1 * 11 + 1, none⟩ = some (.int .i64 yop) ∧ w'.cell? ⟨tb1, o1 + k1 * 11 + 2, none⟩ = some (.int .i64 yln) ∧ w'.cell? ⟨tb1, o1 + k1 * 11 + 3, none⟩ = some (.int .u32 ya) ∧ w'.cell? ⟨tb1, o1 + k1 * 11 + 4, none⟩ = some (.int .u32 yb) ∧ w'.cell? ⟨tb1, o1 + k1 * 11 + 5, none⟩ = some (.int .i64 yst) ∧ w'.cell? ⟨tb1, o1 + k1 * 11 + 6, none⟩ = some (.bool yon) ∧ w'.cell? ⟨tb1, o1 + k1 * 11 + 7, none⟩ = some (.int .i64 ywc) ∧ w'.cell? ⟨tb1, o1 + k1 * 11 + 8, none⟩ = some (.int .i64 ywi) ∧ w'.cell? ⟨tb1, o1 + k1 * 11 + 9, none⟩ = some (.bool ywh) ∧ w'.cell? ⟨tb1, o1 + k1 * 11 + 10, none⟩ = some (.int .i64 yrt) ∧ w'.cell? ⟨tb2, o2 + k1 * 11, none⟩ = some (.int .i64 yh) ∧ w'.cell? ⟨tb2, o2 + k1 * 11 + 1, none⟩ = some (.int .i64 yop) ∧ w'.cell? ⟨tb2, o2 + k1 * 11 + 2, none⟩ = some (.int .i64 yln) ∧ w'.cell? ⟨tb2, o2 + k1 * 11 + 3, none⟩ = some (.int .u32 ya) ∧ w'.cell? ⟨tb2, o2 + k1 * 11 + 4, none⟩ = some (.int .u32 yb) ∧ w'.cell? ⟨tb2, o2 + k1 * 11 + 5, none⟩ = some (.int .i64 yst) ∧ w'.cell? ⟨tb2, o2 + k1 * 11 + 6, none⟩ = some (.bool yon) ∧ w'.cell? ⟨tb2, o2 + k1 * 11 + 7, none⟩ = some (.int .i64 ywc) ∧ w'.cell? ⟨tb2, o2 + k1 * 11 + 8, none⟩ = some (.int .i64 ywi) ∧ w'.cell? ⟨tb2, o2 + k1 * 11 + 9, none⟩ = some (.bool ywh) ∧ w'.cell? ⟨tb2, o2 + k1 * 11 + 10, none⟩ = some (.int .i64 yrt) := fun w' t => by
              have c0 := elem_cells (dec := fun q : Int × Fr => tkCells q.1 q.2) (size := 11) (by decide) (fun _ => rfl) (HA.out.touch t (by simp)) hlt hy
              have c1 := elem_cells (dec := fun q : Int × Fr => tkCells q.1 q.2) (size := 11) (by decide) (fun _ => rfl) (HB.out.touch t (by simp)) hlt hy
              have g := (HS5.out.grow t).2
              exact ⟨t, (Has.at_ g 9 rfl).cell, (Has.at_ g 4 rfl).cell, ⟨c0.1, c1.1⟩, c0.2 0 _ rfl, c0.2 1 _ rfl, c0.2 2 _ rfl, c0.2 3 _ rfl, c0.2 4 _ rfl, c0.2 5 _ rfl, c0.2 6 _ rfl, c0.2 7 _ rfl, c0.2 8 _ rfl, c0.2 9 _ rfl, c0.2 10 _ rfl, c1.2 0 _ rfl, c1.2 1 _ rfl, c1.2 2 _ rfl, c1.2 3 _ rfl, c1.2 4 _ rfl, c1.2 5 _ rfl, c1.2 6 _ rfl, c1.2 7 _ rfl, c1.2 8 _ rfl, c1.2 9 _ rfl, c1.2 10 _ rfl⟩
            have hi : (k1 : Int) < (M1.fs.length : Int) := by omega
            have hu78 := Tryz.underlying78
            have hs78 : (Tryz.prog.info? 78).map (·.size) = some ([.int .i64 yh, .int .i64 yop, .int .i64 yln, .int .u32 ya, .int .u32 yb, .int .i64 yst, .bool yon, .int .i64 ywc, .int .i64 ywi, .bool ywh, .int .i64 yrt] : List Value).length := by kernel_rfl
            have HTT := Lib.hid hT
            clear hT hw hy hy2 hbb hbb2
            go_wp2_with fail
            go_region_held3 (fun w' => Touch [] w9 w' ∧ (∀ i, w'.cell? ⟨b1, i, none⟩ = (#[.int .i64 kd, .int .i64 M1.mode, .int .i64 M1.n, .slice pr M1.L.length cr, .slice (some ⟨tb1, o1, none⟩) M1.fs.length ct] : Array Value)[i]?) ∧ (∀ i, w'.cell? ⟨b2, i, none⟩ = (#[.int .i64 kd, .int .i64 M1.mode, .int .i64 M1.n, .slice pr2 M1.L.length cr2, .slice (some ⟨tb2, o2, none⟩) M1.fs.length ct2] : Array Value)[i]?) ∧ (tb1 < w'.heap.size ∧ tb2 < w'.heap.size) ∧ w'.cell? ⟨tb1, o1 + k1 * 11, none⟩ = some (.int .i64 yh) ∧ w'.cell? ⟨tb1, o1 + k1 * 11 + 1, none⟩ = some (.int .i64 yop) ∧ w'.cell? ⟨tb1, o1 + k1 * 11 + 2, none⟩ = some (.int .i64 yln) ∧ w'.cell? ⟨tb1, o1 + k1 * 11 + 3, none⟩ = some (.int .u32 ya) ∧ w'.cell? ⟨tb1, o1 + k1 * 11 + 4, none⟩ = some (.int .u32 yb) ∧ w'.cell? ⟨tb1, o1 + k1 * 11 + 5, none⟩ = some (.int .i64 yst) ∧ w'.cell? ⟨tb1, o1 + k1 * 11 + 6, none⟩ = some (.bool yon) ∧ w'.cell? ⟨tb1, o1 + k1 * 11 + 7, none⟩ = some (.int .i64 ywc) ∧ w'.cell? ⟨tb1, o1 + k1 * 11 + 8, none⟩ = some (.int .i64 ywi) ∧ w'.cell? ⟨tb1, o1 + k1 * 11 + 9, none⟩ = some (.bool ywh) ∧ w'.cell? ⟨tb1, o1 + k1 * 11 + 10, none⟩ = some (.int .i64 yrt) ∧ w'.cell? ⟨tb2, o2 + k1 * 11, none⟩ = some (.int .i64 yh) ∧ w'.cell? ⟨tb2, o2 + k1 * 11 + 1, none⟩ = some (.int .i64 yop) ∧ w'.cell? ⟨tb2, o2 + k1 * 11 + 2, none⟩ = some (.int .i64 yln) ∧ w'.cell? ⟨tb2, o2 + k1 * 11 + 3, none⟩ = some (.int .u32 ya) ∧ w'.cell? ⟨tb2, o2 + k1 * 11 + 4, none⟩ = some (.int .u32 yb) ∧ w'.cell? ⟨tb2, o2 + k1 * 11 + 5, none⟩ = some (.int .i64 yst) ∧ w'.cell? ⟨tb2, o2 + k1 * 11 + 6, none⟩ = some (.bool yon) ∧ w'.cell? ⟨tb2, o2 + k1 * 11 + 7, none⟩ = some (.int .i64 ywc) ∧ w'.cell? ⟨tb2, o2 + k1 * 11 + 8, none⟩ = some (.int .i64 ywi) ∧ w'.cell? ⟨tb2, o2 + k1 * 11 + 9, none⟩ = some (.bool ywh) ∧ w'.cell? ⟨tb2, o2 + k1 * 11 + 10, none⟩ = some (.int .i64 yrt))
              (first | (go_split_ands; refine HTT.out _ ?_; first | assumption | exact HWR.out | (with_reducible apply Touch.drew; first | exact HWR.out | assumption)))
              (fail)
            have h64 : M1.fs.length ≤ 64 := H64.out
            have hkp : (0 : Int) ≤ (k1 : Int) := Int.natCast_nonneg _
            go_wp2_with fail
            go_roundw
            case rel => exact ⟨k1 + 1, by omega, by go_num, by repeat (first | exact HWR.out | assumption | apply Touch.drewN | apply Touch.drew)⟩
            case measure => simp [intOf]; omega
          · have hkn : k1 = M1.fs.length := by omega
            have hi : (M1.fs.length : Int) ≤ (k1 : Int) := by omega
            clear hw
            go_wp2_with fail
            refine (HAW.out _ (HS5.out.touch.trans HWR.out)).mono ?_
            rintro e w' ⟨rfl, t⟩
            have HT := Lib.hid t
            clear t
            go_wp2_with fail
            go_ret
            exact ⟨by simp, HT.out⟩
      · go_wp2_with fail
        refine (HAW.out _ HW3.out.touch).mono ?_
        rintro e w' ⟨rfl, t⟩
        have HT := Lib.hid t
        clear t
        go_wp2_with fail
        go_ret
        exact ⟨by simp, HT.out⟩
    · have hb2 : (bz != 0) = true := by simpa using hbz
      go_wp2_with fail
      refine (HAW.out _ HW3.out.touch).mono ?_
      rintro e w' ⟨rfl, t⟩
      have HT := Lib.hid t
      clear t
      go_wp2_with fail
      go_ret
      exact ⟨by simp, HT.out⟩
  · have h401 : (400 : Int) < (n : Int) := by omega
    clear h400
    go_wp2_with fail
    refine (awakeT _).mono ?_
    rintro e w' ⟨rfl, t⟩
    have HT := Lib.hid t
    clear t
    go_wp2_with fail
    go_ret
    exact ⟨by simp, HW.out.touch.trans HT.out⟩
end Go.Proofs.YthnimpkoidablaaGreat.Z
