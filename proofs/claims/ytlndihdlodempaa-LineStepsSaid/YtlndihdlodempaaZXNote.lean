/- The document's run (stilemanref09): its notes. -/
import Derived.Test.YtlndihdlodempaaZXRun
import Derived.Test.YtlndihdlodempaaZFin
import Derived.Deep.DrawnRows
set_option linter.unusedVariables false
set_option linter.unusedSimpArgs false
namespace Go.Proofs.Ytlndihdlodempaa.Z
open Go.RowKit
attribute [local go_sem ↓] Go.wp_at_zero Go.wp_at_succ

/-- The world holds a document's run, at block x, over the row at p. -/
def XHas (S0 : List Nat) (w0 : World) (p : Option Addr) (g cap x : Nat) (rs : List Res) (s : Rn) (w : World) : Prop :=
  ∃ nv, Has S0 w0 w (.row p g cap s.L :: .blk x (xcells p cap s nv) :: .own 98 4 nv s.notes.length (nts s.notes) :: rs)

theorem Has.grown0 {S0 : List Nat} {w0 w w' : World} {e size n m : Nat} {v v' : Value} {xs ys : List Value} {rs : List Res} (h : Has S0 w0 w (.own e size v n xs :: rs)) (hown : w'.ownsRow 0 e size v' m ys) (hg : w.grownBy w' v.ownBlock)
    (hat : v'.ownBlock = v.ownBlock ∨ v'.ownBlock = some w.heap.size) : Has S0 w0 w' (.own e size v' m ys :: rs) := h.grown hown hg hat

theorem grown_eq {w : World} {e size n m : Nat} {v : Value} {xs ys : List Value} (h : w.ownsRow 0 e size v n xs) (hn : n = m) (hx : xs = ys) : w.ownsRow 0 e size v m ys := by subst hn hx; exact h

set_option maxHeartbeats 6400000 in
set_option maxRecDepth 100000 in
theorem x_note {S0 : List Nat} {w0 w : World} {p : Option Addr} {g cap x : Nat} {rs : List Res} {s : Rn} (H : XHas S0 w0 p g cap x rs s w) (hlen : s.notes.length ≤ 1000) (what arg : Int) :
    Calls Try.prog 69 #[.pointer (some ⟨x, 0, none⟩), .int .i64 what, .int .i64 arg] w fun e w' => e = .returned (.tuple #[]) ∧ XHas S0 w0 p g cap x rs (s.note what arg) w' := by
  obtain ⟨n, mode, task, ⟨op, line, fa, fb, st, ⟨on, wc, wi, hit⟩, ret⟩, ⟨ak, ac, ax, ay, ao⟩, notes, L⟩ := s
  simp only [XHas, Rn.note] at H hlen ⊢
  obtain ⟨nv, H⟩ := H
  simp only [xcells] at H ⊢
  obtain ⟨x0, x1, x2⟩ := H.blk1.own
  obtain ⟨pn, cn, rfl⟩ := owns_slice H.own3
  obtain ⟨i0, hi0, hz0, hz1, hz2⟩ := info_parts note_info
  have HI := Lib.hid (show _ ∧ _ ∧ _ ∧ _ from ⟨hi0, hz0, hz1, hz2⟩)
  have e1 : (notes ++ [(⟨task, what, 0, arg⟩ : Nt)]).length = notes.length + 1 := by simp
  have e2 : nts (notes ++ [(⟨task, what, 0, arg⟩ : Nt)]) = nts notes ++ [.int .i64 task, .int .i64 what, .int .i64 0, .int .i64 arg] := by simp [nts, Nt.cells]
  have HA := Lib.hid (H.ownNew rfl 98 4).drew
  have HB := Lib.hid ((H.ownNew rfl 98 4).new (b := w.heap.size + 1) (by simp) #[.int .i64 task, .int .i64 what, .int .i64 0, .int .i64 arg] 98).swap.drew
  have HC := Lib.hid ((H.new (b := w.heap.size) rfl #[.int .i64 task, .int .i64 what, .int .i64 0, .int .i64 arg] 98).ownNew (b := w.heap.size + 1) (by simp) 98 4).drew
  rw [e1, e2]
  have HL := Lib.hid hlen
  clear hi0 hz0 hz1 hz2 hlen H e1 e2
  go_enter Try.func69, Try.ntmps69
  go_wp2_with fail
  go_region_law (first
    | (refine step_append_rd (P := Try.prog) (by rfl) (.tmp 7) (.tmp 11) 41 (by rfl) 0 98 i0 _ 4 32 Try.underlying41 HI.out.1 HI.out.2.1 HI.out.2.2.1 HI.out.2.2.2 rfl (by omega) _ 0 [] (by rfl) HA.out.own0 pn notes.length cn (nts notes) (by rfl) (Rd.own (HA.out.ownAt 3 rfl)) (nts_one _) (by have := HL.out; simp only [maxLen]; omega) (by have := HL.out; omega) (by omega) ?_; intro v1 w1 hown1 hg1 hat1; have H1 := HA.out.grown0 hown1 hg1 hat1; clear hown1 hg1 hat1; obtain ⟨y0, y1, y2⟩ := (H1.at_ 2 rfl).own; have HD := Lib.hid (H1.new rfl #[.int .i64 task, .int .i64 what, .int .i64 0, .int .i64 arg] 98).swap)
    | (refine step_append_rd (P := Try.prog) (by rfl) (.tmp 7) (.tmp 11) 41 (by rfl) 0 98 i0 _ 4 32 Try.underlying41 HI.out.1 HI.out.2.1 HI.out.2.2.1 HI.out.2.2.2 rfl (by omega) _ 0 [] (by rfl) HB.out.own0 pn notes.length cn (nts notes) (by rfl) (Rd.own (HB.out.ownAt 4 rfl)) (nts_one _) (by have := HL.out; simp only [maxLen]; omega) (by have := HL.out; omega) (by omega) ?_; intro v1 w1 hown1 hg1 hat1; have HD := Lib.hid (HB.out.grown0 hown1 hg1 hat1); clear hown1 hg1 hat1; obtain ⟨y0, y1, y2⟩ := (HD.out.at_ 3 rfl).own)
    | (refine step_append_rd (P := Try.prog) (by rfl) (.tmp 7) (.tmp 11) 41 (by rfl) 0 98 i0 _ 4 32 Try.underlying41 HI.out.1 HI.out.2.1 HI.out.2.2.1 HI.out.2.2.2 rfl (by omega) _ 0 [] (by rfl) HC.out.own0 pn notes.length cn (nts notes) (by rfl) (Rd.own (HC.out.ownAt 4 rfl)) (nts_one _) (by have := HL.out; simp only [maxLen]; omega) (by have := HL.out; omega) (by omega) ?_; intro v1 w1 hown1 hg1 hat1; have HD := Lib.hid (HC.out.grown0 hown1 hg1 hat1); clear hown1 hg1 hat1; obtain ⟨y0, y1, y2⟩ := (HD.out.at_ 3 rfl).own)
    | (refine step_append_rd (P := Try.prog) (by rfl) (.tmp 12) (.tmp 20) 41 (by rfl) 0 98 i0 _ 4 32 Try.underlying41 HI.out.1 HI.out.2.1 HI.out.2.2.1 HI.out.2.2.2 rfl (by omega) v1 (0 + notes.length) ([] ++ nts notes) (by rfl) HD.out.own0 _ 1 1 [.int .i64 task, .int .i64 what, .int .i64 0, .int .i64 arg] (by rfl) (rd_one4 (HD.out.at_ 1 rfl)) (by simp [Value.oneCell']) (by have := HL.out; simp only [maxLen]; omega) (by have := HL.out; omega) (by omega) ?_; intro v2 w2 hown2 hg2 hat2; obtain ⟨p2, c2, rfl⟩ := owns_slice hown2; have H3 := HD.out.grown0 hown2 hg2 hat2; clear hown2 hg2 hat2; obtain ⟨u0, u1, u2⟩ := (H3.at_ 3 rfl).own))
  all_goals
    go_wp2
    go_end0
    refine ⟨rfl, .slice p2 (notes.length + 1) c2, ?_⟩
    have H4 := H3.noteEnd 19 (.slice p2 (notes.length + 1) c2)
    simp only [List.setIfInBounds_toArray, List.set_cons_zero, List.set_cons_succ, Nat.zero_add, List.nil_append] at H4
    exact H4

end Go.Proofs.Ytlndihdlodempaa.Z
