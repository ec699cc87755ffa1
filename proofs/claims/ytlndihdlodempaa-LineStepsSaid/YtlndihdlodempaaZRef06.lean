/- The document's answers for permits. -/
import Derived.Test.YtlndihdlodempaaZPark
import Derived.Outline
set_option linter.unusedVariables false
set_option linter.unusedSimpArgs false
namespace Go.Proofs.Ytlndihdlodempaa.Z
open Go.RowKit

/-- What a call does to newer blocks leaves a row as it is. -/
theorem row_fin {w w2 wf : World} {p : Option Addr} {g : Nat} {L L2 : List Int} {S : List Nat} (h : Row w p g L) (hR2 : Row w2 p g L2) (hl : L2.length = L.length) (hT : Touch (lv g L) w w2) (hS : ∀ k, k ∈ S → w.heap.size ≤ k) (t : Touch S w2 wf) :
    Row wf p g L2 ∧ Touch (lv g L) w wf := by
  refine ⟨⟨hR2.words, hR2.at_, fun h0 => ?_⟩, hT.newer t hS⟩
  obtain ⟨rest, hr⟩ := hR2.body h0
  exact ⟨rest, t.blk hr (fun hm => by have := hS _ hm; have := h.lt (by omega); omega)⟩

theorem rcell_in (p : Option Addr) (n c : Nat) (k task : Int) (w : World) (hk : 0 ≤ cellP k 3 task ∧ cellP k 3 task < (n : Int)) :
    Calls Try.prog 136 #[.slice p n c, .int .i64 k, .int .i64 task] w fun e w' => e = .returned (.int .i64 (cellP k 3 task)) ∧ w = w' := by
  have h1 := fun W => refCell_any k 3 task W (by decide)
  have h2 := fun W => there_any p n c (cellP k 3 task) W
  rw [decide_eq_true hk] at h2
  generalize cellP k 3 task = q at h1 h2 ⊢
  have H1 := Lib.hid h1
  have H2 := Lib.hid h2
  clear h1 h2 hk
  go_enter Try.func136, Try.ntmps136
  go_wp2_with (first
    | (go_at_call 129; refine (H1.out _).mono ?_; rintro e w' ⟨rfl, rfl⟩)
    | (go_at_call 133; refine (H2.out _).mono ?_; rintro e w' ⟨rfl, rfl⟩))
  go_ret
  exact ⟨rfl, rfl⟩

theorem rcell_out (p : Option Addr) (n c : Nat) (k task : Int) (w : World) (hk : ¬ (0 ≤ cellP k 3 task ∧ cellP k 3 task < (n : Int))) :
    Calls Try.prog 136 #[.slice p n c, .int .i64 k, .int .i64 task] w fun e w' => e = .returned (.int .i64 (-1)) ∧ w = w' := by
  have h1 := fun W => refCell_any k 3 task W (by decide)
  have h2 := fun W => there_any p n c (cellP k 3 task) W
  rw [decide_eq_false hk] at h2
  generalize cellP k 3 task = q at h1 h2
  have H1 := Lib.hid h1
  have H2 := Lib.hid h2
  clear h1 h2 hk
  go_enter Try.func136, Try.ntmps136
  go_wp2_with (first
    | (go_at_call 129; refine (H1.out _).mono ?_; rintro e w' ⟨rfl, rfl⟩)
    | (go_at_call 133; refine (H2.out _).mono ?_; rintro e w' ⟨rfl, rfl⟩))
  go_ret
  exact ⟨rfl, rfl⟩

theorem rgive_any {w : World} {p : Option Addr} {g cap : Nat} {L : List Int} (h : Row w p g L) (hcap : L.length ≤ cap) (hcm : cap ≤ 9223372036854775807) (n task : Int) :
    Calls Try.prog 130 #[.slice p L.length cap, .int .i64 n, .int .i64 task] w
      fun e w' => e = .returned (.tuple #[.agg (giveA L n task).1.cells, .bool (giveA L n task).2.1]) ∧ Row w' p g (giveA L n task).2.2 ∧ Touch (lv g L) w w' := by
  by_cases hk : 0 ≤ cellP n 3 task ∧ cellP n 3 task < L.length
  · have hg : giveA L n task = (⟨2, cellP n 3 task, 1, 0, L.getD (cellP n 3 task).toNat 0⟩, true, L.set (cellP n 3 task).toNat 1) := by
      unfold giveA doA
      rw [if_pos hk]
      rfl
    rw [hg, show lv g L = [g] from if_pos (by omega)]
    have hc := fun W => rcell_in p L.length cap n task W hk
    obtain ⟨k0, k1⟩ := hk
    obtain ⟨rfl, c1, c2, c3, c4, c5⟩ := h.at_cell (cellP n 3 task) _ k0 k1 rfl
    generalize cellP n 3 task = q at hc k0 k1 c1 c2 ⊢
    generalize L.getD q.toNat 0 = v at c1 ⊢
    have HC := Lib.hid hc
    clear hc hg
    simp only [Acc.cells]
    go_enter Try.func130, Try.ntmps130
    go_wp2_with (go_at_call 136; refine (HC.out _).mono ?_; rintro e w' ⟨rfl, rfl⟩)
    refine bodyPost_ret (v := .tuple #[.agg #[.int .i64 2, .int .i64 q, .int .u32 1, .int .u32 0, .int .u32 v], .bool true]) (by simp [results, Try.results130, go_sem]) rfl ?_
    refine ⟨rfl, (h.set q.toNat (by omega) 1 (by decide) (by decide)).touch (S := []) ?_ (by simp), ?_⟩
    · repeat (first | with_reducible exact Touch.refl _ _ | with_reducible apply Touch.drew | with_reducible apply Touch.alloc)
    · repeat (first | with_reducible exact Touch.refl _ _ | with_reducible apply Touch.drew | with_reducible apply Touch.alloc | with_reducible refine Touch.set ?_ (by simp) _)
  · have hg : giveA L n task = (Acc.zero, false, L) := if_neg hk
    rw [hg]
    have hc := fun W => rcell_out p L.length cap n task W hk
    have HC := Lib.hid hc
    clear hc hg hk
    go_enter Try.func130, Try.ntmps130
    go_wp2_with (go_at_call 136; refine (HC.out _).mono ?_; rintro e w' ⟨rfl, rfl⟩)
    refine bodyPost_ret (v := .tuple #[Value.agg Acc.zero.cells, .bool false]) (by simp [results, Try.results130, go_sem, Acc.zero, Acc.cells]) rfl ?_
    refine ⟨rfl, h.touch (S := []) ?_ (by simp), ?_⟩
    all_goals repeat (first | with_reducible exact Touch.refl _ _ | with_reducible apply Touch.drew | with_reducible apply Touch.alloc)

theorem rthere_any {w : World} {p : Option Addr} {g cap : Nat} {L : List Int} (h : Row w p g L) (hcap : L.length ≤ cap) (hcm : cap ≤ 9223372036854775807) (n task : Int) :
    Calls Try.prog 72 #[.slice p L.length cap, .int .i64 n, .int .i64 task] w fun e w' => e = .returned (.bool (thereA L n task)) ∧ w = w' := by
  by_cases hk : 0 ≤ cellP n 3 task ∧ cellP n 3 task < L.length
  · have hg : thereA L n task = (L.getD (cellP n 3 task).toNat 0 != 0) := by
      unfold thereA ldA
      rw [if_pos hk]
    rw [hg]
    have hc := fun W => rcell_in p L.length cap n task W hk
    obtain ⟨k0, k1⟩ := hk
    obtain ⟨rfl, c1, c2, c3, c4, c5⟩ := h.at_cell (cellP n 3 task) _ k0 k1 rfl
    generalize cellP n 3 task = q at hc k0 k1 c1 c2 ⊢
    generalize L.getD q.toNat 0 = v at c1 ⊢
    have HC := Lib.hid hc
    clear hc hg
    go_enter Try.func72, Try.ntmps72
    go_wp2_with (go_at_call 136; refine (HC.out _).mono ?_; rintro e w' ⟨rfl, rfl⟩)
    go_ret
    exact ⟨rfl, rfl⟩
  · have hg : thereA L n task = false := by
      unfold thereA ldA
      rw [if_neg hk]
      rfl
    rw [hg]
    have hc := fun W => rcell_out p L.length cap n task W hk
    have HC := Lib.hid hc
    clear hc hg hk
    go_enter Try.func72, Try.ntmps72
    go_wp2_with (go_at_call 136; refine (HC.out _).mono ?_; rintro e w' ⟨rfl, rfl⟩)
    go_ret
    exact ⟨rfl, rfl⟩

theorem rtake_any {w : World} {p : Option Addr} {g cap : Nat} {L : List Int} (h : Row w p g L) (hcap : L.length ≤ cap) (hcm : cap ≤ 9223372036854775807) (n task : Int) :
    Calls Try.prog 169 #[.slice p L.length cap, .int .i64 n, .int .i64 task] w
      fun e w' => e = .returned (.tuple #[.agg (takeA L n task).1.cells, .bool (takeA L n task).2.1]) ∧ Row w' p g (takeA L n task).2.2 ∧ Touch (lv g L) w w' := by
  have hth := fun W (hR : Row W p g L) => rthere_any hR hcap hcm n task
  cases hb : thereA L n task with
  | false =>
    rw [show takeA L n task = (Acc.zero, false, L) from by unfold takeA; rw [hb]; rfl]
    rw [hb] at hth
    have HT := Lib.hid hth
    clear hth hb
    go_enter Try.func169, Try.ntmps169
    go_wp2_with (go_at_call 72; refine (HT.out _ (h.touch ((Touch.refl [] w).alloc _) (by simp))).mono ?_; rintro e w' ⟨rfl, rfl⟩)
    refine bodyPost_ret (v := .tuple #[Value.agg Acc.zero.cells, .bool false]) (by simp [results, Try.results169, go_sem, Acc.zero, Acc.cells]) rfl ?_
    refine ⟨rfl, h.touch (S := []) ?_ (by simp), ?_⟩
    all_goals repeat (first | with_reducible exact Touch.refl _ _ | with_reducible apply Touch.drew | with_reducible apply Touch.alloc)
  | true =>
    have hk : 0 ≤ cellP n 3 task ∧ cellP n 3 task < L.length := Decidable.by_contra fun hk => by
      unfold thereA ldA at hb
      rw [if_neg hk] at hb
      simp at hb
    have hg : takeA L n task = (⟨4, cellP n 3 task, 0, 0, L.getD (cellP n 3 task).toNat 0⟩, true, L.set (cellP n 3 task).toNat 0) := by
      unfold takeA doA
      rw [hb, if_pos rfl, if_pos hk]
      rfl
    rw [hg, show lv g L = [g] from if_pos (by omega)]
    rw [hb] at hth
    have hc := fun W => rcell_in p L.length cap n task W hk
    obtain ⟨k0, k1⟩ := hk
    obtain ⟨rfl, c1, c2, c3, c4, c5⟩ := h.at_cell (cellP n 3 task) _ k0 k1 rfl
    generalize cellP n 3 task = q at hc k0 k1 c1 c2 ⊢
    generalize L.getD q.toNat 0 = v at c1 ⊢
    have HC := Lib.hid hc
    have HT := Lib.hid hth
    clear hc hg hth hb
    simp only [Acc.cells]
    go_enter Try.func169, Try.ntmps169
    go_wp2_with (first
      | (go_at_call 72; refine (HT.out _ (h.touch ((Touch.refl [] w).alloc _) (by simp))).mono ?_; rintro e w' ⟨rfl, rfl⟩)
      | (go_at_call 136; refine (HC.out _).mono ?_; rintro e w' ⟨rfl, rfl⟩))
    refine bodyPost_ret (v := .tuple #[.agg #[.int .i64 4, .int .i64 q, .int .u32 0, .int .u32 0, .int .u32 v], .bool true]) (by simp [results, Try.results169, go_sem]) rfl ?_
    refine ⟨rfl, (h.set q.toNat (by omega) 0 (by decide) (by decide)).touch (S := []) ?_ (by simp), ?_⟩
    · repeat (first | with_reducible exact Touch.refl _ _ | with_reducible apply Touch.drew | with_reducible apply Touch.alloc)
    · repeat (first | with_reducible exact Touch.refl _ _ | with_reducible apply Touch.drew | with_reducible apply Touch.alloc | with_reducible refine Touch.set ?_ (by simp) _)

end Go.Proofs.Ytlndihdlodempaa.Z
