/- Package tf: its small functions. Written by gentf.py. -/
import Derived.Test.YtdffdppkdbbdoaaZRun7
import Derived.Test.YtdffdppkdbbdoaaZFlat3
import Derived.Test.YtdffdppkdbbdoaaZAhead
import Derived.Deep.RegionHeld3
import Derived.Deep.DrawnRows
set_option linter.unusedVariables false
set_option linter.unusedSimpArgs false
namespace Go.Proofs.Ytdffdppkdbbdoaa.Z
open Go.RowKit

attribute [local go_sem ↓] Go.wp_at_zero Go.wp_at_succ

def tfTicket (s : Rn) (class_ : Int) : Rn := (((s.did (doA s.L ⟨3, 0, 1, 0, 0⟩)).setA (doA s.L ⟨3, 0, 1, 0, 0⟩).1.old).note 2 class_).goto 1
theorem tf_ticket {S0 : List Nat} {w0 w : World} {m a r : Nat} {rs : List Res} {s : Rn} (H : RunHas S0 w0 m a r rs s w) {o l : Int} (hop : s.f.op = o) (hl : s.f.line = l) (hc : s.notes.length ≤ 900) (class_ : Int) :
    Calls Try.prog 71 #[.pointer (some ⟨r, 0, none⟩), .int .i64 class_] w fun e w' => e = .returned (.tuple #[]) ∧ RunHas S0 w0 m a r rs (tfTicket s class_) w' := by
  have HC := Lib.hid hc
  have HH := Lib.hid H
  clear hc H
  go_enter Try.func71, Try.ntmps71
  go_wp2_with fail
  refine (rn_add HH.out 0 1 (by decide)).mono ?_
  rintro e w1 ⟨rfl, H1⟩
  obtain ⟨x0, x2, x4, x5, x6, x7⟩ := H1.facts hop hl rfl rfl
  go_wp2_with fail
  refine (run_note (H1.setA (doA s.L ⟨3, 0, 1, 0, 0⟩).1.old) (by have := HC.out; first | exact Nat.le_trans this (by decide) | (simp [Rn.note, Rn.did, Rn.setA, Rn.setB, Rn.waited, Rn.goto, Rn.noted]; omega)) 2 class_).mono ?_
  rintro e w2 ⟨rfl, H2⟩
  obtain ⟨x0, x2, x4, x5, x6, x7⟩ := H2.facts hop hl (x := (doA s.L ⟨3, 0, 1, 0, 0⟩).1.old) rfl rfl
  go_wp2_with fail
  refine (rn_go H2 1).mono ?_
  rintro e w3 ⟨rfl, H3⟩
  go_wp2_with fail
  go_end0
  exact ⟨rfl, H3⟩

def tfEnter (s : Rn) (what : Int) : Rn := (((s.did (doA s.L ⟨3, 1, 1, 0, 0⟩)).note what 0).wake 1).fin true
theorem tf_enter {S0 : List Nat} {w0 w : World} {m a r : Nat} {rs : List Res} {s : Rn} (H : RunHas S0 w0 m a r rs s w) {o l : Int} (hop : s.f.op = o) (hl : s.f.line = l) (hc : s.notes.length ≤ 900) (what : Int) :
    Calls Try.prog 72 #[.pointer (some ⟨r, 0, none⟩), .int .i64 what] w fun e w' => e = .returned (.tuple #[]) ∧ RunHas S0 w0 m a r rs (tfEnter s what) w' := by
  have HC := Lib.hid hc
  have HH := Lib.hid H
  clear hc H
  go_enter Try.func72, Try.ntmps72
  go_wp2_with fail
  refine (rn_add HH.out 1 1 (by decide)).mono ?_
  rintro e w1 ⟨rfl, H1⟩
  obtain ⟨x0, x2, x4, x5, x6, x7⟩ := H1.facts hop hl rfl rfl
  go_wp2_with fail
  refine (run_note H1 (by have := HC.out; first | exact Nat.le_trans this (by decide) | (simp [Rn.note, Rn.did, Rn.setA, Rn.setB, Rn.waited, Rn.goto, Rn.noted]; omega)) what 0).mono ?_
  rintro e w2 ⟨rfl, H2⟩
  obtain ⟨x0, x2, x4, x5, x6, x7⟩ := H2.facts hop hl rfl rfl
  go_wp2_with fail
  refine (rn_wake H2 1).mono ?_
  rintro e w3 ⟨rfl, H3⟩
  go_wp2_with fail
  refine (rn_end H3 true).mono ?_
  rintro e w4 ⟨rfl, H4⟩
  go_wp2_with fail
  go_end0
  exact ⟨rfl, H4⟩

def tfLook (s : Rn) (c may : Int) : Rn :=
  let v := (doA s.L ⟨1, c, 0, 0, 0⟩).1.old
  let s1 := (s.did (doA s.L ⟨1, c, 0, 0, 0⟩)).setB v
  if may < aheadA s.f.a v then (s1.note 5 0).fin false else if aheadA s.f.a v < may then s1.goto 0 else s1.goto 2

set_option maxHeartbeats 1600000 in
theorem tf_look {S0 : List Nat} {w0 w : World} {m a r : Nat} {rs : List Res} {s : Rn} (H : RunHas S0 w0 m a r rs s w) {o l : Int} (hop : s.f.op = o) (hl : s.f.line = l) (ha : 0 ≤ s.f.a ∧ s.f.a < 4294967296) (hc : s.notes.length ≤ 900) (c may : Int) :
    Calls Try.prog 102 #[.pointer (some ⟨r, 0, none⟩), .int .i64 c, .int .i64 may] w fun e w' => e = .returned (.tuple #[]) ∧ RunHas S0 w0 m a r rs (tfLook s c may) w' := by
  have hld := fun W (H : RunHas S0 w0 m a r rs s W) => rn_load H c
  have hv := H.old ⟨1, c, 0, 0, 0⟩
  unfold tfLook
  dsimp only
  have hah := fun W => ahead_any s.f.a (doA s.L ⟨1, c, 0, 0, 0⟩).1.old W ha hv
  generalize hn : aheadA s.f.a (doA s.L ⟨1, c, 0, 0, 0⟩).1.old = n at hah ⊢
  generalize hvv : (doA s.L ⟨1, c, 0, 0, 0⟩).1.old = v at hld hah hv ⊢
  generalize hs2 : s.did (doA s.L ⟨1, c, 0, 0, 0⟩) = s2 at hld ⊢
  have h2o : s2.f.op = o := by rw [← hs2]; exact hop
  have h2l : s2.f.line = l := by rw [← hs2]; exact hl
  have h2n : s2.notes = s.notes := by rw [← hs2]; rfl
  have h2a : s2.f.a = s.f.a := by rw [← hs2]; rfl
  rw [← h2a] at hah
  have HC := Lib.hid (show s2.notes.length ≤ 900 by rw [h2n]; exact hc)
  have HH := Lib.hid H
  have HLD := Lib.hid hld
  have HAH := Lib.hid hah
  clear hc H hld hah hn hvv hs2 hv h2n ha h2a hop hl
  have hop := h2o
  have hl := h2l
  clear h2o h2l
  by_cases c1 : may < n
  · rw [if_pos c1]
    go_enter Try.func102, Try.ntmps102
    go_wp2_with fail
    refine (HLD.out _ HH.out).mono ?_
    rintro e w1 ⟨rfl, H1⟩
    obtain ⟨x0, x2, x4, x5, x6, x7⟩ := H1.facts hop hl rfl rfl
    go_wp2_with fail
    refine region_flat (by kernel_rfl) (by kernel_rfl) ?_
    simp only [probed, probes, List.nil_append]
    go_wp2_with fail
    refine (HAH.out _).mono ?_
    rintro e w2 ⟨rfl, rfl⟩
    go_wp2_with fail
    rw [only_normal]
    rename_i hK
    refine hK _ _ ?_
    clear hK
    have H2 := (H1.setB v).drew
    go_wp2_with fail
    refine (run_note H2 (by have := HC.out; first | exact Nat.le_trans this (by decide) | (simp [Rn.note, Rn.did, Rn.setA, Rn.setB, Rn.waited, Rn.goto, Rn.noted]; omega)) 5 0).mono ?_
    rintro e w3 ⟨rfl, H3⟩
    go_wp2_with fail
    refine (rn_end H3 false).mono ?_
    rintro e w4 ⟨rfl, H4⟩
    go_wp2_with fail
    go_end0
    exact ⟨rfl, H4⟩
  · rw [if_neg c1]
    by_cases c2 : n < may
    · rw [if_pos c2]
      go_enter Try.func102, Try.ntmps102
      go_wp2_with fail
      refine (HLD.out _ HH.out).mono ?_
      rintro e w1 ⟨rfl, H1⟩
      obtain ⟨x0, x2, x4, x5, x6, x7⟩ := H1.facts hop hl rfl rfl
      go_wp2_with fail
      refine region_flat (by kernel_rfl) (by kernel_rfl) ?_
      simp only [probed, probes, List.nil_append]
      go_wp2_with fail
      refine (HAH.out _).mono ?_
      rintro e w2 ⟨rfl, rfl⟩
      go_wp2_with fail
      rw [only_normal]
      rename_i hK
      refine hK _ _ ?_
      clear hK
      have H2 := (H1.setB v).drew
      go_wp2_with fail
      refine (rn_go H2 0).mono ?_
      rintro e w3 ⟨rfl, H3⟩
      go_wp2_with fail
      go_end0
      exact ⟨rfl, H3⟩
    · rw [if_neg c2]
      go_enter Try.func102, Try.ntmps102
      go_wp2_with fail
      refine (HLD.out _ HH.out).mono ?_
      rintro e w1 ⟨rfl, H1⟩
      obtain ⟨x0, x2, x4, x5, x6, x7⟩ := H1.facts hop hl rfl rfl
      go_wp2_with fail
      refine region_flat (by kernel_rfl) (by kernel_rfl) ?_
      simp only [probed, probes, List.nil_append]
      go_wp2_with fail
      refine (HAH.out _).mono ?_
      rintro e w2 ⟨rfl, rfl⟩
      go_wp2_with fail
      rw [only_normal]
      rename_i hK
      refine hK _ _ ?_
      clear hK
      have H2 := (H1.setB v).drew
      go_wp2_with fail
      refine (rn_go H2 2).mono ?_
      rintro e w3 ⟨rfl, H3⟩
      go_wp2_with fail
      go_end0
      exact ⟨rfl, H3⟩

def tfTake (s : Rn) : Rn × Bool :=
  let s1 := s.did (doA s.L ⟨5, 0, s.f.a, (s.f.a + 1) % 4294967296, 0⟩)
  if casB s.L 0 s.f.a ((s.f.a + 1) % 4294967296) then (s1, true) else (s1.goto 0, false)

set_option maxHeartbeats 1600000 in
theorem tf_take {S0 : List Nat} {w0 w : World} {m a r : Nat} {rs : List Res} {s : Rn} (H : RunHas S0 w0 m a r rs s w) {o l : Int} (hop : s.f.op = o) (hl : s.f.line = l) (ha : 0 ≤ s.f.a ∧ s.f.a < 4294967296) :
    Calls Try.prog 103 #[.pointer (some ⟨r, 0, none⟩)] w fun e w' => e = .returned (.bool (tfTake s).2) ∧ RunHas S0 w0 m a r rs (tfTake s).1 w' := by
  obtain ⟨z0, z2, z4, z5, z6, z7⟩ := H.facts hop hl rfl rfl
  have hcas := fun W (H : RunHas S0 w0 m a r rs s W) => rn_cas H 0 s.f.a ((s.f.a + 1) % 4294967296) ha (by omega)
  unfold tfTake
  have HH := Lib.hid H
  clear H ha
  cases hb : casB s.L 0 s.f.a ((s.f.a + 1) % 4294967296) with
  | true =>
    rw [hb] at hcas
    have HCAS := Lib.hid hcas
    clear hcas
    simp only [if_true]
    go_enter Try.func103, Try.ntmps103
    go_wp2_with fail
    refine region_flat (by kernel_rfl) (by kernel_rfl) ?_
    simp only [probed, probes, List.nil_append, List.cons_append, probe]
    go_wp2_with fail
    refine (HCAS.out _ HH.out.drew).mono ?_
    rintro e w1 ⟨rfl, H1⟩
    go_wp2_with fail
    rw [only_normal]
    rename_i hK
    refine hK _ _ ?_
    clear hK
    go_wp2_with fail
    go_ret
    exact ⟨rfl, H1⟩
  | false =>
    rw [hb] at hcas
    have HCAS := Lib.hid hcas
    clear hcas
    simp only [Bool.false_eq_true, if_false]
    go_enter Try.func103, Try.ntmps103
    go_wp2_with fail
    refine region_flat (by kernel_rfl) (by kernel_rfl) ?_
    simp only [probed, probes, List.nil_append, List.cons_append, probe]
    go_wp2_with fail
    refine (HCAS.out _ HH.out.drew).mono ?_
    rintro e w1 ⟨rfl, H1⟩
    go_wp2_with fail
    rw [only_normal]
    rename_i hK
    refine hK _ _ ?_
    clear hK
    go_wp2_with fail
    refine (rn_go H1 0).mono ?_
    rintro e w2 ⟨rfl, H2⟩
    go_wp2_with fail
    go_ret
    exact ⟨rfl, H2⟩

theorem tf_mine (x v : Int) {b : Nat} (w : World) (hb : Blk w b #[.int .u32 x]) :
    Calls Try.prog 70 #[.int .u32 v, .pointer (some ⟨b, 0, none⟩)] w fun e w' => e = .returned (.bool (v == x)) ∧ Touch [] w w' := by
  obtain ⟨x0, x1, x2⟩ := hb.own
  go_enter Try.func70, Try.ntmps70
  go_wp2
  go_ret
  exact ⟨rfl, Touch.refl _ _⟩

end Go.Proofs.Ytdffdppkdbbdoaa.Z
