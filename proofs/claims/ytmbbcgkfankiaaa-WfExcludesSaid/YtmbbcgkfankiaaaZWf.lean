/- Package wf: its small functions. Written by genwf.py. -/
import Derived.Test.YtmbbcgkfankiaaaZKeep
import Derived.Test.YtmbbcgkfankiaaaZFlat5
import Derived.Test.YtmbbcgkfankiaaaZDiff8
import Derived.Deep.RegionHeld3
import Derived.Deep.DrawnRows
set_option linter.unusedVariables false
set_option linter.unusedSimpArgs false
namespace Go.Proofs.Ytmbbcgkfankiaaa.Z
open Go.RowKit

attribute [local go_sem ↓] Go.wp_at_zero Go.wp_at_succ

/-- How many readers are inside; whose turn it is; how many tickets were given. -/
def wfR (v : Int) : Int := v % 256
def wfT (v : Int) : Int := v / 256 % 256
def wfG (v : Int) : Int := v / 65536 % 256
/-- No writer has a ticket. -/
def wfCalm (v : Int) : Bool := wfT v == wfG v

theorem RunHas.ne_first {S0 : List Nat} {w0 w : World} {m a r b : Nat} {cs : Array Value} {rs : List Res} {s : Rn} (H : RunHas S0 w0 m a r (.blk b cs :: rs) s w) : r ≠ b := by
  obtain ⟨nv, H⟩ := H
  exact H.ne_at 1 3 rfl rfl (by decide)
theorem wf_readers (v : Int) (w : World) (hv : 0 ≤ v ∧ v < 4294967296) : Calls Try.prog 54 #[.int .u32 v] w fun e w' => e = .returned (.int .u32 (wfR v)) ∧ w = w' := by
  have hg := fun W => diff_get0 v W hv
  rw [show v / 1 % 256 = wfR v from by unfold wfR; omega] at hg
  have HG := Lib.hid hg
  clear hg
  go_enter Try.func54, Try.ntmps54
  go_wp2_with fail
  refine (HG.out _).mono ?_
  rintro e w1 ⟨rfl, rfl⟩
  go_wp2
  go_ret
  exact ⟨rfl, rfl⟩
theorem wf_calm (v : Int) (w : World) (hv : 0 ≤ v ∧ v < 4294967296) : Calls Try.prog 50 #[.int .u32 v] w fun e w' => e = .returned (.bool (wfCalm v)) ∧ w = w' := by
  have hg := fun W => diff_get8 v W hv
  have hh := fun W => diff_get16 v W hv
  unfold wfCalm wfT wfG
  generalize v / 256 % 256 = x at hg ⊢
  generalize v / 65536 % 256 = y at hh ⊢
  have HG := Lib.hid hg
  have HK := Lib.hid hh
  clear hg hh
  go_enter Try.func50, Try.ntmps50
  go_wp2_with fail
  refine (HG.out _).mono ?_
  rintro e w1 ⟨rfl, rfl⟩
  go_wp2_with fail
  refine (HK.out _).mono ?_
  rintro e w2 ⟨rfl, rfl⟩
  go_wp2
  go_ret
  exact ⟨rfl, rfl⟩
theorem wf_next (v : Int) (w : World) (hv : 0 ≤ v ∧ v < 4294967296) : Calls Try.prog 89 #[.int .u32 v] w fun e w' => e = .returned (.int .u32 (bump8 v)) ∧ w = w' := by
  have HG := Lib.hid (fun W => diff_bump8 v W hv)
  go_enter Try.func89, Try.ntmps89
  go_wp2_with fail
  refine (HG.out _).mono ?_
  rintro e w1 ⟨rfl, rfl⟩
  go_wp2
  go_ret
  exact ⟨rfl, rfl⟩

/-- An operation's end. -/
def Rn.wends (s : Rn) (wake : Bool) (l : List Int) : Rn := (if wake then (s.noted l).wake 0 else s.noted l).fin true

set_option maxHeartbeats 800000 in
theorem wf_end {S0 : List Nat} {w0 w : World} {m a r g n c : Nat} {l : List Int} {rs : List Res} {s : Rn} (H : RunHas S0 w0 m a r (.blk g (i64s l).toArray :: rs) s w) (hn : l.length = n) (hc : s.notes.length + l.length ≤ 1000) (wake : Bool) :
    Calls Try.prog 46 #[.pointer (some ⟨r, 0, none⟩), .bool wake, .slice (some ⟨g, 0, none⟩) n c] w fun e w' => e = .returned (.tuple #[]) ∧ RunHas S0 w0 m a r (.blk g (i64s l).toArray :: rs) (s.wends wake l) w' := by
  subst hn
  have hll : l.length ≤ 1000 := by omega
  have HC := Lib.hid hc
  have HH := Lib.hid H
  clear hc H
  go_enter Try.func46, Try.ntmps46
  go_wp2_with fail
  go_loopw [10] (fun i wr => ∃ k : Nat, k ≤ l.length ∧ i = .int .i64 k ∧ RunHas S0 w0 m a r (.blk g (i64s l).toArray :: rs) (s.noted (l.take k)) wr) (fun i _ => l.length - (intOf i).toNat)
  case atStart => exact ⟨0, Nat.zero_le _, rfl, HH.out⟩
  case round =>
    obtain ⟨k, hk, rfl, hH⟩ := hrel
    have HK := Lib.hid hH
    clear hH
    by_cases hlt : k < l.length
    · obtain ⟨b, off, hb, hbl, hcell⟩ := i64s_at (rd_blk HK.out.first) hlt
      simp only [Option.some.injEq, Addr.mk.injEq] at hb
      obtain ⟨rfl, rfl, _⟩ := hb
      obtain ⟨x, hx⟩ : ∃ x, l.getD k 0 = x := ⟨_, rfl⟩
      rw [hx, Nat.zero_add] at hcell
      have HX := Lib.hid hx
      clear hx
      have hi : (k : Int) < (l.length : Int) := by omega
      go_wp2_with fail
      refine (run_note HK.out (by rw [noted_notes]; have := HC.out; simp only [List.length_take]; omega) x 0).mono ?_
      rintro e w1 ⟨rfl, H1⟩
      go_wp2
      go_roundw
      case rel => exact ⟨k + 1, by omega, by go_num, by rw [noted_succ s l k hlt, HX.out]; exact H1⟩
      case measure => simp [intOf]; omega
    · have hkn : k = l.length := by omega
      subst hkn
      have hi : (l.length : Int) ≤ (l.length : Int) := Int.le_refl _
      have H2 := HK.out
      rw [List.take_length] at H2
      clear HK hlt hk
      cases wake with
      | true =>
        go_wp2_with fail
        refine (rn_wake H2 0).mono ?_
        rintro e w1 ⟨rfl, H3⟩
        go_wp2_with fail
        refine (rn_end H3 true).mono ?_
        rintro e w2 ⟨rfl, H4⟩
        go_wp2_with fail
        go_end0
        exact ⟨rfl, H4⟩
      | false =>
        go_wp2_with fail
        refine (rn_end H2 true).mono ?_
        rintro e w2 ⟨rfl, H4⟩
        go_wp2_with fail
        go_end0
        exact ⟨rfl, H4⟩


/-- The word is loaded; on, if no writer has a ticket. -/
def wfCalmly (s : Rn) : Rn :=
  let s1 := ((s.did (doA s.L ⟨1, 0, 0, 0, 0⟩)).setA (doA s.L ⟨1, 0, 0, 0, 0⟩).1.old).goto 2
  if wfCalm (doA s.L ⟨1, 0, 0, 0, 0⟩).1.old then s1.goto 1 else s1

set_option maxHeartbeats 800000 in
theorem wf_calmly {S0 : List Nat} {w0 w : World} {m a r : Nat} {rs : List Res} {s : Rn} (H : RunHas S0 w0 m a r rs s w) {o l : Int} (hop : s.f.op = o) (hl : s.f.line = l) :
    Calls Try.prog 43 #[.pointer (some ⟨r, 0, none⟩)] w fun e w' => e = .returned (.tuple #[]) ∧ RunHas S0 w0 m a r rs (wfCalmly s) w' := by
  have HVB := Lib.hid (H.old ⟨1, 0, 0, 0, 0⟩)
  have HH := Lib.hid H
  clear H
  unfold wfCalmly
  dsimp only
  cases hb : wfCalm (doA s.L ⟨1, 0, 0, 0, 0⟩).1.old with
  | true =>
    simp only [if_true]
    go_enter Try.func43, Try.ntmps43
    go_wp2_with fail
    refine (rn_load HH.out 0).mono ?_
    rintro e w1 ⟨rfl, H1⟩
    obtain ⟨x0, x2, x4, x5, x6, x7⟩ := H1.facts hop hl rfl rfl
    go_wp2_with fail
    refine (rn_go (H1.setA (doA s.L ⟨1, 0, 0, 0, 0⟩).1.old) 2).mono ?_
    rintro e w2 ⟨rfl, H2⟩
    obtain ⟨x0, x2, x4, x5, x6, x7⟩ := H2.facts hop (l := 2) rfl (x := (doA s.L ⟨1, 0, 0, 0, 0⟩).1.old) rfl rfl
    go_wp2_with fail
    refine (wf_calm _ _ HVB.out).mono ?_
    rw [hb]
    rintro e w9 ⟨rfl, rfl⟩
    go_wp2_with fail
    refine (rn_go H2 1).mono ?_
    rintro e w3 ⟨rfl, H3⟩
    go_wp2_with fail
    go_end0
    exact ⟨rfl, H3⟩
  | false =>
    simp only [Bool.false_eq_true, if_false]
    go_enter Try.func43, Try.ntmps43
    go_wp2_with fail
    refine (rn_load HH.out 0).mono ?_
    rintro e w1 ⟨rfl, H1⟩
    obtain ⟨x0, x2, x4, x5, x6, x7⟩ := H1.facts hop hl rfl rfl
    go_wp2_with fail
    refine (rn_go (H1.setA (doA s.L ⟨1, 0, 0, 0, 0⟩).1.old) 2).mono ?_
    rintro e w2 ⟨rfl, H2⟩
    obtain ⟨x0, x2, x4, x5, x6, x7⟩ := H2.facts hop (l := 2) rfl (x := (doA s.L ⟨1, 0, 0, 0, 0⟩).1.old) rfl rfl
    go_wp2_with fail
    refine (wf_calm _ _ HVB.out).mono ?_
    rw [hb]
    rintro e w9 ⟨rfl, rfl⟩
    go_wp2_with fail
    go_end0
    exact ⟨rfl, H2⟩

/-- A try looks first. -/
def Rn.wchosen (s : Rn) (p : Int → Bool) : Rn :=
  let s1 := (s.did (doA s.L ⟨1, 0, 0, 0, 0⟩)).setA (doA s.L ⟨1, 0, 0, 0, 0⟩).1.old
  if wfCalm (doA s.L ⟨1, 0, 0, 0, 0⟩).1.old && p (doA s.L ⟨1, 0, 0, 0, 0⟩).1.old then s1.goto 1 else (s1.note 5 0).fin false

set_option maxHeartbeats 800000 in
theorem wf_choose {S0 : List Nat} {w0 w : World} {m a r : Nat} {rs : List Res} {s : Rn} (H : RunHas S0 w0 m a r rs s w) (hc : s.notes.length ≤ 900) {o l : Int} (hop : s.f.op = o) (hl : s.f.line = l) (fid : FuncId) (first cap : Array Value) (p : Int → Bool) (eg : ∀ args w, (callFunc fid args).run Try.prog w = .ok (.enter fid args) w)
    (hF : ∀ W v s', 0 ≤ v ∧ v < 4294967296 → RunHas S0 w0 m a r rs s' W → Calls Try.prog fid (first ++ #[.int .u32 v] ++ cap) W fun e W' => e = .returned (.bool (p v)) ∧ Touch [] W W') :
    Calls Try.prog 90 #[.pointer (some ⟨r, 0, none⟩), .func (.func fid) first cap] w fun e w' => e = .returned (.tuple #[]) ∧ RunHas S0 w0 m a r rs (s.wchosen p) w' := by
  have HC := Lib.hid hc
  have HF := Lib.hid hF
  have HVB := Lib.hid (H.old ⟨1, 0, 0, 0, 0⟩)
  have HH := Lib.hid H
  clear hc H hF
  unfold Rn.wchosen
  dsimp only
  cases hb : wfCalm (doA s.L ⟨1, 0, 0, 0, 0⟩).1.old with
  | true =>
    cases hp : p (doA s.L ⟨1, 0, 0, 0, 0⟩).1.old with
    | true =>
      simp only [Bool.and_self, if_true]
      go_enter Try.func90, Try.ntmps90
      go_wp2_with fail
      refine (rn_load HH.out 0).mono ?_
      rintro e w1 ⟨rfl, H1⟩
      obtain ⟨x0, x2, x4, x5, x6, x7⟩ := H1.facts hop hl rfl rfl
      go_wp2_with fail
      refine (wf_calm _ _ HVB.out).mono ?_
      rw [hb]
      rintro e w9 ⟨rfl, rfl⟩
      go_wp2_with fail
      refine (HF.out _ _ _ HVB.out (H1.setA _)).mono ?_
      rw [hp]
      rintro e w2 ⟨rfl, t2⟩
      have H2 := (H1.setA (doA s.L ⟨1, 0, 0, 0, 0⟩).1.old).grow t2
      go_wp2_with fail
      refine (rn_go H2 1).mono ?_
      rintro e w3 ⟨rfl, H3⟩
      go_wp2_with fail
      (try simp only [Exit.inBlock, Exit.then]); refine bodyPost_ret (results_none rfl _ _ _) rfl ?_
      exact ⟨rfl, H3⟩
    | false =>
      simp only [Bool.and_false, Bool.false_eq_true, if_false]
      go_enter Try.func90, Try.ntmps90
      go_wp2_with fail
      refine (rn_load HH.out 0).mono ?_
      rintro e w1 ⟨rfl, H1⟩
      obtain ⟨x0, x2, x4, x5, x6, x7⟩ := H1.facts hop hl rfl rfl
      go_wp2_with fail
      refine (wf_calm _ _ HVB.out).mono ?_
      rw [hb]
      rintro e w9 ⟨rfl, rfl⟩
      go_wp2_with fail
      refine (HF.out _ _ _ HVB.out (H1.setA _)).mono ?_
      rw [hp]
      rintro e w2 ⟨rfl, t2⟩
      have H2 := (H1.setA (doA s.L ⟨1, 0, 0, 0, 0⟩).1.old).grow t2
      go_wp2_with fail
      refine (run_note H2 (by have := HC.out; first | exact Nat.le_trans this (by decide) | (simp [Rn.note, Rn.did, Rn.setA, Rn.setB, Rn.waited, Rn.goto, Rn.noted]; omega)) 5 0).mono ?_
      rintro e w3 ⟨rfl, H3⟩
      go_wp2_with fail
      refine (rn_end H3 false).mono ?_
      rintro e w4 ⟨rfl, H4⟩
      go_wp2_with fail
      go_end0
      exact ⟨rfl, H4⟩
  | false =>
    simp only [Bool.false_and, Bool.false_eq_true, if_false]
    go_enter Try.func90, Try.ntmps90
    go_wp2_with fail
    refine (rn_load HH.out 0).mono ?_
    rintro e w1 ⟨rfl, H1⟩
    obtain ⟨x0, x2, x4, x5, x6, x7⟩ := H1.facts hop hl rfl rfl
    go_wp2_with fail
    refine (wf_calm _ _ HVB.out).mono ?_
    rw [hb]
    rintro e w9 ⟨rfl, rfl⟩
    go_wp2_with fail
    have H2 := H1.setA (doA s.L ⟨1, 0, 0, 0, 0⟩).1.old
    refine (run_note H2 (by have := HC.out; first | exact Nat.le_trans this (by decide) | (simp [Rn.note, Rn.did, Rn.setA, Rn.setB, Rn.waited, Rn.goto, Rn.noted]; omega)) 5 0).mono ?_
    rintro e w3 ⟨rfl, H3⟩
    go_wp2_with fail
    refine (rn_end H3 false).mono ?_
    rintro e w4 ⟨rfl, H4⟩
    go_wp2_with fail
    go_end0
    exact ⟨rfl, H4⟩

/-- A try ends, if the word is as it was. -/
def Rn.wswapped (s : Rn) (more cls note : Int) : Rn :=
  let s1 := s.did (doA s.L ⟨5, 0, s.f.a, (s.f.a + more) % 4294967296, 0⟩)
  if casB s.L 0 s.f.a ((s.f.a + more) % 4294967296) then (if cls = 0 then s1 else s1.note 2 cls).wends false [note] else s1.goto 0

set_option maxHeartbeats 1600000 in
theorem wf_swap {S0 : List Nat} {w0 w : World} {m a r : Nat} {rs : List Res} {s : Rn} (H : RunHas S0 w0 m a r rs s w) (hc : s.notes.length ≤ 900) {o l : Int} (hop : s.f.op = o) (hl : s.f.line = l) (ha : 0 ≤ s.f.a ∧ s.f.a < 4294967296) (more cls note : Int) (hm : 0 ≤ more ∧ more < 4294967296) :
    Calls Try.prog 94 #[.pointer (some ⟨r, 0, none⟩), .int .u32 more, .int .i64 cls, .int .i64 note] w fun e w' => e = .returned (.tuple #[]) ∧ RunHas S0 w0 m a r rs (s.wswapped more cls note) w' := by
  obtain ⟨z0, z2, z4, z5, z6, z7⟩ := H.facts hop hl rfl rfl
  have hcas := fun W (H : RunHas S0 w0 m a r rs s W) => rn_cas H 0 s.f.a ((s.f.a + more) % 4294967296) ha (by omega)
  have HC := Lib.hid hc
  unfold Rn.wswapped
  dsimp only
  have HH := Lib.hid H
  clear H ha hc
  cases hb : casB s.L 0 s.f.a ((s.f.a + more) % 4294967296) with
  | true =>
    rw [hb] at hcas
    have HCAS := Lib.hid hcas
    clear hcas
    simp only [if_true]
    by_cases hcl : cls = 0
    · subst hcl
      simp only [if_true]
      go_enter Try.func94, Try.ntmps94
      go_wp2_with fail
      refine region_flat (by kernel_rfl) (by kernel_rfl) ?_
      simp only [probed, probes, List.nil_append, List.cons_append, probe]
      go_wp2_with fail
      refine (HCAS.out _ HH.out.drew).mono ?_
      rintro e w1 ⟨rfl, H1⟩
      go_wp2_with fail
      rw [only_normal]
      rename_i hK
      refine hK _ _ ?_
      clear hK
      go_wp2_with fail
      refine (wf_end (l := [note]) (H1.box rfl _ _) rfl (by have := HC.out; first | exact Nat.le_trans this (by decide) | (simp [List.length_cons, Rn.note, Rn.did, Rn.setA, Rn.setB, Rn.waited, Rn.goto, Rn.noted]; omega)) false).mono ?_
      rintro e w5 ⟨rfl, H5⟩
      go_wp2_with fail
      go_end0
      exact ⟨rfl, H5.unbox⟩
    · rw [if_neg hcl]
      have hcl2 : (cls != 0) = true := by simpa using hcl
      clear hcl
      go_enter Try.func94, Try.ntmps94
      go_wp2_with fail
      refine region_flat (by kernel_rfl) (by kernel_rfl) ?_
      simp only [probed, probes, List.nil_append, List.cons_append, probe]
      go_wp2_with fail
      refine (HCAS.out _ HH.out.drew).mono ?_
      rintro e w1 ⟨rfl, H1⟩
      go_wp2_with fail
      rw [only_normal]
      rename_i hK
      refine hK _ _ ?_
      clear hK
      go_wp2_with fail
      refine (run_note H1 (by have := HC.out; first | exact Nat.le_trans this (by decide) | (simp [Rn.note, Rn.did, Rn.setA, Rn.setB, Rn.waited, Rn.goto, Rn.noted]; omega)) 2 cls).mono ?_
      rintro e w2 ⟨rfl, H2⟩
      go_wp2_with fail
      refine (wf_end (l := [note]) (H2.box rfl _ _) rfl (by have := HC.out; first | exact Nat.le_trans this (by decide) | (simp [List.length_cons, Rn.note, Rn.did, Rn.setA, Rn.setB, Rn.waited, Rn.goto, Rn.noted]; omega)) false).mono ?_
      rintro e w5 ⟨rfl, H5⟩
      go_wp2_with fail
      go_end0
      exact ⟨rfl, H5.unbox⟩
  | false =>
    rw [hb] at hcas
    have HCAS := Lib.hid hcas
    clear hcas
    simp only [Bool.false_eq_true, if_false]
    go_enter Try.func94, Try.ntmps94
    go_wp2_with fail
    refine region_flat (by kernel_rfl) (by kernel_rfl) ?_
    simp only [probed, probes, List.nil_append, List.cons_append, probe]
    go_wp2_with fail
    refine (HCAS.out _ HH.out.drew).mono ?_
    rintro e w1 ⟨rfl, H1⟩
    go_wp2_with fail
    rw [only_normal]
    rename_i hK
    refine hK _ _ ?_
    clear hK
    go_wp2_with fail
    refine (rn_go H1 0).mono ?_
    rintro e w2 ⟨rfl, H2⟩
    go_wp2_with fail
    (try simp only [Exit.inBlock, Exit.then]); refine bodyPost_ret (results_none rfl _ _ _) rfl ?_
    exact ⟨rfl, H2⟩

theorem wf_may1 (v : Int) (w : World) (hv : 0 ≤ v ∧ v < 4294967296) : Calls Try.prog 91 #[.int .u32 v] w fun e w' => e = .returned (.bool (true)) ∧ Touch [] w w' := by
  go_enter Try.func91, Try.ntmps91
  go_wp2
  go_ret
  exact ⟨rfl, Touch.refl _ _⟩

theorem wf_may2 (v : Int) (w : World) (hv : 0 ≤ v ∧ v < 4294967296) : Calls Try.prog 92 #[.int .u32 v] w fun e w' => e = .returned (.bool (wfR v == 0)) ∧ Touch [] w w' := by
  go_enter Try.func92, Try.ntmps92
  go_wp2_with fail
  refine (wf_readers v _ hv).mono ?_
  rintro e w1 ⟨rfl, rfl⟩
  go_wp2
  go_ret
  exact ⟨rfl, Touch.refl _ _⟩

theorem wf_may3 (v : Int) (w : World) (hv : 0 ≤ v ∧ v < 4294967296) : Calls Try.prog 93 #[.int .u32 v] w fun e w' => e = .returned (.bool (wfR v == 1)) ∧ Touch [] w w' := by
  go_enter Try.func93, Try.ntmps93
  go_wp2_with fail
  refine (wf_readers v _ hv).mono ?_
  rintro e w1 ⟨rfl, rfl⟩
  go_wp2
  go_ret
  exact ⟨rfl, Touch.refl _ _⟩

theorem wf_turn (x v : Int) {b : Nat} (w : World) (hv : 0 ≤ v ∧ v < 4294967296) (hb : Blk w b #[.int .u32 x]) :
    Calls Try.prog 53 #[.int .u32 v, .pointer (some ⟨b, 0, none⟩)] w fun e w' => e = .returned (.bool (wfT v == x && wfR v == 0)) ∧ Touch [] w w' := by
  obtain ⟨x0, x1, x2⟩ := hb.own
  have hg := fun W => diff_get8 v W hv
  rw [show v / 256 % 256 = wfT v from rfl] at hg
  have HG := Lib.hid hg
  clear hg
  cases ht : wfT v == x with
  | true =>
    go_enter Try.func53, Try.ntmps53
    go_wp2_with fail
    refine region_flat_call 1 rfl (by kernel_rfl) (by kernel_rfl) ?_
    simp only [List.take_succ_cons, List.take_zero, List.drop_succ_cons, List.drop_zero, probed, probes, List.nil_append]
    go_wp2_with fail
    rw [only_normal]
    refine half_static (.int .u32 (wfT v)) rfl rfl (enters_of Try.func52 (by kernel_rfl) rfl) (by simp [Act.eval]) (fun W _ => HG.out W) ?_
    simp only [probed, probes, List.nil_append]
    go_wp2_with fail
    refine (wf_readers v _ hv).mono ?_
    rintro e w1 ⟨rfl, rfl⟩
    go_wp2_with fail
    rw [only_normal]
    rename_i hK
    refine hK _ _ ?_
    go_wp2
    go_ret
    exact ⟨by simp, (Touch.refl _ _).drew⟩
  | false =>
    go_enter Try.func53, Try.ntmps53
    go_wp2_with fail
    refine region_flat_call 1 rfl (by kernel_rfl) (by kernel_rfl) ?_
    simp only [List.take_succ_cons, List.take_zero, List.drop_succ_cons, List.drop_zero, probed, probes, List.nil_append]
    go_wp2_with fail
    rw [only_normal]
    refine half_static (.int .u32 (wfT v)) rfl rfl (enters_of Try.func52 (by kernel_rfl) rfl) (by simp [Act.eval]) (fun W _ => HG.out W) ?_
    simp only [probed, probes, List.nil_append]
    go_wp2_with fail
    rw [only_normal]
    rename_i hK
    refine hK _ _ ?_
    go_wp2
    go_ret
    exact ⟨by simp, (Touch.refl _ _).drew⟩

set_option maxHeartbeats 800000 in
theorem wf_keeps {m r b : Nat} {nv : Value} {s : Rn} (v : Int) (w : World) (hv : 0 ≤ v ∧ v < 4294967296) (hr : Blk w r (rcells m s nv)) (hb : Blk w b #[.pointer (some ⟨r, 4, none⟩)]) :
    Calls Try.prog 49 #[.int .u32 v, .pointer (some ⟨b, 0, none⟩)] w fun e w' => e = .returned (.bool (wfCalm v)) ∧ Touch [r] w w' ∧ Blk w' r (rcells m (if wfCalm v then s.setA v else s) nv) := by
  obtain ⟨n, mode, task, ⟨op, line, fa, fb, st, ⟨on, wc, wi, hit⟩, ret⟩, ⟨ak, ac, ax, ay, ao⟩, notes, L⟩ := s
  obtain ⟨x0, x1, x2⟩ := hb.own
  cases hcm : wfCalm v with
  | true =>
    simp only [rcells, if_true, Rn.setA] at hr ⊢
    obtain ⟨y0, y1, y2⟩ := hr.own
    have HR := Lib.hid hr
    clear hr
    go_enter Try.func49, Try.ntmps49
    go_wp2_with fail
    refine (wf_calm v _ hv).mono ?_
    rw [hcm]
    rintro e w1 ⟨rfl, rfl⟩
    go_wp2_with fail
    refine (wf_calm v _ hv).mono ?_
    rw [hcm]
    rintro e w1 ⟨rfl, rfl⟩
    go_wp2
    go_ret
    refine ⟨rfl, (Touch.refl _ _).set (by simp) _, ?_⟩
    have := HR.out.set 6 (.int .u32 v)
    simp only [List.setIfInBounds_toArray, List.set_cons_zero, List.set_cons_succ] at this
    exact this
  | false =>
    simp only [rcells, Bool.false_eq_true, if_false] at hr ⊢
    have HR := Lib.hid hr
    clear hr
    go_enter Try.func49, Try.ntmps49
    go_wp2_with fail
    refine (wf_calm v _ hv).mono ?_
    rw [hcm]
    rintro e w1 ⟨rfl, rfl⟩
    go_wp2_with fail
    refine (wf_calm v _ hv).mono ?_
    rw [hcm]
    rintro e w1 ⟨rfl, rfl⟩
    go_wp2
    go_ret
    exact ⟨rfl, Touch.refl _ _, HR.out⟩

end Go.Proofs.Ytmbbcgkfankiaaa.Z
