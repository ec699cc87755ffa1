/- 6 texts of this claim, joined: what each shows stands at its own head. -/
import Derived.Test.YtlndihdlodempaaZM00WfSteps
import Derived.Test.YtlndihdlodempaaZFlat5
import Derived.Deep.RegionHeld3
import Derived.Deep.DrawnRows
import Derived.Test.YtlndihdlodempaaZRun7
import Derived.Test.YtlndihdlodempaaZFin
import Derived.Test.YtlndihdlodempaaZPlace
import Derived.Test.YtlndihdlodempaaZFlat3
import Derived.Deep.RegionWith
import Derived.Outline
/- Package wf: its small functions. Written by genwf.py. -/
set_option linter.unusedVariables false
set_option linter.unusedSimpArgs false
namespace Go.Proofs.Ytlndihdlodempaa.Z
open Go.RowKit

attribute [local go_sem ↓] Go.wp_at_zero Go.wp_at_succ

/-- How many readers are inside; whose turn it is; how many tickets were given. -/
def wfR (v : Int) : Int := v % 256
def wfT (v : Int) : Int := v / 256 % 256
def wfG (v : Int) : Int := v / 65536 % 256
/-- No writer has a ticket. -/
def wfCalm (v : Int) : Bool := wfT v == wfG v

theorem RunHas.ne_first {S0 : List Nat} {w0 w : World} {m a r b : Nat} {cs : Array Value} {rs : List Res} {s : Rn} (H : RunHas S0 w0 m a r (.blk b cs :: rs) s w) : r ≠ b := by
  obtain ⟨nv, H⟩ := H
  exact H.ne_at 1 3 rfl rfl (by decide)
theorem wf_readers (v : Int) (w : World) (hv : 0 ≤ v ∧ v < 4294967296) : Calls Try.prog 106 #[.int .u32 v] w fun e w' => e = .returned (.int .u32 (wfR v)) ∧ w = w' := by
  have hg := fun W => diff_get0 v W hv
  rw [show v / 1 % 256 = wfR v from by unfold wfR; omega] at hg
  have HG := Lib.hid hg
  clear hg
  go_enter Try.func106, Try.ntmps106
  go_wp2_with fail
  refine (HG.out _).mono ?_
  rintro e w1 ⟨rfl, rfl⟩
  go_wp2
  go_ret
  exact ⟨rfl, rfl⟩
theorem wf_calm (v : Int) (w : World) (hv : 0 ≤ v ∧ v < 4294967296) : Calls Try.prog 103 #[.int .u32 v] w fun e w' => e = .returned (.bool (wfCalm v)) ∧ w = w' := by
  have hg := fun W => diff_get8 v W hv
  have hh := fun W => diff_get16 v W hv
  unfold wfCalm wfT wfG
  generalize v / 256 % 256 = x at hg ⊢
  generalize v / 65536 % 256 = y at hh ⊢
  have HG := Lib.hid hg
  have HK := Lib.hid hh
  clear hg hh
  go_enter Try.func103, Try.ntmps103
  go_wp2_with fail
  refine (HG.out _).mono ?_
  rintro e w1 ⟨rfl, rfl⟩
  go_wp2_with fail
  refine (HK.out _).mono ?_
  rintro e w2 ⟨rfl, rfl⟩
  go_wp2
  go_ret
  exact ⟨rfl, rfl⟩
theorem wf_next (v : Int) (w : World) (hv : 0 ≤ v ∧ v < 4294967296) : Calls Try.prog 155 #[.int .u32 v] w fun e w' => e = .returned (.int .u32 (bump8 v)) ∧ w = w' := by
  have HG := Lib.hid (fun W => diff_bump8 v W hv)
  go_enter Try.func155, Try.ntmps155
  go_wp2_with fail
  refine (HG.out _).mono ?_
  rintro e w1 ⟨rfl, rfl⟩
  go_wp2
  go_ret
  exact ⟨rfl, rfl⟩

/-- An operation's end. -/
def Rn.wends (s : Rn) (wake : Bool) (l : List Int) : Rn := (if wake then (s.noted l).wake 0 else s.noted l).fin true

set_option maxHeartbeats 800000 in
theorem wf_end {S0 : List Nat} {w0 w : World} {m a r g n c : Nat} {l : List Int} {rs : List Res} {s : Rn} (H : RunHas S0 w0 m a r (.blk g (i64s l).toArray :: rs) s w) (hn : l.length = n) (hc : s.notes.length + l.length ≤ 1000) (wake : Bool) :
    Calls Try.prog 101 #[.pointer (some ⟨r, 0, none⟩), .bool wake, .slice (some ⟨g, 0, none⟩) n c] w fun e w' => e = .returned (.tuple #[]) ∧ RunHas S0 w0 m a r (.blk g (i64s l).toArray :: rs) (s.wends wake l) w' := by
  subst hn
  have hll : l.length ≤ 1000 := by omega
  have HC := Lib.hid hc
  have HH := Lib.hid H
  clear hc H
  go_enter Try.func101, Try.ntmps101
  go_wp2_with fail
  go_loopw [10] (fun i wr => ∃ k : Nat, k ≤ l.length ∧ i = .int .i64 k ∧ RunHas S0 w0 m a r (.blk g (i64s l).toArray :: rs) (s.noted (l.take k)) wr) (fun i _ => l.length - (intOf i).toNat)
  case atStart => exact ⟨0, Nat.zero_le _, rfl, HH.out⟩
  case round =>
    obtain ⟨k, hk, rfl, hH⟩ := hrel
    have HK := Lib.hid hH
    clear hH
    by_cases hlt : k < l.length
    · obtain ⟨b, off, hb, hbl, hcell⟩ := i64s_at (rd_blk HK.out.first) hlt
      simp only [Option.some.injEq, Addr.mk.injEq] at hb
      obtain ⟨rfl, rfl, _⟩ := hb
      obtain ⟨x, hx⟩ : ∃ x, l.getD k 0 = x := ⟨_, rfl⟩
      rw [hx, Nat.zero_add] at hcell
      have HX := Lib.hid hx
      clear hx
      have hi : (k : Int) < (l.length : Int) := by omega
      go_wp2_with fail
      refine (run_note HK.out (by rw [noted_notes]; have := HC.out; simp only [List.length_take]; omega) x 0).mono ?_
      rintro e w1 ⟨rfl, H1⟩
      go_wp2
      go_roundw
      case rel => exact ⟨k + 1, by omega, by go_num, by rw [noted_succ s l k hlt, HX.out]; exact H1⟩
      case measure => simp [intOf]; omega
    · have hkn : k = l.length := by omega
      subst hkn
      have hi : (l.length : Int) ≤ (l.length : Int) := Int.le_refl _
      have H2 := HK.out
      rw [List.take_length] at H2
      clear HK hlt hk
      cases wake with
      | true =>
        go_wp2_with fail
        refine (rn_wake H2 0).mono ?_
        rintro e w1 ⟨rfl, H3⟩
        go_wp2_with fail
        refine (rn_end H3 true).mono ?_
        rintro e w2 ⟨rfl, H4⟩
        go_wp2_with fail
        go_end0
        exact ⟨rfl, H4⟩
      | false =>
        go_wp2_with fail
        refine (rn_end H2 true).mono ?_
        rintro e w2 ⟨rfl, H4⟩
        go_wp2_with fail
        go_end0
        exact ⟨rfl, H4⟩


/-- The word is loaded; on, if no writer has a ticket. -/
def wfCalmly (s : Rn) : Rn :=
  let s1 := ((s.did (doA s.L ⟨1, 0, 0, 0, 0⟩)).setA (doA s.L ⟨1, 0, 0, 0, 0⟩).1.old).goto 2
  if wfCalm (doA s.L ⟨1, 0, 0, 0, 0⟩).1.old then s1.goto 1 else s1

set_option maxHeartbeats 800000 in
theorem wf_calmly {S0 : List Nat} {w0 w : World} {m a r : Nat} {rs : List Res} {s : Rn} (H : RunHas S0 w0 m a r rs s w) {o l : Int} (hop : s.f.op = o) (hl : s.f.line = l) :
    Calls Try.prog 100 #[.pointer (some ⟨r, 0, none⟩)] w fun e w' => e = .returned (.tuple #[]) ∧ RunHas S0 w0 m a r rs (wfCalmly s) w' := by
  have HVB := Lib.hid (H.old ⟨1, 0, 0, 0, 0⟩)
  have HH := Lib.hid H
  clear H
  unfold wfCalmly
  dsimp only
  cases hb : wfCalm (doA s.L ⟨1, 0, 0, 0, 0⟩).1.old with
  | true =>
    simp only [if_true]
    go_enter Try.func100, Try.ntmps100
    go_wp2_with fail
    refine (rn_load HH.out 0).mono ?_
    rintro e w1 ⟨rfl, H1⟩
    obtain ⟨x0, x2, x4, x5, x6, x7⟩ := H1.facts hop hl rfl rfl
    go_wp2_with fail
    refine (rn_go (H1.setA (doA s.L ⟨1, 0, 0, 0, 0⟩).1.old) 2).mono ?_
    rintro e w2 ⟨rfl, H2⟩
    obtain ⟨x0, x2, x4, x5, x6, x7⟩ := H2.facts hop (l := 2) rfl (x := (doA s.L ⟨1, 0, 0, 0, 0⟩).1.old) rfl rfl
    go_wp2_with fail
    refine (wf_calm _ _ HVB.out).mono ?_
    rw [hb]
    rintro e w9 ⟨rfl, rfl⟩
    go_wp2_with fail
    refine (rn_go H2 1).mono ?_
    rintro e w3 ⟨rfl, H3⟩
    go_wp2_with fail
    go_end0
    exact ⟨rfl, H3⟩
  | false =>
    simp only [Bool.false_eq_true, if_false]
    go_enter Try.func100, Try.ntmps100
    go_wp2_with fail
    refine (rn_load HH.out 0).mono ?_
    rintro e w1 ⟨rfl, H1⟩
    obtain ⟨x0, x2, x4, x5, x6, x7⟩ := H1.facts hop hl rfl rfl
    go_wp2_with fail
    refine (rn_go (H1.setA (doA s.L ⟨1, 0, 0, 0, 0⟩).1.old) 2).mono ?_
    rintro e w2 ⟨rfl, H2⟩
    obtain ⟨x0, x2, x4, x5, x6, x7⟩ := H2.facts hop (l := 2) rfl (x := (doA s.L ⟨1, 0, 0, 0, 0⟩).1.old) rfl rfl
    go_wp2_with fail
    refine (wf_calm _ _ HVB.out).mono ?_
    rw [hb]
    rintro e w9 ⟨rfl, rfl⟩
    go_wp2_with fail
    go_end0
    exact ⟨rfl, H2⟩

/-- A try looks first. -/
def Rn.wchosen (s : Rn) (p : Int → Bool) : Rn :=
  let s1 := (s.did (doA s.L ⟨1, 0, 0, 0, 0⟩)).setA (doA s.L ⟨1, 0, 0, 0, 0⟩).1.old
  if wfCalm (doA s.L ⟨1, 0, 0, 0, 0⟩).1.old && p (doA s.L ⟨1, 0, 0, 0, 0⟩).1.old then s1.goto 1 else (s1.note 5 0).fin false

set_option maxHeartbeats 800000 in
theorem wf_choose {S0 : List Nat} {w0 w : World} {m a r : Nat} {rs : List Res} {s : Rn} (H : RunHas S0 w0 m a r rs s w) (hc : s.notes.length ≤ 900) {o l : Int} (hop : s.f.op = o) (hl : s.f.line = l) (fid : FuncId) (first cap : Array Value) (p : Int → Bool) (eg : ∀ args w, (callFunc fid args).run Try.prog w = .ok (.enter fid args) w)
    (hF : ∀ W v s', 0 ≤ v ∧ v < 4294967296 → RunHas S0 w0 m a r rs s' W → Calls Try.prog fid (first ++ #[.int .u32 v] ++ cap) W fun e W' => e = .returned (.bool (p v)) ∧ Touch [] W W') :
    Calls Try.prog 156 #[.pointer (some ⟨r, 0, none⟩), .func (.func fid) first cap] w fun e w' => e = .returned (.tuple #[]) ∧ RunHas S0 w0 m a r rs (s.wchosen p) w' := by
  have HC := Lib.hid hc
  have HF := Lib.hid hF
  have HVB := Lib.hid (H.old ⟨1, 0, 0, 0, 0⟩)
  have HH := Lib.hid H
  clear hc H hF
  unfold Rn.wchosen
  dsimp only
  cases hb : wfCalm (doA s.L ⟨1, 0, 0, 0, 0⟩).1.old with
  | true =>
    cases hp : p (doA s.L ⟨1, 0, 0, 0, 0⟩).1.old with
    | true =>
      simp only [Bool.and_self, if_true]
      go_enter Try.func156, Try.ntmps156
      go_wp2_with fail
      refine (rn_load HH.out 0).mono ?_
      rintro e w1 ⟨rfl, H1⟩
      obtain ⟨x0, x2, x4, x5, x6, x7⟩ := H1.facts hop hl rfl rfl
      go_wp2_with fail
      refine (wf_calm _ _ HVB.out).mono ?_
      rw [hb]
      rintro e w9 ⟨rfl, rfl⟩
      go_wp2_with fail
      refine (HF.out _ _ _ HVB.out (H1.setA _)).mono ?_
      rw [hp]
      rintro e w2 ⟨rfl, t2⟩
      have H2 := (H1.setA (doA s.L ⟨1, 0, 0, 0, 0⟩).1.old).grow t2
      go_wp2_with fail
      refine (rn_go H2 1).mono ?_
      rintro e w3 ⟨rfl, H3⟩
      go_wp2_with fail
      (try simp only [Exit.inBlock, Exit.then]); refine bodyPost_ret (results_none rfl _ _ _) rfl ?_
      exact ⟨rfl, H3⟩
    | false =>
      simp only [Bool.and_false, Bool.false_eq_true, if_false]
      go_enter Try.func156, Try.ntmps156
      go_wp2_with fail
      refine (rn_load HH.out 0).mono ?_
      rintro e w1 ⟨rfl, H1⟩
      obtain ⟨x0, x2, x4, x5, x6, x7⟩ := H1.facts hop hl rfl rfl
      go_wp2_with fail
      refine (wf_calm _ _ HVB.out).mono ?_
      rw [hb]
      rintro e w9 ⟨rfl, rfl⟩
      go_wp2_with fail
      refine (HF.out _ _ _ HVB.out (H1.setA _)).mono ?_
      rw [hp]
      rintro e w2 ⟨rfl, t2⟩
      have H2 := (H1.setA (doA s.L ⟨1, 0, 0, 0, 0⟩).1.old).grow t2
      go_wp2_with fail
      refine (run_note H2 (by have := HC.out; first | exact Nat.le_trans this (by decide) | (simp [Rn.note, Rn.did, Rn.setA, Rn.setB, Rn.waited, Rn.goto, Rn.noted]; omega)) 5 0).mono ?_
      rintro e w3 ⟨rfl, H3⟩
      go_wp2_with fail
      refine (rn_end H3 false).mono ?_
      rintro e w4 ⟨rfl, H4⟩
      go_wp2_with fail
      go_end0
      exact ⟨rfl, H4⟩
  | false =>
    simp only [Bool.false_and, Bool.false_eq_true, if_false]
    go_enter Try.func156, Try.ntmps156
    go_wp2_with fail
    refine (rn_load HH.out 0).mono ?_
    rintro e w1 ⟨rfl, H1⟩
    obtain ⟨x0, x2, x4, x5, x6, x7⟩ := H1.facts hop hl rfl rfl
    go_wp2_with fail
    refine (wf_calm _ _ HVB.out).mono ?_
    rw [hb]
    rintro e w9 ⟨rfl, rfl⟩
    go_wp2_with fail
    have H2 := H1.setA (doA s.L ⟨1, 0, 0, 0, 0⟩).1.old
    refine (run_note H2 (by have := HC.out; first | exact Nat.le_trans this (by decide) | (simp [Rn.note, Rn.did, Rn.setA, Rn.setB, Rn.waited, Rn.goto, Rn.noted]; omega)) 5 0).mono ?_
    rintro e w3 ⟨rfl, H3⟩
    go_wp2_with fail
    refine (rn_end H3 false).mono ?_
    rintro e w4 ⟨rfl, H4⟩
    go_wp2_with fail
    go_end0
    exact ⟨rfl, H4⟩

/-- A try ends, if the word is as it was. -/
def Rn.wswapped (s : Rn) (more cls note : Int) : Rn :=
  let s1 := s.did (doA s.L ⟨5, 0, s.f.a, (s.f.a + more) % 4294967296, 0⟩)
  if casB s.L 0 s.f.a ((s.f.a + more) % 4294967296) then (if cls = 0 then s1 else s1.note 2 cls).wends false [note] else s1.goto 0

set_option maxHeartbeats 1600000 in
theorem wf_swap {S0 : List Nat} {w0 w : World} {m a r : Nat} {rs : List Res} {s : Rn} (H : RunHas S0 w0 m a r rs s w) (hc : s.notes.length ≤ 900) {o l : Int} (hop : s.f.op = o) (hl : s.f.line = l) (ha : 0 ≤ s.f.a ∧ s.f.a < 4294967296) (more cls note : Int) (hm : 0 ≤ more ∧ more < 4294967296) :
    Calls Try.prog 160 #[.pointer (some ⟨r, 0, none⟩), .int .u32 more, .int .i64 cls, .int .i64 note] w fun e w' => e = .returned (.tuple #[]) ∧ RunHas S0 w0 m a r rs (s.wswapped more cls note) w' := by
  obtain ⟨z0, z2, z4, z5, z6, z7⟩ := H.facts hop hl rfl rfl
  have hcas := fun W (H : RunHas S0 w0 m a r rs s W) => rn_cas H 0 s.f.a ((s.f.a + more) % 4294967296) ha (by omega)
  have HC := Lib.hid hc
  unfold Rn.wswapped
  dsimp only
  have HH := Lib.hid H
  clear H ha hc
  cases hb : casB s.L 0 s.f.a ((s.f.a + more) % 4294967296) with
  | true =>
    rw [hb] at hcas
    have HCAS := Lib.hid hcas
    clear hcas
    simp only [if_true]
    by_cases hcl : cls = 0
    · subst hcl
      simp only [if_true]
      go_enter Try.func160, Try.ntmps160
      go_wp2_with fail
      refine region_flat (by kernel_rfl) (by kernel_rfl) ?_
      simp only [probed, probes, List.nil_append, List.cons_append, probe]
      go_wp2_with fail
      refine (HCAS.out _ HH.out.drew).mono ?_
      rintro e w1 ⟨rfl, H1⟩
      go_wp2_with fail
      rw [only_normal]
      rename_i hK
      refine hK _ _ ?_
      clear hK
      go_wp2_with fail
      refine (wf_end (l := [note]) (H1.box rfl _ _) rfl (by have := HC.out; first | exact Nat.le_trans this (by decide) | (simp [List.length_cons, Rn.note, Rn.did, Rn.setA, Rn.setB, Rn.waited, Rn.goto, Rn.noted]; omega)) false).mono ?_
      rintro e w5 ⟨rfl, H5⟩
      go_wp2_with fail
      go_end0
      exact ⟨rfl, H5.unbox⟩
    · rw [if_neg hcl]
      have hcl2 : (cls != 0) = true := by simpa using hcl
      clear hcl
      go_enter Try.func160, Try.ntmps160
      go_wp2_with fail
      refine region_flat (by kernel_rfl) (by kernel_rfl) ?_
      simp only [probed, probes, List.nil_append, List.cons_append, probe]
      go_wp2_with fail
      refine (HCAS.out _ HH.out.drew).mono ?_
      rintro e w1 ⟨rfl, H1⟩
      go_wp2_with fail
      rw [only_normal]
      rename_i hK
      refine hK _ _ ?_
      clear hK
      go_wp2_with fail
      refine (run_note H1 (by have := HC.out; first | exact Nat.le_trans this (by decide) | (simp [Rn.note, Rn.did, Rn.setA, Rn.setB, Rn.waited, Rn.goto, Rn.noted]; omega)) 2 cls).mono ?_
      rintro e w2 ⟨rfl, H2⟩
      go_wp2_with fail
      refine (wf_end (l := [note]) (H2.box rfl _ _) rfl (by have := HC.out; first | exact Nat.le_trans this (by decide) | (simp [List.length_cons, Rn.note, Rn.did, Rn.setA, Rn.setB, Rn.waited, Rn.goto, Rn.noted]; omega)) false).mono ?_
      rintro e w5 ⟨rfl, H5⟩
      go_wp2_with fail
      go_end0
      exact ⟨rfl, H5.unbox⟩
  | false =>
    rw [hb] at hcas
    have HCAS := Lib.hid hcas
    clear hcas
    simp only [Bool.false_eq_true, if_false]
    go_enter Try.func160, Try.ntmps160
    go_wp2_with fail
    refine region_flat (by kernel_rfl) (by kernel_rfl) ?_
    simp only [probed, probes, List.nil_append, List.cons_append, probe]
    go_wp2_with fail
    refine (HCAS.out _ HH.out.drew).mono ?_
    rintro e w1 ⟨rfl, H1⟩
    go_wp2_with fail
    rw [only_normal]
    rename_i hK
    refine hK _ _ ?_
    clear hK
    go_wp2_with fail
    refine (rn_go H1 0).mono ?_
    rintro e w2 ⟨rfl, H2⟩
    go_wp2_with fail
    (try simp only [Exit.inBlock, Exit.then]); refine bodyPost_ret (results_none rfl _ _ _) rfl ?_
    exact ⟨rfl, H2⟩

theorem wf_may1 (v : Int) (w : World) (hv : 0 ≤ v ∧ v < 4294967296) : Calls Try.prog 157 #[.int .u32 v] w fun e w' => e = .returned (.bool (true)) ∧ Touch [] w w' := by
  go_enter Try.func157, Try.ntmps157
  go_wp2
  go_ret
  exact ⟨rfl, Touch.refl _ _⟩

theorem wf_may2 (v : Int) (w : World) (hv : 0 ≤ v ∧ v < 4294967296) : Calls Try.prog 158 #[.int .u32 v] w fun e w' => e = .returned (.bool (wfR v == 0)) ∧ Touch [] w w' := by
  go_enter Try.func158, Try.ntmps158
  go_wp2_with fail
  refine (wf_readers v _ hv).mono ?_
  rintro e w1 ⟨rfl, rfl⟩
  go_wp2
  go_ret
  exact ⟨rfl, Touch.refl _ _⟩

theorem wf_may3 (v : Int) (w : World) (hv : 0 ≤ v ∧ v < 4294967296) : Calls Try.prog 159 #[.int .u32 v] w fun e w' => e = .returned (.bool (wfR v == 1)) ∧ Touch [] w w' := by
  go_enter Try.func159, Try.ntmps159
  go_wp2_with fail
  refine (wf_readers v _ hv).mono ?_
  rintro e w1 ⟨rfl, rfl⟩
  go_wp2
  go_ret
  exact ⟨rfl, Touch.refl _ _⟩

theorem wf_turn (x v : Int) {b : Nat} (w : World) (hv : 0 ≤ v ∧ v < 4294967296) (hb : Blk w b #[.int .u32 x]) :
    Calls Try.prog 105 #[.int .u32 v, .pointer (some ⟨b, 0, none⟩)] w fun e w' => e = .returned (.bool (wfT v == x && wfR v == 0)) ∧ Touch [] w w' := by
  obtain ⟨x0, x1, x2⟩ := hb.own
  have hg := fun W => diff_get8 v W hv
  rw [show v / 256 % 256 = wfT v from rfl] at hg
  have HG := Lib.hid hg
  clear hg
  cases ht : wfT v == x with
  | true =>
    go_enter Try.func105, Try.ntmps105
    go_wp2_with fail
    refine region_flat_call 1 rfl (by kernel_rfl) (by kernel_rfl) ?_
    simp only [List.take_succ_cons, List.take_zero, List.drop_succ_cons, List.drop_zero, probed, probes, List.nil_append]
    go_wp2_with fail
    rw [only_normal]
    refine half_static (.int .u32 (wfT v)) rfl rfl (enters_of Try.func104 (by kernel_rfl) rfl) (by simp [Act.eval]) (fun W _ => HG.out W) ?_
    simp only [probed, probes, List.nil_append]
    go_wp2_with fail
    refine (wf_readers v _ hv).mono ?_
    rintro e w1 ⟨rfl, rfl⟩
    go_wp2_with fail
    rw [only_normal]
    rename_i hK
    refine hK _ _ ?_
    go_wp2
    go_ret
    exact ⟨by simp, (Touch.refl _ _).drew⟩
  | false =>
    go_enter Try.func105, Try.ntmps105
    go_wp2_with fail
    refine region_flat_call 1 rfl (by kernel_rfl) (by kernel_rfl) ?_
    simp only [List.take_succ_cons, List.take_zero, List.drop_succ_cons, List.drop_zero, probed, probes, List.nil_append]
    go_wp2_with fail
    rw [only_normal]
    refine half_static (.int .u32 (wfT v)) rfl rfl (enters_of Try.func104 (by kernel_rfl) rfl) (by simp [Act.eval]) (fun W _ => HG.out W) ?_
    simp only [probed, probes, List.nil_append]
    go_wp2_with fail
    rw [only_normal]
    rename_i hK
    refine hK _ _ ?_
    go_wp2
    go_ret
    exact ⟨by simp, (Touch.refl _ _).drew⟩

set_option maxHeartbeats 800000 in
theorem wf_keeps {m r b : Nat} {nv : Value} {s : Rn} (v : Int) (w : World) (hv : 0 ≤ v ∧ v < 4294967296) (hr : Blk w r (rcells m s nv)) (hb : Blk w b #[.pointer (some ⟨r, 4, none⟩)]) :
    Calls Try.prog 102 #[.int .u32 v, .pointer (some ⟨b, 0, none⟩)] w fun e w' => e = .returned (.bool (wfCalm v)) ∧ Touch [r] w w' ∧ Blk w' r (rcells m (if wfCalm v then s.setA v else s) nv) := by
  obtain ⟨n, mode, task, ⟨op, line, fa, fb, st, ⟨on, wc, wi, hit⟩, ret⟩, ⟨ak, ac, ax, ay, ao⟩, notes, L⟩ := s
  obtain ⟨x0, x1, x2⟩ := hb.own
  cases hcm : wfCalm v with
  | true =>
    simp only [rcells, if_true, Rn.setA] at hr ⊢
    obtain ⟨y0, y1, y2⟩ := hr.own
    have HR := Lib.hid hr
    clear hr
    go_enter Try.func102, Try.ntmps102
    go_wp2_with fail
    refine (wf_calm v _ hv).mono ?_
    rw [hcm]
    rintro e w1 ⟨rfl, rfl⟩
    go_wp2_with fail
    refine (wf_calm v _ hv).mono ?_
    rw [hcm]
    rintro e w1 ⟨rfl, rfl⟩
    go_wp2
    go_ret
    refine ⟨rfl, (Touch.refl _ _).set (by simp) _, ?_⟩
    have := HR.out.set 6 (.int .u32 v)
    simp only [List.setIfInBounds_toArray, List.set_cons_zero, List.set_cons_succ] at this
    exact this
  | false =>
    simp only [rcells, Bool.false_eq_true, if_false] at hr ⊢
    have HR := Lib.hid hr
    clear hr
    go_enter Try.func102, Try.ntmps102
    go_wp2_with fail
    refine (wf_calm v _ hv).mono ?_
    rw [hcm]
    rintro e w1 ⟨rfl, rfl⟩
    go_wp2_with fail
    refine (wf_calm v _ hv).mono ?_
    rw [hcm]
    rintro e w1 ⟨rfl, rfl⟩
    go_wp2
    go_ret
    exact ⟨rfl, Touch.refl _ _, HR.out⟩

end Go.Proofs.Ytlndihdlodempaa.Z

/- Package wf: its lines. Written by genwf2.py. -/
set_option linter.unusedVariables false
set_option linter.unusedSimpArgs false
namespace Go.Proofs.Ytlndihdlodempaa.Z
open Go.RowKit

attribute [local go_sem ↓] Go.wp_at_zero Go.wp_at_succ

def wf10 (s : Rn) : Rn :=
  (wfCalmly s).note 2 1

set_option maxHeartbeats 1600000 in
theorem wf_10 {S0 : List Nat} {w0 w : World} {m a r : Nat} {rs : List Res} {s : Rn} (H : RunHas S0 w0 m a r rs s w) (hop : s.f.op = 1) (hl : s.f.line = 0) (hn : I64 s.n) (ha : 0 ≤ s.f.a ∧ s.f.a < 4294967296) (hc : s.notes.length ≤ 900) :
    Calls Try.prog 40 #[.pointer (some ⟨r, 0, none⟩)] w fun e w' => e = .returned (.tuple #[]) ∧ RunHas S0 w0 m a r rs (wf10 s) w' := by
  obtain ⟨z0, z2, z4, z5, z6, z7⟩ := H.facts hop hl rfl rfl
  have HC := Lib.hid hc
  have HA := Lib.hid ha
  have HN := Lib.hid hn
  have HH := Lib.hid (H.box rfl #[.pointer (some ⟨r, 4, none⟩)] 102)
  clear hc H hn ha
  unfold wf10
  go_enter Try.func40, Try.ntmps40
  go_wp2_with fail
  go_quiet (fail)
  have HW := HH.out.drewN nq
  clear z0 z2 z4 z5 z6 z7
  generalize w.heap.size = tb at HW ⊢
  generalize (World.drewN _ nq) = W at HW ⊢
  obtain ⟨z0, z2, z4, z5, z6, z7⟩ := HW.facts hop hl rfl rfl
  obtain ⟨u0, u1, u2⟩ := HW.first.own
  go_wp2_with fail
  refine (wf_calmly HW hop hl).mono ?_
  rintro e w1 ⟨rfl, H1⟩
  go_wp2_with fail
  refine (run_note H1 (by unfold wfCalmly; dsimp only; have := HC.out; split <;> exact Nat.le_trans this (by decide)) 2 1).mono ?_
  rintro e w2 ⟨rfl, H2⟩
  go_wp2_with fail
  go_end0
  exact ⟨rfl, H2.unbox⟩

def wf13 (s : Rn) : Rn :=
  wfCalmly s

set_option maxHeartbeats 1600000 in
theorem wf_13 {S0 : List Nat} {w0 w : World} {m a r : Nat} {rs : List Res} {s : Rn} (H : RunHas S0 w0 m a r rs s w) (hop : s.f.op = 1) (hl : s.f.line = 3) (hn : I64 s.n) (ha : 0 ≤ s.f.a ∧ s.f.a < 4294967296) (hc : s.notes.length ≤ 900) :
    Calls Try.prog 40 #[.pointer (some ⟨r, 0, none⟩)] w fun e w' => e = .returned (.tuple #[]) ∧ RunHas S0 w0 m a r rs (wf13 s) w' := by
  obtain ⟨z0, z2, z4, z5, z6, z7⟩ := H.facts hop hl rfl rfl
  have HC := Lib.hid hc
  have HA := Lib.hid ha
  have HN := Lib.hid hn
  have HH := Lib.hid (H.box rfl #[.pointer (some ⟨r, 4, none⟩)] 102)
  clear hc H hn ha
  unfold wf13
  go_enter Try.func40, Try.ntmps40
  go_wp2_with fail
  go_quiet (fail)
  have HW := HH.out.drewN nq
  clear z0 z2 z4 z5 z6 z7
  generalize w.heap.size = tb at HW ⊢
  generalize (World.drewN _ nq) = W at HW ⊢
  obtain ⟨z0, z2, z4, z5, z6, z7⟩ := HW.facts hop hl rfl rfl
  obtain ⟨u0, u1, u2⟩ := HW.first.own
  go_wp2_with fail
  refine (wf_calmly HW hop hl).mono ?_
  rintro e w1 ⟨rfl, H1⟩
  go_wp2_with fail
  go_end0
  exact ⟨rfl, H1.unbox⟩

def wf11 (s : Rn) : Rn :=
  if casB s.L 0 s.f.a ((s.f.a + 1) % 4294967296) then (s.did (doA s.L ⟨5, 0, s.f.a, (s.f.a + 1) % 4294967296, 0⟩)).wends false [4] else (s.did (doA s.L ⟨5, 0, s.f.a, (s.f.a + 1) % 4294967296, 0⟩)).goto 3

set_option maxHeartbeats 1600000 in
theorem wf_11 {S0 : List Nat} {w0 w : World} {m a r : Nat} {rs : List Res} {s : Rn} (H : RunHas S0 w0 m a r rs s w) (hop : s.f.op = 1) (hl : s.f.line = 1) (hn : I64 s.n) (ha : 0 ≤ s.f.a ∧ s.f.a < 4294967296) (hc : s.notes.length ≤ 900) :
    Calls Try.prog 40 #[.pointer (some ⟨r, 0, none⟩)] w fun e w' => e = .returned (.tuple #[]) ∧ RunHas S0 w0 m a r rs (wf11 s) w' := by
  obtain ⟨z0, z2, z4, z5, z6, z7⟩ := H.facts hop hl rfl rfl
  have HC := Lib.hid hc
  have HA := Lib.hid ha
  have HN := Lib.hid hn
  have HH := Lib.hid (H.box rfl #[.pointer (some ⟨r, 4, none⟩)] 102)
  clear hc H hn ha
  unfold wf11
  have hcas := fun W rs (H : RunHas S0 w0 m a r rs s W) => rn_cas H 0 s.f.a ((s.f.a + 1) % 4294967296) HA.out (by have := HA.out; omega)
  cases hb : casB s.L 0 s.f.a ((s.f.a + 1) % 4294967296) with
  | true =>
    rw [hb] at hcas
    simp only [if_true]
    have HCAS := Lib.hid hcas
    clear hcas hb
    go_enter Try.func40, Try.ntmps40
    go_wp2_with fail
    go_quiet (fail)
    have HW := HH.out.drewN nq
    clear z0 z2 z4 z5 z6 z7
    generalize w.heap.size = tb at HW ⊢
    generalize (World.drewN _ nq) = W at HW ⊢
    obtain ⟨z0, z2, z4, z5, z6, z7⟩ := HW.facts hop hl rfl rfl
    obtain ⟨u0, u1, u2⟩ := HW.first.own
    go_wp2_with fail
    refine region_flat (by kernel_rfl) (by kernel_rfl) ?_
    simp only [probed, probes, List.nil_append, List.cons_append, probe]
    go_wp2_with fail
    refine (HCAS.out _ _ HW.drew).mono ?_
    rintro e w1 ⟨rfl, H1⟩
    go_wp2_with fail
    rw [only_normal]
    rename_i hK
    refine hK _ _ ?_
    clear hK
    go_wp2_with fail
    refine (wf_end (l := [4]) (H1.box rfl _ _) rfl (by have := HC.out; first | exact Nat.le_trans this (by decide) | (simp [List.length_cons, Rn.note, Rn.did, Rn.setA, Rn.setB, Rn.waited, Rn.goto, Rn.noted]; omega)) false).mono ?_
    rintro e w8 ⟨rfl, H8⟩
    go_wp2_with fail
    go_end0
    exact ⟨rfl, H8.unbox.unbox⟩
  | false =>
    rw [hb] at hcas
    simp only [Bool.false_eq_true, if_false]
    have HCAS := Lib.hid hcas
    clear hcas hb
    go_enter Try.func40, Try.ntmps40
    go_wp2_with fail
    go_quiet (fail)
    have HW := HH.out.drewN nq
    clear z0 z2 z4 z5 z6 z7
    generalize w.heap.size = tb at HW ⊢
    generalize (World.drewN _ nq) = W at HW ⊢
    obtain ⟨z0, z2, z4, z5, z6, z7⟩ := HW.facts hop hl rfl rfl
    obtain ⟨u0, u1, u2⟩ := HW.first.own
    go_wp2_with fail
    refine region_flat (by kernel_rfl) (by kernel_rfl) ?_
    simp only [probed, probes, List.nil_append, List.cons_append, probe]
    go_wp2_with fail
    refine (HCAS.out _ _ HW.drew).mono ?_
    rintro e w1 ⟨rfl, H1⟩
    go_wp2_with fail
    rw [only_normal]
    rename_i hK
    refine hK _ _ ?_
    clear hK
    go_wp2_with fail
    refine (rn_go H1 3).mono ?_
    rintro e w2 ⟨rfl, H2⟩
    go_wp2_with fail
    go_end0
    exact ⟨rfl, H2.unbox⟩

def wf12 (s : Rn) : Rn :=
  let s1 := (s.keep (waitA s.L s.n s.mode s.task s.f.st 0 wfCalm)).waited (waitA s.L s.n s.mode s.task s.f.st 0 wfCalm)
  if (waitA s.L s.n s.mode s.task s.f.st 0 wfCalm).done then s1.goto 1 else s1

set_option maxHeartbeats 1600000 in
theorem wf_12 {S0 : List Nat} {w0 w : World} {m a r : Nat} {rs : List Res} {s : Rn} (H : RunHas S0 w0 m a r rs s w) (hop : s.f.op = 1) (hl : s.f.line = 2) (hn : I64 s.n) (ha : 0 ≤ s.f.a ∧ s.f.a < 4294967296) (hc : s.notes.length ≤ 900) :
    Calls Try.prog 40 #[.pointer (some ⟨r, 0, none⟩)] w fun e w' => e = .returned (.tuple #[]) ∧ RunHas S0 w0 m a r rs (wf12 s) w' := by
  obtain ⟨z0, z2, z4, z5, z6, z7⟩ := H.facts hop hl rfl rfl
  have HC := Lib.hid hc
  have HA := Lib.hid ha
  have HN := Lib.hid hn
  have HH := Lib.hid (H.box rfl #[.pointer (some ⟨r, 4, none⟩)] 102)
  clear hc H hn ha
  unfold wf12
  have hwt := fun (tb : Nat) W (H : RunHas S0 w0 m a r (.blk tb #[.pointer (some ⟨r, 4, none⟩)] :: rs) s W) => rn_wait_keep H HN.out 0 102 #[] #[.pointer (some ⟨tb, 0, none⟩)] wfCalm (enters_of Try.func102 (by kernel_rfl) rfl) (fun W nv v h0 h1 HX => wf_keeps v W ⟨h0, h1⟩ HX.blk1 (HX.at_ 3 rfl))
  generalize (waitA s.L s.n s.mode s.task s.f.st 0 wfCalm).seen = sn at hwt
  cases hd : (waitA s.L s.n s.mode s.task s.f.st 0 wfCalm).done <;> rw [hd] at hwt <;> simp only [if_true, Bool.false_eq_true, if_false] <;> (have HWT := Lib.hid hwt) <;> clear hwt hd
  · go_enter Try.func40, Try.ntmps40
    go_wp2_with fail
    go_quiet (fail)
    have HW := HH.out.drewN nq
    clear z0 z2 z4 z5 z6 z7
    generalize w.heap.size = tb at HW ⊢
    generalize (World.drewN _ nq) = W at HW ⊢
    obtain ⟨z0, z2, z4, z5, z6, z7⟩ := HW.facts hop hl rfl rfl
    obtain ⟨u0, u1, u2⟩ := HW.first.own
    go_wp2_with fail
    refine (HWT.out _ _ HW).mono ?_
    rintro e w1 ⟨rfl, H1⟩
    go_wp2_with fail
    go_end0
    exact ⟨rfl, H1.unbox⟩
  · go_enter Try.func40, Try.ntmps40
    go_wp2_with fail
    go_quiet (fail)
    have HW := HH.out.drewN nq
    clear z0 z2 z4 z5 z6 z7
    generalize w.heap.size = tb at HW ⊢
    generalize (World.drewN _ nq) = W at HW ⊢
    obtain ⟨z0, z2, z4, z5, z6, z7⟩ := HW.facts hop hl rfl rfl
    obtain ⟨u0, u1, u2⟩ := HW.first.own
    go_wp2_with fail
    refine (HWT.out _ _ HW).mono ?_
    rintro e w1 ⟨rfl, H1⟩
    go_wp2_with fail
    refine (rn_go H1 1).mono ?_
    rintro e w2 ⟨rfl, H2⟩
    go_wp2_with fail
    go_end0
    exact ⟨rfl, H2.unbox⟩

def wf20 (s : Rn) : Rn :=
  (s.did (doA s.L ⟨3, 0, 4294967295, 0, 0⟩)).wends true [6]

set_option maxHeartbeats 1600000 in
theorem wf_20 {S0 : List Nat} {w0 w : World} {m a r : Nat} {rs : List Res} {s : Rn} (H : RunHas S0 w0 m a r rs s w) (hop : s.f.op = 2) (hl : s.f.line = 0) (hn : I64 s.n) (ha : 0 ≤ s.f.a ∧ s.f.a < 4294967296) (hc : s.notes.length ≤ 900) :
    Calls Try.prog 40 #[.pointer (some ⟨r, 0, none⟩)] w fun e w' => e = .returned (.tuple #[]) ∧ RunHas S0 w0 m a r rs (wf20 s) w' := by
  obtain ⟨z0, z2, z4, z5, z6, z7⟩ := H.facts hop hl rfl rfl
  have HC := Lib.hid hc
  have HA := Lib.hid ha
  have HN := Lib.hid hn
  have HH := Lib.hid (H.box rfl #[.pointer (some ⟨r, 4, none⟩)] 102)
  clear hc H hn ha
  unfold wf20
  go_enter Try.func40, Try.ntmps40
  go_wp2_with fail
  go_quiet (fail)
  have HW := HH.out.drewN nq
  clear z0 z2 z4 z5 z6 z7
  generalize w.heap.size = tb at HW ⊢
  generalize (World.drewN _ nq) = W at HW ⊢
  obtain ⟨z0, z2, z4, z5, z6, z7⟩ := HW.facts hop hl rfl rfl
  obtain ⟨u0, u1, u2⟩ := HW.first.own
  go_wp2_with fail
  refine (rn_add HW 0 4294967295 (by decide)).mono ?_
  rintro e w1 ⟨rfl, H1⟩
  go_wp2_with fail
  refine (wf_end (l := [6]) (H1.box rfl _ _) rfl (by have := HC.out; first | exact Nat.le_trans this (by decide) | (simp [List.length_cons, Rn.note, Rn.did, Rn.setA, Rn.setB, Rn.waited, Rn.goto, Rn.noted]; omega)) true).mono ?_
  rintro e w8 ⟨rfl, H8⟩
  go_wp2_with fail
  go_end0
  exact ⟨rfl, H8.unbox.unbox⟩

def wf30 (s : Rn) : Rn :=
  (((s.did (doA s.L ⟨3, 0, 65536, 0, 0⟩)).setA (doA s.L ⟨3, 0, 65536, 0, 0⟩).1.old).note 2 2).goto 1

set_option maxHeartbeats 1600000 in
theorem wf_30 {S0 : List Nat} {w0 w : World} {m a r : Nat} {rs : List Res} {s : Rn} (H : RunHas S0 w0 m a r rs s w) (hop : s.f.op = 3) (hl : s.f.line = 0) (hn : I64 s.n) (ha : 0 ≤ s.f.a ∧ s.f.a < 4294967296) (hc : s.notes.length ≤ 900) :
    Calls Try.prog 40 #[.pointer (some ⟨r, 0, none⟩)] w fun e w' => e = .returned (.tuple #[]) ∧ RunHas S0 w0 m a r rs (wf30 s) w' := by
  obtain ⟨z0, z2, z4, z5, z6, z7⟩ := H.facts hop hl rfl rfl
  have HC := Lib.hid hc
  have HA := Lib.hid ha
  have HN := Lib.hid hn
  have HH := Lib.hid (H.box rfl #[.pointer (some ⟨r, 4, none⟩)] 102)
  clear hc H hn ha
  unfold wf30
  go_enter Try.func40, Try.ntmps40
  go_wp2_with fail
  go_quiet (fail)
  have HW := HH.out.drewN nq
  clear z0 z2 z4 z5 z6 z7
  generalize w.heap.size = tb at HW ⊢
  generalize (World.drewN _ nq) = W at HW ⊢
  obtain ⟨z0, z2, z4, z5, z6, z7⟩ := HW.facts hop hl rfl rfl
  obtain ⟨u0, u1, u2⟩ := HW.first.own
  go_wp2_with fail
  have hne := HW.ne_first
  have hd : ∀ i, W.drew.cell? ⟨tb, i, none⟩ = (#[.pointer (some ⟨r, 4, none⟩)] : Array Value)[i]? := u1
  have HADD := Lib.hid (fun W rs (H : RunHas S0 w0 m a r rs s W) => rn_add H 0 65536 (by decide))
  go_region_held3 (fun w' => ∀ i, w'.cell? ⟨tb, i, none⟩ = (#[.pointer (some ⟨r, 4, none⟩)] : Array Value)[i]?)
    (first | assumption | (intro i; rw [World.cell?_setCell_far _ _ _ _ (by exact hne)]; apply_assumption) | (intro i; apply_assumption))
    (first | (go_at_call 54; (with_reducible refine (HADD.out _ _ HW.drew).mono ?_); rintro e w1 ⟨rfl, H1⟩; obtain ⟨v0, v1, v2⟩ := H1.first.own; obtain ⟨x0, x2, x4, x5, x6, x7⟩ := H1.facts hop hl rfl rfl))
  have H2 := H1.setA (doA s.L ⟨3, 0, 65536, 0, 0⟩).1.old
  go_wp2_with fail
  refine (run_note H2 (by have := HC.out; first | exact Nat.le_trans this (by decide) | (simp [Rn.note, Rn.did, Rn.setA, Rn.setB, Rn.waited, Rn.goto, Rn.noted]; omega)) 2 2).mono ?_
  rintro e w3 ⟨rfl, H3⟩
  go_wp2_with fail
  refine (rn_go H3 1).mono ?_
  rintro e w4 ⟨rfl, H4⟩
  go_wp2_with fail
  go_end0
  exact ⟨rfl, H4.unbox⟩

def wf31 (s : Rn) : Rn :=
  let s1 := s.waited (waitA s.L s.n s.mode s.task s.f.st 0 (fun v => wfT v == wfG s.f.a && wfR v == 0))
  let s2 := if (waitA s.L s.n s.mode s.task s.f.st 0 (fun v => wfT v == wfG s.f.a && wfR v == 0)).seen then s1.note 4 0 else s1
  if (waitA s.L s.n s.mode s.task s.f.st 0 (fun v => wfT v == wfG s.f.a && wfR v == 0)).done then s2.fin true else s2

set_option maxHeartbeats 1600000 in
theorem wf_31 {S0 : List Nat} {w0 w : World} {m a r : Nat} {rs : List Res} {s : Rn} (H : RunHas S0 w0 m a r rs s w) (hop : s.f.op = 3) (hl : s.f.line = 1) (hn : I64 s.n) (ha : 0 ≤ s.f.a ∧ s.f.a < 4294967296) (hc : s.notes.length ≤ 900) :
    Calls Try.prog 40 #[.pointer (some ⟨r, 0, none⟩)] w fun e w' => e = .returned (.tuple #[]) ∧ RunHas S0 w0 m a r rs (wf31 s) w' := by
  obtain ⟨z0, z2, z4, z5, z6, z7⟩ := H.facts hop hl rfl rfl
  have HC := Lib.hid hc
  have HA := Lib.hid ha
  have HN := Lib.hid hn
  have HH := Lib.hid (H.box rfl #[.pointer (some ⟨r, 4, none⟩)] 102)
  clear hc H hn ha
  unfold wf31
  have hwt := fun (t2 : Nat) W rs (H : RunHas S0 w0 m a r (.blk t2 #[.int .u32 (wfG s.f.a)] :: rs) s W) => rn_wait H HN.out 0 105 #[] #[.pointer (some ⟨t2, 0, none⟩)] (fun v => wfT v == wfG s.f.a && wfR v == 0) (enters_of Try.func105 (by kernel_rfl) rfl) (fun W v h0 h1 H => wf_turn (wfG s.f.a) v W ⟨h0, h1⟩ H.first)
  have hgv := fun W => diff_get16 s.f.a W HA.out
  rw [show s.f.a / 65536 % 256 = wfG s.f.a from rfl] at hgv
  have HGV := Lib.hid hgv
  clear hgv
  cases hs : (waitA s.L s.n s.mode s.task s.f.st 0 (fun v => wfT v == wfG s.f.a && wfR v == 0)).seen <;> cases hd : (waitA s.L s.n s.mode s.task s.f.st 0 (fun v => wfT v == wfG s.f.a && wfR v == 0)).done <;> rw [hs, hd] at hwt <;> simp only [if_true, Bool.false_eq_true, if_false] <;> (have HWT := Lib.hid hwt) <;> clear hwt hs hd
  · go_enter Try.func40, Try.ntmps40
    go_wp2_with fail
    go_quiet (fail)
    have HW := HH.out.drewN nq
    clear z0 z2 z4 z5 z6 z7
    generalize w.heap.size = tb at HW ⊢
    generalize (World.drewN _ nq) = W at HW ⊢
    obtain ⟨z0, z2, z4, z5, z6, z7⟩ := HW.facts hop hl rfl rfl
    obtain ⟨u0, u1, u2⟩ := HW.first.own
    go_wp2_with fail
    refine (HGV.out _).mono ?_
    rintro e w9 ⟨rfl, rfl⟩
    go_wp2_with fail
    refine (HWT.out _ _ _ (HW.box rfl _ _)).mono ?_
    rintro e w1 ⟨rfl, H1⟩
    go_wp2_with fail
    go_end0
    exact ⟨rfl, H1.unbox.unbox⟩
  · go_enter Try.func40, Try.ntmps40
    go_wp2_with fail
    go_quiet (fail)
    have HW := HH.out.drewN nq
    clear z0 z2 z4 z5 z6 z7
    generalize w.heap.size = tb at HW ⊢
    generalize (World.drewN _ nq) = W at HW ⊢
    obtain ⟨z0, z2, z4, z5, z6, z7⟩ := HW.facts hop hl rfl rfl
    obtain ⟨u0, u1, u2⟩ := HW.first.own
    go_wp2_with fail
    refine (HGV.out _).mono ?_
    rintro e w9 ⟨rfl, rfl⟩
    go_wp2_with fail
    refine (HWT.out _ _ _ (HW.box rfl _ _)).mono ?_
    rintro e w1 ⟨rfl, H1⟩
    go_wp2_with fail
    refine (rn_end H1 true).mono ?_
    rintro e w2 ⟨rfl, H2⟩
    go_wp2_with fail
    go_end0
    exact ⟨rfl, H2.unbox.unbox⟩
  · go_enter Try.func40, Try.ntmps40
    go_wp2_with fail
    go_quiet (fail)
    have HW := HH.out.drewN nq
    clear z0 z2 z4 z5 z6 z7
    generalize w.heap.size = tb at HW ⊢
    generalize (World.drewN _ nq) = W at HW ⊢
    obtain ⟨z0, z2, z4, z5, z6, z7⟩ := HW.facts hop hl rfl rfl
    obtain ⟨u0, u1, u2⟩ := HW.first.own
    go_wp2_with fail
    refine (HGV.out _).mono ?_
    rintro e w9 ⟨rfl, rfl⟩
    go_wp2_with fail
    refine (HWT.out _ _ _ (HW.box rfl _ _)).mono ?_
    rintro e w1 ⟨rfl, H1⟩
    go_wp2_with fail
    refine (run_note H1 (by have := HC.out; first | exact Nat.le_trans this (by decide) | (simp [Rn.note, Rn.did, Rn.setA, Rn.setB, Rn.waited, Rn.goto, Rn.noted]; omega)) 4 0).mono ?_
    rintro e w2 ⟨rfl, H2⟩
    go_wp2_with fail
    go_end0
    exact ⟨rfl, H2.unbox.unbox⟩
  · go_enter Try.func40, Try.ntmps40
    go_wp2_with fail
    go_quiet (fail)
    have HW := HH.out.drewN nq
    clear z0 z2 z4 z5 z6 z7
    generalize w.heap.size = tb at HW ⊢
    generalize (World.drewN _ nq) = W at HW ⊢
    obtain ⟨z0, z2, z4, z5, z6, z7⟩ := HW.facts hop hl rfl rfl
    obtain ⟨u0, u1, u2⟩ := HW.first.own
    go_wp2_with fail
    refine (HGV.out _).mono ?_
    rintro e w9 ⟨rfl, rfl⟩
    go_wp2_with fail
    refine (HWT.out _ _ _ (HW.box rfl _ _)).mono ?_
    rintro e w1 ⟨rfl, H1⟩
    go_wp2_with fail
    refine (run_note H1 (by have := HC.out; first | exact Nat.le_trans this (by decide) | (simp [Rn.note, Rn.did, Rn.setA, Rn.setB, Rn.waited, Rn.goto, Rn.noted]; omega)) 4 0).mono ?_
    rintro e w2 ⟨rfl, H2⟩
    go_wp2_with fail
    refine (rn_end H2 true).mono ?_
    rintro e w3 ⟨rfl, H3⟩
    go_wp2_with fail
    go_end0
    exact ⟨rfl, H3.unbox.unbox⟩

end Go.Proofs.Ytlndihdlodempaa.Z

/- Package wf: the lines of who leaves, and of a try. Written by genwf2.py. -/
set_option linter.unusedVariables false
set_option linter.unusedSimpArgs false
namespace Go.Proofs.Ytlndihdlodempaa.Z
open Go.RowKit

attribute [local go_sem ↓] Go.wp_at_zero Go.wp_at_succ

def wf40 (s : Rn) : Rn :=
  ((s.did (doA s.L ⟨1, 0, 0, 0, 0⟩)).setA (doA s.L ⟨1, 0, 0, 0, 0⟩).1.old).goto 1

set_option maxHeartbeats 1600000 in
theorem wf_40 {S0 : List Nat} {w0 w : World} {m a r : Nat} {rs : List Res} {s : Rn} (H : RunHas S0 w0 m a r rs s w) (hop : s.f.op = 4) (hl : s.f.line = 0) (hn : I64 s.n) (ha : 0 ≤ s.f.a ∧ s.f.a < 4294967296) (hc : s.notes.length ≤ 900) :
    Calls Try.prog 107 #[.pointer (some ⟨r, 0, none⟩)] w fun e w' => e = .returned (.tuple #[]) ∧ RunHas S0 w0 m a r rs (wf40 s) w' := by
  obtain ⟨z0, z2, z4, z5, z6, z7⟩ := H.facts hop hl rfl rfl
  have HC := Lib.hid hc
  have HA := Lib.hid ha
  have HN := Lib.hid hn
  have HH := Lib.hid H
  clear hc H hn ha
  unfold wf40
  go_enter Try.func107, Try.ntmps107
  go_wp2_with fail
  go_quiet (fail)
  have HW := HH.out.drewN nq
  clear z0 z2 z4 z5 z6 z7
  generalize w.drewN nq = W at HW ⊢
  obtain ⟨z0, z2, z4, z5, z6, z7⟩ := HW.facts hop hl rfl rfl
  go_wp2_with fail
  refine (rn_load HW 0).mono ?_
  rintro e w1 ⟨rfl, H1⟩
  obtain ⟨x0, x2, x4, x5, x6, x7⟩ := H1.facts hop hl rfl rfl
  go_wp2_with fail
  refine (rn_go (H1.setA (doA s.L ⟨1, 0, 0, 0, 0⟩).1.old) 1).mono ?_
  rintro e w2 ⟨rfl, H2⟩
  go_wp2_with fail
  go_end0
  exact ⟨rfl, H2⟩

def wf80 (s : Rn) : Rn :=
  ((s.did (doA s.L ⟨1, 0, 0, 0, 0⟩)).setA (doA s.L ⟨1, 0, 0, 0, 0⟩).1.old).goto 1

set_option maxHeartbeats 1600000 in
theorem wf_80 {S0 : List Nat} {w0 w : World} {m a r : Nat} {rs : List Res} {s : Rn} (H : RunHas S0 w0 m a r rs s w) (hop : s.f.op = 8) (hl : s.f.line = 0) (hn : I64 s.n) (ha : 0 ≤ s.f.a ∧ s.f.a < 4294967296) (hc : s.notes.length ≤ 900) :
    Calls Try.prog 107 #[.pointer (some ⟨r, 0, none⟩)] w fun e w' => e = .returned (.tuple #[]) ∧ RunHas S0 w0 m a r rs (wf80 s) w' := by
  obtain ⟨z0, z2, z4, z5, z6, z7⟩ := H.facts hop hl rfl rfl
  have HC := Lib.hid hc
  have HA := Lib.hid ha
  have HN := Lib.hid hn
  have HH := Lib.hid H
  clear hc H hn ha
  unfold wf80
  go_enter Try.func107, Try.ntmps107
  go_wp2_with fail
  go_quiet (fail)
  have HW := HH.out.drewN nq
  clear z0 z2 z4 z5 z6 z7
  generalize w.drewN nq = W at HW ⊢
  obtain ⟨z0, z2, z4, z5, z6, z7⟩ := HW.facts hop hl rfl rfl
  go_wp2_with fail
  refine (rn_load HW 0).mono ?_
  rintro e w1 ⟨rfl, H1⟩
  obtain ⟨x0, x2, x4, x5, x6, x7⟩ := H1.facts hop hl rfl rfl
  go_wp2_with fail
  refine (rn_go (H1.setA (doA s.L ⟨1, 0, 0, 0, 0⟩).1.old) 1).mono ?_
  rintro e w2 ⟨rfl, H2⟩
  go_wp2_with fail
  go_end0
  exact ⟨rfl, H2⟩

def wf41 (s : Rn) : Rn :=
  (s.did (doA s.L ⟨3, 0, bump8 s.f.a, 0, 0⟩)).wends true [7, 8]

set_option maxHeartbeats 1600000 in
theorem wf_41 {S0 : List Nat} {w0 w : World} {m a r : Nat} {rs : List Res} {s : Rn} (H : RunHas S0 w0 m a r rs s w) (hop : s.f.op = 4) (hl : s.f.line = 1) (hn : I64 s.n) (ha : 0 ≤ s.f.a ∧ s.f.a < 4294967296) (hc : s.notes.length ≤ 900) :
    Calls Try.prog 107 #[.pointer (some ⟨r, 0, none⟩)] w fun e w' => e = .returned (.tuple #[]) ∧ RunHas S0 w0 m a r rs (wf41 s) w' := by
  obtain ⟨z0, z2, z4, z5, z6, z7⟩ := H.facts hop hl rfl rfl
  have HC := Lib.hid hc
  have HA := Lib.hid ha
  have HN := Lib.hid hn
  have HH := Lib.hid H
  clear hc H hn ha
  unfold wf41
  go_enter Try.func107, Try.ntmps107
  go_wp2_with fail
  go_quiet (fail)
  have HW := HH.out.drewN nq
  clear z0 z2 z4 z5 z6 z7
  generalize w.drewN nq = W at HW ⊢
  obtain ⟨z0, z2, z4, z5, z6, z7⟩ := HW.facts hop hl rfl rfl
  go_wp2_with fail
  refine (wf_next _ _ HA.out).mono ?_
  rintro e w9 ⟨rfl, rfl⟩
  go_wp2_with fail
  refine (rn_add HW 0 (bump8 s.f.a) (by have : 0 ≤ bump8 s.f.a ∧ bump8 s.f.a < 4294967296 := (by unfold bump8; omega); omega)).mono ?_
  rintro e w1 ⟨rfl, H1⟩
  go_wp2_with fail
  refine (wf_end (l := [7, 8]) (H1.box rfl _ _) rfl (by have := HC.out; first | exact Nat.le_trans this (by decide) | (simp [List.length_cons, Rn.note, Rn.did, Rn.setA, Rn.setB, Rn.waited, Rn.goto, Rn.noted]; omega)) true).mono ?_
  rintro e w8 ⟨rfl, H8⟩
  go_wp2_with fail
  go_end0
  exact ⟨rfl, H8.unbox⟩

def wf81 (s : Rn) : Rn :=
  (s.did (doA s.L ⟨3, 0, ((bump8 s.f.a + 1) % 4294967296), 0, 0⟩)).wends true [10]

set_option maxHeartbeats 1600000 in
theorem wf_81 {S0 : List Nat} {w0 w : World} {m a r : Nat} {rs : List Res} {s : Rn} (H : RunHas S0 w0 m a r rs s w) (hop : s.f.op = 8) (hl : s.f.line = 1) (hn : I64 s.n) (ha : 0 ≤ s.f.a ∧ s.f.a < 4294967296) (hc : s.notes.length ≤ 900) :
    Calls Try.prog 107 #[.pointer (some ⟨r, 0, none⟩)] w fun e w' => e = .returned (.tuple #[]) ∧ RunHas S0 w0 m a r rs (wf81 s) w' := by
  obtain ⟨z0, z2, z4, z5, z6, z7⟩ := H.facts hop hl rfl rfl
  have HC := Lib.hid hc
  have HA := Lib.hid ha
  have HN := Lib.hid hn
  have HH := Lib.hid H
  clear hc H hn ha
  unfold wf81
  go_enter Try.func107, Try.ntmps107
  go_wp2_with fail
  go_quiet (fail)
  have HW := HH.out.drewN nq
  clear z0 z2 z4 z5 z6 z7
  generalize w.drewN nq = W at HW ⊢
  obtain ⟨z0, z2, z4, z5, z6, z7⟩ := HW.facts hop hl rfl rfl
  go_wp2_with fail
  refine (wf_next _ _ HA.out).mono ?_
  rintro e w9 ⟨rfl, rfl⟩
  go_wp2_with fail
  refine (rn_add HW 0 (((bump8 s.f.a + 1) % 4294967296)) (by have : 0 ≤ bump8 s.f.a ∧ bump8 s.f.a < 4294967296 := (by unfold bump8; omega); omega)).mono ?_
  rintro e w1 ⟨rfl, H1⟩
  go_wp2_with fail
  refine (wf_end (l := [10]) (H1.box rfl _ _) rfl (by have := HC.out; first | exact Nat.le_trans this (by decide) | (simp [List.length_cons, Rn.note, Rn.did, Rn.setA, Rn.setB, Rn.waited, Rn.goto, Rn.noted]; omega)) true).mono ?_
  rintro e w8 ⟨rfl, H8⟩
  go_wp2_with fail
  go_end0
  exact ⟨rfl, H8.unbox⟩

def wf50 (s : Rn) : Rn :=
  s.wchosen (fun _ => true)

set_option maxHeartbeats 1600000 in
theorem wf_50 {S0 : List Nat} {w0 w : World} {m a r : Nat} {rs : List Res} {s : Rn} (H : RunHas S0 w0 m a r rs s w) (hop : s.f.op = 5) (hl : s.f.line = 0) (hn : I64 s.n) (ha : 0 ≤ s.f.a ∧ s.f.a < 4294967296) (hc : s.notes.length ≤ 900) :
    Calls Try.prog 107 #[.pointer (some ⟨r, 0, none⟩)] w fun e w' => e = .returned (.tuple #[]) ∧ RunHas S0 w0 m a r rs (wf50 s) w' := by
  obtain ⟨z0, z2, z4, z5, z6, z7⟩ := H.facts hop hl rfl rfl
  have HC := Lib.hid hc
  have HA := Lib.hid ha
  have HN := Lib.hid hn
  have HH := Lib.hid H
  clear hc H hn ha
  unfold wf50
  go_enter Try.func107, Try.ntmps107
  go_wp2_with fail
  go_quiet (fail)
  have HW := HH.out.drewN nq
  clear z0 z2 z4 z5 z6 z7
  generalize w.drewN nq = W at HW ⊢
  obtain ⟨z0, z2, z4, z5, z6, z7⟩ := HW.facts hop hl rfl rfl
  go_wp2_with fail
  refine (wf_choose HW HC.out hop hl 157 #[] #[] (fun _ => true) (enters_of Try.func157 (by kernel_rfl) rfl) (fun W v s' hv _ => wf_may1 v W hv)).mono ?_
  rintro e w1 ⟨rfl, H1⟩
  go_wp2_with fail
  go_end0
  exact ⟨rfl, H1⟩

def wf60 (s : Rn) : Rn :=
  s.wchosen (fun v => wfR v == 0)

set_option maxHeartbeats 1600000 in
theorem wf_60 {S0 : List Nat} {w0 w : World} {m a r : Nat} {rs : List Res} {s : Rn} (H : RunHas S0 w0 m a r rs s w) (hop : s.f.op = 6) (hl : s.f.line = 0) (hn : I64 s.n) (ha : 0 ≤ s.f.a ∧ s.f.a < 4294967296) (hc : s.notes.length ≤ 900) :
    Calls Try.prog 107 #[.pointer (some ⟨r, 0, none⟩)] w fun e w' => e = .returned (.tuple #[]) ∧ RunHas S0 w0 m a r rs (wf60 s) w' := by
  obtain ⟨z0, z2, z4, z5, z6, z7⟩ := H.facts hop hl rfl rfl
  have HC := Lib.hid hc
  have HA := Lib.hid ha
  have HN := Lib.hid hn
  have HH := Lib.hid H
  clear hc H hn ha
  unfold wf60
  go_enter Try.func107, Try.ntmps107
  go_wp2_with fail
  go_quiet (fail)
  have HW := HH.out.drewN nq
  clear z0 z2 z4 z5 z6 z7
  generalize w.drewN nq = W at HW ⊢
  obtain ⟨z0, z2, z4, z5, z6, z7⟩ := HW.facts hop hl rfl rfl
  go_wp2_with fail
  refine (wf_choose HW HC.out hop hl 158 #[] #[] (fun v => wfR v == 0) (enters_of Try.func158 (by kernel_rfl) rfl) (fun W v s' hv _ => wf_may2 v W hv)).mono ?_
  rintro e w1 ⟨rfl, H1⟩
  go_wp2_with fail
  go_end0
  exact ⟨rfl, H1⟩

def wf70 (s : Rn) : Rn :=
  s.wchosen (fun v => wfR v == 1)

set_option maxHeartbeats 1600000 in
theorem wf_70 {S0 : List Nat} {w0 w : World} {m a r : Nat} {rs : List Res} {s : Rn} (H : RunHas S0 w0 m a r rs s w) (hop : s.f.op = 7) (hl : s.f.line = 0) (hn : I64 s.n) (ha : 0 ≤ s.f.a ∧ s.f.a < 4294967296) (hc : s.notes.length ≤ 900) :
    Calls Try.prog 107 #[.pointer (some ⟨r, 0, none⟩)] w fun e w' => e = .returned (.tuple #[]) ∧ RunHas S0 w0 m a r rs (wf70 s) w' := by
  obtain ⟨z0, z2, z4, z5, z6, z7⟩ := H.facts hop hl rfl rfl
  have HC := Lib.hid hc
  have HA := Lib.hid ha
  have HN := Lib.hid hn
  have HH := Lib.hid H
  clear hc H hn ha
  unfold wf70
  go_enter Try.func107, Try.ntmps107
  go_wp2_with fail
  go_quiet (fail)
  have HW := HH.out.drewN nq
  clear z0 z2 z4 z5 z6 z7
  generalize w.drewN nq = W at HW ⊢
  obtain ⟨z0, z2, z4, z5, z6, z7⟩ := HW.facts hop hl rfl rfl
  go_wp2_with fail
  refine (wf_choose HW HC.out hop hl 159 #[] #[] (fun v => wfR v == 1) (enters_of Try.func159 (by kernel_rfl) rfl) (fun W v s' hv _ => wf_may3 v W hv)).mono ?_
  rintro e w1 ⟨rfl, H1⟩
  go_wp2_with fail
  go_end0
  exact ⟨rfl, H1⟩

def wf51 (s : Rn) : Rn :=
  s.wswapped 1 1 4

set_option maxHeartbeats 1600000 in
theorem wf_51 {S0 : List Nat} {w0 w : World} {m a r : Nat} {rs : List Res} {s : Rn} (H : RunHas S0 w0 m a r rs s w) (hop : s.f.op = 5) (hl : s.f.line = 1) (hn : I64 s.n) (ha : 0 ≤ s.f.a ∧ s.f.a < 4294967296) (hc : s.notes.length ≤ 900) :
    Calls Try.prog 107 #[.pointer (some ⟨r, 0, none⟩)] w fun e w' => e = .returned (.tuple #[]) ∧ RunHas S0 w0 m a r rs (wf51 s) w' := by
  obtain ⟨z0, z2, z4, z5, z6, z7⟩ := H.facts hop hl rfl rfl
  have HC := Lib.hid hc
  have HA := Lib.hid ha
  have HN := Lib.hid hn
  have HH := Lib.hid H
  clear hc H hn ha
  unfold wf51
  go_enter Try.func107, Try.ntmps107
  go_wp2_with fail
  go_quiet (fail)
  have HW := HH.out.drewN nq
  clear z0 z2 z4 z5 z6 z7
  generalize w.drewN nq = W at HW ⊢
  obtain ⟨z0, z2, z4, z5, z6, z7⟩ := HW.facts hop hl rfl rfl
  go_wp2_with fail
  refine (wf_swap HW HC.out hop hl HA.out 1 1 4 (by decide)).mono ?_
  rintro e w1 ⟨rfl, H1⟩
  go_wp2_with fail
  go_end0
  exact ⟨rfl, H1⟩

def wf61 (s : Rn) : Rn :=
  s.wswapped 65536 2 4

set_option maxHeartbeats 1600000 in
theorem wf_61 {S0 : List Nat} {w0 w : World} {m a r : Nat} {rs : List Res} {s : Rn} (H : RunHas S0 w0 m a r rs s w) (hop : s.f.op = 6) (hl : s.f.line = 1) (hn : I64 s.n) (ha : 0 ≤ s.f.a ∧ s.f.a < 4294967296) (hc : s.notes.length ≤ 900) :
    Calls Try.prog 107 #[.pointer (some ⟨r, 0, none⟩)] w fun e w' => e = .returned (.tuple #[]) ∧ RunHas S0 w0 m a r rs (wf61 s) w' := by
  obtain ⟨z0, z2, z4, z5, z6, z7⟩ := H.facts hop hl rfl rfl
  have HC := Lib.hid hc
  have HA := Lib.hid ha
  have HN := Lib.hid hn
  have HH := Lib.hid H
  clear hc H hn ha
  unfold wf61
  go_enter Try.func107, Try.ntmps107
  go_wp2_with fail
  go_quiet (fail)
  have HW := HH.out.drewN nq
  clear z0 z2 z4 z5 z6 z7
  generalize w.drewN nq = W at HW ⊢
  obtain ⟨z0, z2, z4, z5, z6, z7⟩ := HW.facts hop hl rfl rfl
  go_wp2_with fail
  refine (wf_swap HW HC.out hop hl HA.out 65536 2 4 (by decide)).mono ?_
  rintro e w1 ⟨rfl, H1⟩
  go_wp2_with fail
  go_end0
  exact ⟨rfl, H1⟩

def wf71 (s : Rn) : Rn :=
  s.wswapped 65535 0 9

set_option maxHeartbeats 1600000 in
theorem wf_71 {S0 : List Nat} {w0 w : World} {m a r : Nat} {rs : List Res} {s : Rn} (H : RunHas S0 w0 m a r rs s w) (hop : s.f.op = 7) (hl : s.f.line = 1) (hn : I64 s.n) (ha : 0 ≤ s.f.a ∧ s.f.a < 4294967296) (hc : s.notes.length ≤ 900) :
    Calls Try.prog 107 #[.pointer (some ⟨r, 0, none⟩)] w fun e w' => e = .returned (.tuple #[]) ∧ RunHas S0 w0 m a r rs (wf71 s) w' := by
  obtain ⟨z0, z2, z4, z5, z6, z7⟩ := H.facts hop hl rfl rfl
  have HC := Lib.hid hc
  have HA := Lib.hid ha
  have HN := Lib.hid hn
  have HH := Lib.hid H
  clear hc H hn ha
  unfold wf71
  go_enter Try.func107, Try.ntmps107
  go_wp2_with fail
  go_quiet (fail)
  have HW := HH.out.drewN nq
  clear z0 z2 z4 z5 z6 z7
  generalize w.drewN nq = W at HW ⊢
  obtain ⟨z0, z2, z4, z5, z6, z7⟩ := HW.facts hop hl rfl rfl
  go_wp2_with fail
  refine (wf_swap HW HC.out hop hl HA.out 65535 0 9 (by decide)).mono ?_
  rintro e w1 ⟨rfl, H1⟩
  go_wp2_with fail
  go_end0
  exact ⟨rfl, H1⟩

end Go.Proofs.Ytlndihdlodempaa.Z

/- A lock's operation by itself: steps of a run, counted. No program is in sight but the model's words. -/
set_option linter.unusedVariables false
set_option linter.unusedSimpArgs false
namespace Go.Proofs.Ytlndihdlodempaa.Z
open Go.RowKit

/-- A step under these lines. -/
def stepR (g : Rn → Rn) (s : Rn) : Rn := if s.f.wk.on then s.woke else g s.fresh
/-- So many steps at most: the result, and the run then. -/
def aloneA (g : Rn → Rn) : Nat → Rn → Int × Rn
  | 0, s => (0, s)
  | k + 1, s => if (stepR g s).over then ((stepR g s).f.ret, stepR g s) else aloneA g k (stepR g s)
def start (n mode op : Int) (L : List Int) : Rn := ⟨n, mode, 0, ⟨op, 0, 0, 0, 0, Wk.zero, 0⟩, Acc.zero, [], L⟩

/-- A frame whose kept words are words. -/
def Rn.ok (s : Rn) : Prop := I64 s.n ∧ (0 ≤ s.f.a ∧ s.f.a < 4294967296) ∧ (0 ≤ s.f.b ∧ s.f.b < 4294967296)
theorem start_ok {n : Int} (hn : I64 n) (mode op : Int) (L : List Int) : (start n mode op L).ok := ⟨hn, by simp [start], by simp [start]⟩
theorem woke_ok {s : Rn} (h : s.ok) : s.woke.ok := h
theorem fresh_ok {s : Rn} (h : s.ok) : s.fresh.ok := h

/-- Words in which nobody watches the cell c. -/
def NoWatch (n : Int) (c : Int) (L : List Int) : Prop := ∀ i, 0 ≤ i → i < n → (doA L ⟨1, cellP n 2 i, 0, 0, 0⟩).2.1 = true ∧ (doA L ⟨1, cellP n 2 i, 0, 0, 0⟩).1.old ≠ (c + 1) % 4294967296

theorem woke_calm {s : Rn} {c i : Int} (hw : s.f.wk = ⟨true, c, i, false⟩) (h0 : 0 ≤ i) (h1 : i < s.n) (hc : NoWatch s.n c s.L) :
    s.woke.L = s.L ∧ s.woke.f = { s.f with wk := if s.n ≤ i + 1 then Wk.zero else ⟨true, c, i + 1, false⟩ } ∧ s.woke.notes = [] ∧ s.woke.n = s.n ∧ s.woke.mode = s.mode ∧ s.woke.task = s.task := by
  obtain ⟨h2, h3⟩ := hc i h0 h1
  have e : wakeA s.L s.n s.f.wk = (nextA s.n ⟨true, c, i, false⟩, (doA s.L ⟨1, cellP s.n 2 i, 0, 0, 0⟩).1, s.L) := by
    rw [hw]
    unfold wakeA
    simp only [if_true, Bool.false_eq_true, if_false]
    rw [if_pos h2, if_neg h3]
  unfold Rn.woke
  rw [e]
  refine ⟨rfl, ?_, rfl, rfl, rfl, rfl⟩
  show { s.f with wk := nextA s.n ⟨true, c, i, false⟩ } = _
  unfold nextA
  rfl

/-- The run behind a wake-up that finds nobody: only its access and its notes may differ. -/
def Rn.rests (s : Rn) : Rn := { s with f := { s.f with wk := Wk.zero }, acc := Acc.zero, notes := [] }

/-- A wake-up that finds nobody, within an operation: behind it the steps go on. -/
theorem alone_wakes (g : Rn → Rn) (c : Int) : ∀ (d : Nat) (s : Rn) (i : Int) (most : Nat), s.f.wk = ⟨true, c, i, false⟩ → 0 ≤ i → i + d = s.n → 1 ≤ d → NoWatch s.n c s.L → d ≤ most →
    ∃ s', s'.fresh = s.rests ∧ s'.f.wk.on = false ∧ s'.L = s.L ∧ s'.f.ret = s.f.ret ∧ ((s.f.ret ≠ 0 → aloneA g most s = (s.f.ret, s')) ∧ (s.f.ret = 0 → aloneA g most s = aloneA g (most - d) s')) := by
  intro d
  induction d with
  | zero => intro s i most hw h0 h1 h2; omega
  | succ d ih =>
    intro s i most hw h0 h1 _ hc hm
    obtain ⟨e1, e2, e3, e4, e5, e6⟩ := woke_calm hw h0 (by omega) hc
    have hst : stepR g s = s.woke := by unfold stepR; rw [hw]; rfl
    obtain ⟨most, rfl⟩ : ∃ j, most = j + 1 := ⟨most - 1, by omega⟩
    by_cases hd : d = 0
    · subst hd
      rw [if_pos (by omega)] at e2
      refine ⟨s.woke, ?_, by rw [e2]; rfl, e1, by rw [e2], fun hr => ?_, fun hr => ?_⟩
      · unfold Rn.fresh Rn.rests
        rw [e1, e2, e4, e5, e6]
      · show (if (stepR g s).over then ((stepR g s).f.ret, stepR g s) else aloneA g most (stepR g s)) = _
        rw [hst, if_pos (by unfold Rn.over; rw [e2]; simpa [Wk.zero] using hr), e2]
      · show (if (stepR g s).over then ((stepR g s).f.ret, stepR g s) else aloneA g most (stepR g s)) = _
        rw [hst, if_neg (by unfold Rn.over; rw [e2]; simp [hr])]
        rfl
    · rw [if_neg (by omega)] at e2
      obtain ⟨s', k1, k2, k3, k4, k5, k6⟩ := ih s.woke (i + 1) most (by rw [e2]) (by omega) (by rw [e4]; omega) (by omega) (by rw [e4, e1]; exact hc) (by omega)
      have er : s.woke.f.ret = s.f.ret := by rw [e2]
      have hgo : aloneA g (most + 1) s = aloneA g most s.woke := by
        show (if (stepR g s).over then ((stepR g s).f.ret, stepR g s) else aloneA g most (stepR g s)) = _
        rw [hst, if_neg (by unfold Rn.over; rw [e2]; simp)]
      refine ⟨s', ?_, k2, k3.trans e1, k4.trans er, fun hr => ?_, fun hr => ?_⟩
      · rw [k1]
        unfold Rn.rests
        rw [e1, e2, e4, e5, e6]
      · rw [hgo, k5 (by rw [er]; exact hr), er]
      · rw [hgo, k6 (by rw [er]; exact hr)]
        congr 1
        omega

/-- Operations one after the other, each by itself: all end with true. -/
def Runs (g : Rn → Rn) (n mode : Int) (most : Nat) : List Int → List Int → List Int → Prop
  | [], L, L' => L = L'
  | o :: os, L, L' => ∃ s, aloneA g most (start n mode o L) = (2, s) ∧ Runs g n mode most os s.L L'

/-- What is kept is words; ten notes more at most. -/
def Fine (s0 s' : Rn) : Prop := (I64 s'.n ∧ (0 ≤ s'.f.a ∧ s'.f.a < 4294967296) ∧ (0 ≤ s'.f.b ∧ s'.f.b < 4294967296)) ∧ s'.notes.length ≤ s0.notes.length + 10
theorem fine_mk {s0 s' : Rn} (h : (I64 s'.n ∧ (0 ≤ s'.f.a ∧ s'.f.a < 4294967296) ∧ (0 ≤ s'.f.b ∧ s'.f.b < 4294967296)) ∧ s'.notes.length ≤ s0.notes.length + 10) : Fine s0 s' := h

theorem Has.ownNil {S0 : List Nat} {w0 w : World} {rs : List Res} (h : Has S0 w0 w rs) (e size : Nat) : Has S0 w0 w (.own e size (.slice none 0 0) 0 [] :: rs) :=
  Has.upd (xs := []) (rs := rs) [.own e size (.slice none 0 0) 0 []] (S := []) h (Touch.refl _ _) (by simp) (by simp [Res.holds]; exact ⟨by simp, .inl ⟨rfl, rfl⟩⟩) (by simp) (by simp [Res.foot, Value.ownBlock])

/-- A new run. -/
theorem RunHas.fresh_ {S0 : List Nat} {w0 w : World} {m a : Nat} {rs : List Res} (s : Rn) (H : Has S0 w0 w (.mem m a s.L :: rs)) (hn : s.notes = []) (T : TypeId) :
    RunHas S0 w0 m a w.heap.size rs s (w.alloc (.cells (rcells m s (.slice none 0 0)) T)) := by
  refine ⟨.slice none 0 0, ?_⟩
  rw [hn]
  exact (H.al1).own_nil _ _

/-- More is appended to what is owned, fourth in the list. -/
theorem Has.grown4 {S0 : List Nat} {w0 w w' : World} {x y z : Res} {e size n m : Nat} {v v' : Value} {xs ys : List Value} {rs : List Res} (h : Has S0 w0 w (x :: y :: z :: .own e size v n xs :: rs)) (hown : w'.ownsRow 0 e size v' m ys) (hg : w.grownBy w' v.ownBlock)
    (hat : v'.ownBlock = v.ownBlock ∨ v'.ownBlock = some w.heap.size) : Has S0 w0 w' (x :: y :: z :: .own e size v' m ys :: rs) :=
  ((h.perm (perm_past3 x y z [_] rs).symm).grown hown hg hat).perm (perm_past3 x y z [_] rs)

/-- What an operation by itself tells. -/
def AloneEnd (S0 : List Nat) (w0 : World) (m a : Nat) (rs : List Res) (R : Int × Rn) (e : Ending) (w' : World) : Prop :=
  ∃ v, e = .returned (.tuple #[.int .i64 R.1, v]) ∧ Has S0 w0 w' (.mem m a R.2.L :: rs)

end Go.Proofs.Ytlndihdlodempaa.Z

/- Package wf: whatever the line. Written by genwf2.py. -/
set_option linter.unusedVariables false
set_option linter.unusedSimpArgs false
namespace Go.Proofs.Ytlndihdlodempaa.Z
open Go.RowKit

set_option maxHeartbeats 3200000 in
theorem wf_default {S0 : List Nat} {w0 w : World} {m a r : Nat} {rs : List Res} {s s2 : Rn} (H : RunHas S0 w0 m a r rs s w) {o l : Int} (hop : s.f.op = o) (hl : s.f.line = l)
    (h0 : ¬ (o = 1 ∧ l = 0)) (h1 : ¬ (o = 1 ∧ l = 1)) (h2 : ¬ (o = 1 ∧ l = 2)) (h3 : ¬ (o = 1 ∧ l = 3)) (h4 : ¬ (o = 2 ∧ l = 0)) (h5 : ¬ (o = 3 ∧ l = 0)) (h6 : ¬ (o = 3 ∧ l = 1))
    (ht : ∀ rs W, RunHas S0 w0 m a r rs s W → Calls Try.prog 107 #[.pointer (some ⟨r, 0, none⟩)] W fun e w' => e = .returned (.tuple #[]) ∧ RunHas S0 w0 m a r rs s2 w') :
    Calls Try.prog 40 #[.pointer (some ⟨r, 0, none⟩)] w fun e w' => e = .returned (.tuple #[]) ∧ RunHas S0 w0 m a r rs s2 w' := by
  have HT := Lib.hid ht
  obtain ⟨z0, z2, z4, z5, z6, z7⟩ := H.facts hop hl rfl rfl
  have HH := Lib.hid (H.box rfl #[.pointer (some ⟨r, 4, none⟩)] 102)
  clear H ht
  go_enter Try.func40, Try.ntmps40
  go_wp2_with fail
  go_quiet (fail)
  have HW := HH.out.drewN nq
  clear z0 z2 z4 z5 z6 z7
  generalize w.heap.size = tb at HW ⊢
  generalize (World.drewN _ nq) = W at HW ⊢
  obtain ⟨z0, z2, z4, z5, z6, z7⟩ := HW.facts hop hl rfl rfl
  obtain ⟨u0, u1, u2⟩ := HW.first.own
  go_wp2_with fail
  all_goals
    refine (HT.out _ _ HW).mono ?_
    rintro e w1 ⟨rfl, H1⟩
    go_wp2_with fail
    go_end0
    exact ⟨rfl, H1.unbox⟩

set_option maxHeartbeats 3200000 in
theorem wf_none {S0 : List Nat} {w0 w : World} {m a r : Nat} {rs : List Res} {s : Rn} (H : RunHas S0 w0 m a r rs s w) {o l : Int} (hop : s.f.op = o) (hl : s.f.line = l) (h0 : ¬ (o = 4 ∧ l = 0)) (h1 : ¬ (o = 8 ∧ l = 0)) (h2 : ¬ (o = 4 ∧ l = 1)) (h3 : ¬ (o = 8 ∧ l = 1)) (h4 : ¬ (o = 5 ∧ l = 0)) (h5 : ¬ (o = 6 ∧ l = 0)) (h6 : ¬ (o = 7 ∧ l = 0)) (h7 : ¬ (o = 5 ∧ l = 1)) (h8 : ¬ (o = 6 ∧ l = 1)) (h9 : ¬ (o = 7 ∧ l = 1)) :
    Calls Try.prog 107 #[.pointer (some ⟨r, 0, none⟩)] w fun e w' => e = .returned (.tuple #[]) ∧ RunHas S0 w0 m a r rs s w' := by
  obtain ⟨z0, z2, z4, z5, z6, z7⟩ := H.facts hop hl rfl rfl
  have HH := Lib.hid H
  clear H
  go_enter Try.func107, Try.ntmps107
  go_wp2_with fail
  go_quiet (fail)
  have HW := HH.out.drewN nq
  clear z0 z2 z4 z5 z6 z7
  generalize w.drewN nq = W at HW ⊢
  obtain ⟨z0, z2, z4, z5, z6, z7⟩ := HW.facts hop hl rfl rfl
  go_wp2_with fail
  all_goals
    go_end0
    exact ⟨rfl, HW⟩

/-- A step's lines of the lock in which writers go first. -/
def wfA (s : Rn) : Rn := if s.f.op = 1 ∧ s.f.line = 0 then wf10 s else if s.f.op = 1 ∧ s.f.line = 1 then wf11 s else if s.f.op = 1 ∧ s.f.line = 2 then wf12 s else if s.f.op = 1 ∧ s.f.line = 3 then wf13 s else if s.f.op = 2 ∧ s.f.line = 0 then wf20 s else if s.f.op = 3 ∧ s.f.line = 0 then wf30 s else if s.f.op = 3 ∧ s.f.line = 1 then wf31 s else if s.f.op = 4 ∧ s.f.line = 0 then wf40 s else if s.f.op = 8 ∧ s.f.line = 0 then wf80 s else if s.f.op = 4 ∧ s.f.line = 1 then wf41 s else if s.f.op = 8 ∧ s.f.line = 1 then wf81 s else if s.f.op = 5 ∧ s.f.line = 0 then wf50 s else if s.f.op = 6 ∧ s.f.line = 0 then wf60 s else if s.f.op = 7 ∧ s.f.line = 0 then wf70 s else if s.f.op = 5 ∧ s.f.line = 1 then wf51 s else if s.f.op = 6 ∧ s.f.line = 1 then wf61 s else if s.f.op = 7 ∧ s.f.line = 1 then wf71 s else s

theorem wf_lines {S0 : List Nat} {w0 w : World} {m a r : Nat} {rs : List Res} {s : Rn} (H : RunHas S0 w0 m a r rs s w) (hn : I64 s.n) (ha : 0 ≤ s.f.a ∧ s.f.a < 4294967296) (hc : s.notes.length ≤ 900) :
    Calls Try.prog 40 #[.pointer (some ⟨r, 0, none⟩)] w fun e w' => e = .returned (.tuple #[]) ∧ RunHas S0 w0 m a r rs (wfA s) w' := by
  unfold wfA
  by_cases h10 : s.f.op = 1 ∧ s.f.line = 0
  · rw [if_pos h10]; exact wf_10 H h10.1 h10.2 hn ha hc
  rw [if_neg h10]
  by_cases h11 : s.f.op = 1 ∧ s.f.line = 1
  · rw [if_pos h11]; exact wf_11 H h11.1 h11.2 hn ha hc
  rw [if_neg h11]
  by_cases h12 : s.f.op = 1 ∧ s.f.line = 2
  · rw [if_pos h12]; exact wf_12 H h12.1 h12.2 hn ha hc
  rw [if_neg h12]
  by_cases h13 : s.f.op = 1 ∧ s.f.line = 3
  · rw [if_pos h13]; exact wf_13 H h13.1 h13.2 hn ha hc
  rw [if_neg h13]
  by_cases h20 : s.f.op = 2 ∧ s.f.line = 0
  · rw [if_pos h20]; exact wf_20 H h20.1 h20.2 hn ha hc
  rw [if_neg h20]
  by_cases h30 : s.f.op = 3 ∧ s.f.line = 0
  · rw [if_pos h30]; exact wf_30 H h30.1 h30.2 hn ha hc
  rw [if_neg h30]
  by_cases h31 : s.f.op = 3 ∧ s.f.line = 1
  · rw [if_pos h31]; exact wf_31 H h31.1 h31.2 hn ha hc
  rw [if_neg h31]
  refine wf_default H rfl rfl h10 h11 h12 h13 h20 h30 h31 (fun rs W HW => ?_)
  by_cases h40 : s.f.op = 4 ∧ s.f.line = 0
  · rw [if_pos h40]; exact wf_40 HW h40.1 h40.2 hn ha hc
  rw [if_neg h40]
  by_cases h80 : s.f.op = 8 ∧ s.f.line = 0
  · rw [if_pos h80]; exact wf_80 HW h80.1 h80.2 hn ha hc
  rw [if_neg h80]
  by_cases h41 : s.f.op = 4 ∧ s.f.line = 1
  · rw [if_pos h41]; exact wf_41 HW h41.1 h41.2 hn ha hc
  rw [if_neg h41]
  by_cases h81 : s.f.op = 8 ∧ s.f.line = 1
  · rw [if_pos h81]; exact wf_81 HW h81.1 h81.2 hn ha hc
  rw [if_neg h81]
  by_cases h50 : s.f.op = 5 ∧ s.f.line = 0
  · rw [if_pos h50]; exact wf_50 HW h50.1 h50.2 hn ha hc
  rw [if_neg h50]
  by_cases h60 : s.f.op = 6 ∧ s.f.line = 0
  · rw [if_pos h60]; exact wf_60 HW h60.1 h60.2 hn ha hc
  rw [if_neg h60]
  by_cases h70 : s.f.op = 7 ∧ s.f.line = 0
  · rw [if_pos h70]; exact wf_70 HW h70.1 h70.2 hn ha hc
  rw [if_neg h70]
  by_cases h51 : s.f.op = 5 ∧ s.f.line = 1
  · rw [if_pos h51]; exact wf_51 HW h51.1 h51.2 hn ha hc
  rw [if_neg h51]
  by_cases h61 : s.f.op = 6 ∧ s.f.line = 1
  · rw [if_pos h61]; exact wf_61 HW h61.1 h61.2 hn ha hc
  rw [if_neg h61]
  by_cases h71 : s.f.op = 7 ∧ s.f.line = 1
  · rw [if_pos h71]; exact wf_71 HW h71.1 h71.2 hn ha hc
  rw [if_neg h71]
  exact wf_none HW rfl rfl h40 h80 h41 h81 h50 h60 h70 h51 h61 h71

theorem wf_lines_nil (w : World) : Calls Try.prog 40 #[.pointer none] w fun e w' => e = .returned (.tuple #[]) ∧ Touch [] w w' := by
  go_enter Try.func40, Try.ntmps40
  go_wp2
  refine bodyPost_ret (v := .tuple #[]) (by simp [results, Try.results40, go_sem]) rfl ⟨rfl, Touch.refl _ _⟩

end Go.Proofs.Ytlndihdlodempaa.Z

/- The document's answer on fields: the field of 8 bits from 8 on, and what makes it one more. -/
set_option linter.unusedVariables false
set_option linter.unusedSimpArgs false
namespace Go.Proofs.Ytlndihdlodempaa.Z
open Go.RowKit

set_option maxHeartbeats 1600000 in
theorem refPower8 (w : World) : Calls Try.prog 163 #[.int .i64 8] w fun e w' => e = .returned (.int .i64 256) ∧ w = w' := by
  go_enter Try.func163, Try.ntmps163
  go_wp2_with fail
  go_loopw [3, 4] (fun n i wr => ∃ k : Nat, k ≤ 8 ∧ i = .int .i64 k ∧ n = .int .i64 (2 ^ k : Nat) ∧ w = wr) (fun _ i _ => 8 - (intOf i).toNat)
  case atStart => exact ⟨0, Nat.zero_le _, rfl, rfl, rfl⟩
  case round =>
    obtain ⟨k, hk, rfl, rfl, rfl⟩ := hrel
    have hc : k = 0 ∨ k = 1 ∨ k = 2 ∨ k = 3 ∨ k = 4 ∨ k = 5 ∨ k = 6 ∨ k = 7 ∨ k = 8 := by omega
    rcases hc with rfl | rfl | rfl | rfl | rfl | rfl | rfl | rfl | rfl
    case inr.inr.inr.inr.inr.inr.inr.inr =>
      go_wp2_with fail
      go_ret
      exact ⟨rfl, rfl⟩
    all_goals
      go_wp2_with fail
      first | exact ⟨⟨_, by decide, rfl, rfl, trivial⟩, by decide⟩ | exact ⟨⟨_, by decide, rfl, rfl, rfl⟩, by decide⟩

theorem refIs88 (w : World) : Calls Try.prog 161 #[.int .i64 8, .int .i64 8] w fun e w' => e = .returned (.bool true) ∧ w = w' := by
  go_enter Try.func161, Try.ntmps161
  go_wp2
  go_ret
  exact ⟨rfl, rfl⟩

set_option maxHeartbeats 1600000 in
theorem refGet88 (v : Int) (w : World) (hv : 0 ≤ v ∧ v < 4294967296) : Calls Try.prog 162 #[.int .u32 v, .int .i64 8, .int .i64 8] w fun e w' => e = .returned (.int .u32 (v / 256 % 256)) ∧ Touch [] w w' := by
  go_enter Try.func162, Try.ntmps162
  go_wp2_with fail
  refine (refIs88 _).mono ?_
  rintro e w1 ⟨rfl, rfl⟩
  go_wp2_with fail
  first
    | (go_region_with (go_at_call 163; refine (refPower8 _).mono ?_; rintro e w2 ⟨rfl, rfl⟩))
    | fail
  all_goals
    go_wp2_with fail
    go_ret
    refine ⟨?_, (Touch.refl _ _).drew⟩
    show Ending.returned (Value.int .u32 _) = Ending.returned (Value.int .u32 _)
    have e1 : IntKind.i64.wrap v = v := IntWalk.i64_in v (by omega)
    have e2 : IntKind.i64.wrap (v.tdiv 256) = v / 256 := IntWalk.i64_quo v 256 (by omega)
    have e3 : (v / 256).tmod 256 = v / 256 % 256 := Int.tmod_eq_emod_of_nonneg (by omega)
    first
      | (simp only [e1, e2, e3, IntKind.wrap_u32]; congr 2; omega)
      | (congr 2; omega)

set_option maxHeartbeats 1600000 in
theorem refPut88 (v x : Int) (w : World) (hv : 0 ≤ v ∧ v < 4294967296) (hx : 0 ≤ x ∧ x < 256) : Calls Try.prog 164 #[.int .u32 v, .int .i64 8, .int .i64 8, .int .u32 x] w fun e w' => e = .returned (.int .u32 (v - v / 256 % 256 * 256 + x * 256)) ∧ Touch [] w w' := by
  have hg := fun W => refGet88 v W hv
  have HB := Lib.hid (show (v + (x % 256 - v / 256 % 256) * 256) % 4294967296 = v - v / 256 % 256 * 256 + x * 256 from by omega)
  have hq0 : 0 ≤ v / 256 % 256 ∧ v / 256 % 256 < 256 := by omega
  generalize v / 256 % 256 = q at hg HB hq0 ⊢
  have HG := Lib.hid hg
  clear hg
  go_enter Try.func164, Try.ntmps164
  go_wp2_with fail
  refine (refIs88 _).mono ?_
  rintro e w1 ⟨rfl, rfl⟩
  go_wp2_with fail
  first
    | (go_region_with (first
        | (go_at_call 162; refine (HG.out _).mono ?_; rintro e w2 ⟨rfl, t2⟩)
        | (go_at_call 163; refine (refPower8 _).mono ?_; rintro e w3 ⟨rfl, rfl⟩)))
    | fail
  all_goals
    go_wp2_with (go_at_call 163; refine (refPower8 _).mono ?_; rintro e w4 ⟨rfl, rfl⟩)
    go_ret
    refine ⟨?_, by first | exact (Touch.refl [] _).drew.trans t2 | exact t2 | exact t2.drew | exact ((Touch.refl [] _).drew.trans t2).drew⟩
    show Ending.returned (Value.int .u32 _) = Ending.returned (Value.int .u32 _)
    rw [← HB.out]
    try congr 2
    try omega

set_option maxHeartbeats 1600000 in
theorem refBump88 (v : Int) (w : World) (hv : 0 ≤ v ∧ v < 4294967296) : Calls Try.prog 111 #[.int .u32 v, .int .i64 8, .int .i64 8] w fun e w' => e = .returned (.int .u32 (bump8 v)) ∧ Touch [] w w' := by
  have hp := fun W => refPut88 v ((v / 256 % 256 + 1) % 256) W hv (by omega)
  have hg := fun W => refGet88 v W hv
  have HB := Lib.hid (show (v - v / 256 % 256 * 256 + (v / 256 % 256 + 1) % 256 * 256 - v) % 4294967296 = bump8 v from by unfold bump8; omega)
  have hq0 : 0 ≤ v / 256 % 256 ∧ v / 256 % 256 < 256 := by omega
  generalize v / 256 % 256 = q at hp hg HB hq0
  have HP := Lib.hid hp
  have HG := Lib.hid hg
  clear hp hg
  go_enter Try.func111, Try.ntmps111
  go_wp2_with fail
  refine (refIs88 _).mono ?_
  rintro e w1 ⟨rfl, rfl⟩
  go_wp2_with fail
  refine (HG.out _).mono ?_
  rintro e w2 ⟨rfl, t2⟩
  go_wp2_with fail
  refine (refPower8 _).mono ?_
  rintro e w3 ⟨rfl, rfl⟩
  go_wp2_with fail
  refine (HP.out _).mono ?_
  rintro e w4 ⟨rfl, t4⟩
  go_wp2_with fail
  go_ret
  refine ⟨?_, t2.trans t4⟩
  show Ending.returned (Value.int .u32 _) = Ending.returned (Value.int .u32 _)
  rw [HB.out]
end Go.Proofs.Ytlndihdlodempaa.Z
