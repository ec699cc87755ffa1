/- 5 texts of this claim, joined: what Package world needs of them. -/
import Derived.Test.YthnimpkoidablaaGreatZB13
import Derived.Test.YthnimpkoidablaaGreatZB07
import Derived.Test.YthnimpkoidablaaGreatZB17
import Derived.Deep.RegionHeld3
import Derived.Deep.DrawnRows
import Derived.Test.YthnimpkoidablaaGreatZB11
set_option linter.unusedVariables false
set_option linter.unusedSimpArgs false
namespace Go.Proofs.YthnimpkoidablaaGreat.Z
open Go.RowKit
attribute [local go_sem ↓] Go.wp_at_zero Go.wp_at_succ
def wfR (v : Int) : Int := v % 256
def wfT (v : Int) : Int := v / 256 % 256
def wfG (v : Int) : Int := v / 65536 % 256
def wfCalm (v : Int) : Bool := wfT v == wfG v
theorem RunHas.ne_firstW {S0 : List Nat} {w0 w : World} {m a r b : Nat} {cs : Array Value} {rs : List Res} {s : Rn} (H : RunHas S0 w0 m a r (.blk b cs :: rs) s w) : r ≠ b := by
  obtain ⟨nv, H⟩ := H
  exact H.ne_at 1 3 rfl rfl (by decide)
theorem wf_readers (v : Int) (w : World) (hv : 0 ≤ v ∧ v < 4294967296) : Calls Tryz.prog 121 #[.int .u32 v] w fun e w' => e = .returned (.int .u32 (wfR v)) ∧ w = w' := by
  have hg := fun W => diff_get0 v W hv
  rw [show v / 1 % 256 = wfR v from by unfold wfR; omega] at hg
  have HG := Lib.hid hg
  clear hg
  go_enter Tryz.func121, Tryz.ntmps121
  go_wp2_with fail
  refine (HG.out _).mono ?_
  rintro e w1 ⟨rfl, rfl⟩
  go_wp2
  go_ret
  exact ⟨rfl, rfl⟩
theorem wf_calm (v : Int) (w : World) (hv : 0 ≤ v ∧ v < 4294967296) : Calls Tryz.prog 118 #[.int .u32 v] w fun e w' => e = .returned (.bool (wfCalm v)) ∧ w = w' := by
  have hg := fun W => diff_get8 v W hv
  have hh := fun W => diff_get16 v W hv
  unfold wfCalm wfT wfG
  generalize v / 256 % 256 = x at hg ⊢
  generalize v / 65536 % 256 = y at hh ⊢
  have HG := Lib.hid hg
  have HK := Lib.hid hh
  clear hg hh
  go_enter Tryz.func118, Tryz.ntmps118
  go_wp2_with fail
  refine (HG.out _).mono ?_
  rintro e w1 ⟨rfl, rfl⟩
  go_wp2_with fail
  refine (HK.out _).mono ?_
  rintro e w2 ⟨rfl, rfl⟩
  go_wp2
  go_ret
  exact ⟨rfl, rfl⟩
theorem wf_next (v : Int) (w : World) (hv : 0 ≤ v ∧ v < 4294967296) : Calls Tryz.prog 157 #[.int .u32 v] w fun e w' => e = .returned (.int .u32 (bump8 v)) ∧ w = w' := by
  have HG := Lib.hid (fun W => diff_bump8 v W hv)
  go_enter Tryz.func157, Tryz.ntmps157
  go_wp2_with fail
  refine (HG.out _).mono ?_
  rintro e w1 ⟨rfl, rfl⟩
  go_wp2
  go_ret
  exact ⟨rfl, rfl⟩
def Rn.wends (s : Rn) (wake : Bool) (l : List Int) : Rn := (if wake then (s.noted l).wake 0 else s.noted l).fin true
set_option maxHeartbeats 800000 in
theorem wf_end {S0 : List Nat} {w0 w : World} {m a r g n c : Nat} {l : List Int} {rs : List Res} {s : Rn} (H : RunHas S0 w0 m a r (.blk g (i64s l).toArray :: rs) s w) (hn : l.length = n) (hc : s.notes.length + l.length ≤ 1000) (wake : Bool) :
    Calls Tryz.prog 116 #[.pointer (some ⟨r, 0, none⟩), .bool wake, .slice (some ⟨g, 0, none⟩) n c] w fun e w' => e = .returned (.tuple #[]) ∧ RunHas S0 w0 m a r (.blk g (i64s l).toArray :: rs) (s.wends wake l) w' := by
  subst hn
  have hll : l.length ≤ 1000 := by omega
  have HC := Lib.hid hc
  have HH := Lib.hid H
  clear hc H
  go_enter Tryz.func116, Tryz.ntmps116
  go_wp2_with fail
  go_loopw [10] (fun i wr => ∃ k : Nat, k ≤ l.length ∧ i = .int .i64 k ∧ RunHas S0 w0 m a r (.blk g (i64s l).toArray :: rs) (s.noted (l.take k)) wr) (fun i _ => l.length - (intOf i).toNat)
  case atStart => exact ⟨0, Nat.zero_le _, rfl, HH.out⟩
  case round =>
    obtain ⟨k, hk, rfl, hH⟩ := hrel
    have HK := Lib.hid hH
    clear hH
    by_cases hlt : k < l.length
    · obtain ⟨b, off, hb, hbl, hcell⟩ := i64s_at (rd_blk HK.out.first) hlt
      simp only [Option.some.injEq, Addr.mk.injEq] at hb
      obtain ⟨rfl, rfl, _⟩ := hb
      obtain ⟨x, hx⟩ : ∃ x, l.getD k 0 = x := ⟨_, rfl⟩
      rw [hx, Nat.zero_add] at hcell
      have HX := Lib.hid hx
      clear hx
      have hi : (k : Int) < (l.length : Int) := by omega
      go_wp2_with fail
      refine (run_note HK.out (by rw [noted_notes]; have := HC.out; simp only [List.length_take]; omega) x 0).mono ?_
      rintro e w1 ⟨rfl, H1⟩
      go_wp2
      go_roundw
      case rel => exact ⟨k + 1, by omega, by go_num, by rw [noted_succ s l k hlt, HX.out]; exact H1⟩
      case measure => simp [intOf]; omega
    · have hkn : k = l.length := by omega
      subst hkn
      have hi : (l.length : Int) ≤ (l.length : Int) := Int.le_refl _
      have H2 := HK.out
      rw [List.take_length] at H2
      clear HK hlt hk
      cases wake with
      | true =>
        go_wp2_with fail
        refine (rn_wake H2 0).mono ?_
        rintro e w1 ⟨rfl, H3⟩
        go_wp2_with fail
        refine (rn_end H3 true).mono ?_
        rintro e w2 ⟨rfl, H4⟩
        go_wp2_with fail
        go_end0
        exact ⟨rfl, H4⟩
      | false =>
        go_wp2_with fail
        refine (rn_end H2 true).mono ?_
        rintro e w2 ⟨rfl, H4⟩
        go_wp2_with fail
        go_end0
        exact ⟨rfl, H4⟩
def wfCalmly (s : Rn) : Rn :=
  let s1 := ((s.did (doA s.L ⟨1, 0, 0, 0, 0⟩)).setA (doA s.L ⟨1, 0, 0, 0, 0⟩).1.old).goto 2
  if wfCalm (doA s.L ⟨1, 0, 0, 0, 0⟩).1.old then s1.goto 1 else s1
set_option maxHeartbeats 800000 in
theorem wf_calmly {S0 : List Nat} {w0 w : World} {m a r : Nat} {rs : List Res} {s : Rn} (H : RunHas S0 w0 m a r rs s w) {o l : Int} (hop : s.f.op = o) (hl : s.f.line = l) :
    Calls Tryz.prog 115 #[.pointer (some ⟨r, 0, none⟩)] w fun e w' => e = .returned (.tuple #[]) ∧ RunHas S0 w0 m a r rs (wfCalmly s) w' := by
  have HVB := Lib.hid (H.old ⟨1, 0, 0, 0, 0⟩)
  have HH := Lib.hid H
  clear H
  unfold wfCalmly
  dsimp only
  cases hb : wfCalm (doA s.L ⟨1, 0, 0, 0, 0⟩).1.old with
  | true =>
    simp only [if_true]
    go_enter Tryz.func115, Tryz.ntmps115
    go_wp2_with fail
    refine (rn_load HH.out 0).mono ?_
    rintro e w1 ⟨rfl, H1⟩
    obtain ⟨x0, x2, x4, x5, x6, x7⟩ := H1.facts hop hl rfl rfl
    go_wp2_with fail
    refine (rn_go (H1.setA (doA s.L ⟨1, 0, 0, 0, 0⟩).1.old) 2).mono ?_
    rintro e w2 ⟨rfl, H2⟩
    obtain ⟨x0, x2, x4, x5, x6, x7⟩ := H2.facts hop (l := 2) rfl (x := (doA s.L ⟨1, 0, 0, 0, 0⟩).1.old) rfl rfl
    go_wp2_with fail
    refine (wf_calm _ _ HVB.out).mono ?_
    rw [hb]
    rintro e w9 ⟨rfl, rfl⟩
    go_wp2_with fail
    refine (rn_go H2 1).mono ?_
    rintro e w3 ⟨rfl, H3⟩
    go_wp2_with fail
    go_end0
    exact ⟨rfl, H3⟩
  | false =>
    simp only [Bool.false_eq_true, if_false]
    go_enter Tryz.func115, Tryz.ntmps115
    go_wp2_with fail
    refine (rn_load HH.out 0).mono ?_
    rintro e w1 ⟨rfl, H1⟩
    obtain ⟨x0, x2, x4, x5, x6, x7⟩ := H1.facts hop hl rfl rfl
    go_wp2_with fail
    refine (rn_go (H1.setA (doA s.L ⟨1, 0, 0, 0, 0⟩).1.old) 2).mono ?_
    rintro e w2 ⟨rfl, H2⟩
    obtain ⟨x0, x2, x4, x5, x6, x7⟩ := H2.facts hop (l := 2) rfl (x := (doA s.L ⟨1, 0, 0, 0, 0⟩).1.old) rfl rfl
    go_wp2_with fail
    refine (wf_calm _ _ HVB.out).mono ?_
    rw [hb]
    rintro e w9 ⟨rfl, rfl⟩
    go_wp2_with fail
    go_end0
    exact ⟨rfl, H2⟩
def Rn.wchosen (s : Rn) (p : Int → Bool) : Rn :=
  let s1 := (s.did (doA s.L ⟨1, 0, 0, 0, 0⟩)).setA (doA s.L ⟨1, 0, 0, 0, 0⟩).1.old
  if wfCalm (doA s.L ⟨1, 0, 0, 0, 0⟩).1.old && p (doA s.L ⟨1, 0, 0, 0, 0⟩).1.old then s1.goto 1 else (s1.note 5 0).fin false
set_option maxHeartbeats 800000 in
theorem wf_choose {S0 : List Nat} {w0 w : World} {m a r : Nat} {rs : List Res} {s : Rn} (H : RunHas S0 w0 m a r rs s w) (hc : s.notes.length ≤ 900) {o l : Int} (hop : s.f.op = o) (hl : s.f.line = l) (fid : FuncId) (first cap : Array Value) (p : Int → Bool) (eg : ∀ args w, (callFunc fid args).run Tryz.prog w = .ok (.enter fid args) w)
    (hF : ∀ W v s', 0 ≤ v ∧ v < 4294967296 → RunHas S0 w0 m a r rs s' W → Calls Tryz.prog fid (first ++ #[.int .u32 v] ++ cap) W fun e W' => e = .returned (.bool (p v)) ∧ Touch [] W W') :
    Calls Tryz.prog 158 #[.pointer (some ⟨r, 0, none⟩), .func (.func fid) first cap] w fun e w' => e = .returned (.tuple #[]) ∧ RunHas S0 w0 m a r rs (s.wchosen p) w' := by
  have HC := Lib.hid hc
  have HF := Lib.hid hF
  have HVB := Lib.hid (H.old ⟨1, 0, 0, 0, 0⟩)
  have HH := Lib.hid H
  clear hc H hF
  unfold Rn.wchosen
  dsimp only
  cases hb : wfCalm (doA s.L ⟨1, 0, 0, 0, 0⟩).1.old with
  | true =>
    cases hp : p (doA s.L ⟨1, 0, 0, 0, 0⟩).1.old with
    | true =>
      simp only [Bool.and_self, if_true]
      go_enter Tryz.func158, Tryz.ntmps158
      go_wp2_with fail
      refine (rn_load HH.out 0).mono ?_
      rintro e w1 ⟨rfl, H1⟩
      obtain ⟨x0, x2, x4, x5, x6, x7⟩ := H1.facts hop hl rfl rfl
      go_wp2_with fail
      refine (wf_calm _ _ HVB.out).mono ?_
      rw [hb]
      rintro e w9 ⟨rfl, rfl⟩
      go_wp2_with fail
      refine (HF.out _ _ _ HVB.out (H1.setA _)).mono ?_
      rw [hp]
      rintro e w2 ⟨rfl, t2⟩
      have H2 := (H1.setA (doA s.L ⟨1, 0, 0, 0, 0⟩).1.old).grow t2
      go_wp2_with fail
      refine (rn_go H2 1).mono ?_
      rintro e w3 ⟨rfl, H3⟩
      go_wp2_with fail
      (try simp only [Exit.inBlock, Exit.then]); refine bodyPost_ret (results_none rfl _ _ _) rfl ?_
      exact ⟨rfl, H3⟩
    | false =>
      simp only [Bool.and_false, Bool.false_eq_true, if_false]
      go_enter Tryz.func158, Tryz.ntmps158
      go_wp2_with fail
      refine (rn_load HH.out 0).mono ?_
      rintro e w1 ⟨rfl, H1⟩
      obtain ⟨x0, x2, x4, x5, x6, x7⟩ := H1.facts hop hl rfl rfl
      go_wp2_with fail
      refine (wf_calm _ _ HVB.out).mono ?_
      rw [hb]
      rintro e w9 ⟨rfl, rfl⟩
      go_wp2_with fail
      refine (HF.out _ _ _ HVB.out (H1.setA _)).mono ?_
      rw [hp]
      rintro e w2 ⟨rfl, t2⟩
      have H2 := (H1.setA (doA s.L ⟨1, 0, 0, 0, 0⟩).1.old).grow t2
      go_wp2_with fail
      refine (run_note H2 (by have := HC.out; first | exact Nat.le_trans this (by decide) | (simp [Rn.note, Rn.did, Rn.setA, Rn.setB, Rn.waited, Rn.goto, Rn.noted]; omega)) 5 0).mono ?_
      rintro e w3 ⟨rfl, H3⟩
      go_wp2_with fail
      refine (rn_end H3 false).mono ?_
      rintro e w4 ⟨rfl, H4⟩
      go_wp2_with fail
      go_end0
      exact ⟨rfl, H4⟩
  | false =>
    simp only [Bool.false_and, Bool.false_eq_true, if_false]
    go_enter Tryz.func158, Tryz.ntmps158
    go_wp2_with fail
    refine (rn_load HH.out 0).mono ?_
    rintro e w1 ⟨rfl, H1⟩
    obtain ⟨x0, x2, x4, x5, x6, x7⟩ := H1.facts hop hl rfl rfl
    go_wp2_with fail
    refine (wf_calm _ _ HVB.out).mono ?_
    rw [hb]
    rintro e w9 ⟨rfl, rfl⟩
    go_wp2_with fail
    have H2 := H1.setA (doA s.L ⟨1, 0, 0, 0, 0⟩).1.old
    refine (run_note H2 (by have := HC.out; first | exact Nat.le_trans this (by decide) | (simp [Rn.note, Rn.did, Rn.setA, Rn.setB, Rn.waited, Rn.goto, Rn.noted]; omega)) 5 0).mono ?_
    rintro e w3 ⟨rfl, H3⟩
    go_wp2_with fail
    refine (rn_end H3 false).mono ?_
    rintro e w4 ⟨rfl, H4⟩
    go_wp2_with fail
    go_end0
    exact ⟨rfl, H4⟩
def Rn.wswapped (s : Rn) (more cls note : Int) : Rn :=
  let s1 := s.did (doA s.L ⟨5, 0, s.f.a, (s.f.a + more) % 4294967296, 0⟩)
  if casB s.L 0 s.f.a ((s.f.a + more) % 4294967296) then (if cls = 0 then s1 else s1.note 2 cls).wends false [note] else s1.goto 0
set_option maxHeartbeats 1600000 in
theorem wf_swap {S0 : List Nat} {w0 w : World} {m a r : Nat} {rs : List Res} {s : Rn} (H : RunHas S0 w0 m a r rs s w) (hc : s.notes.length ≤ 900) {o l : Int} (hop : s.f.op = o) (hl : s.f.line = l) (ha : 0 ≤ s.f.a ∧ s.f.a < 4294967296) (more cls note : Int) (hm : 0 ≤ more ∧ more < 4294967296) :
    Calls Tryz.prog 162 #[.pointer (some ⟨r, 0, none⟩), .int .u32 more, .int .i64 cls, .int .i64 note] w fun e w' => e = .returned (.tuple #[]) ∧ RunHas S0 w0 m a r rs (s.wswapped more cls note) w' := by
  obtain ⟨z0, z2, z4, z5, z6, z7⟩ := H.facts hop hl rfl rfl
  have hcas := fun W (H : RunHas S0 w0 m a r rs s W) => rn_cas H 0 s.f.a ((s.f.a + more) % 4294967296) ha (by omega)
  have HC := Lib.hid hc
  unfold Rn.wswapped
  dsimp only
  have HH := Lib.hid H
  clear H ha hc
  cases hb : casB s.L 0 s.f.a ((s.f.a + more) % 4294967296) with
  | true =>
    rw [hb] at hcas
    have HCAS := Lib.hid hcas
    clear hcas
    simp only [if_true]
    by_cases hcl : cls = 0
    · subst hcl
      simp only [if_true]
      go_enter Tryz.func162, Tryz.ntmps162
      go_wp2_with fail
      refine region_flat (by kernel_rfl) (by kernel_rfl) ?_
      simp only [probed, probes, List.nil_append, List.cons_append, probe]
      go_wp2_with fail
      refine (HCAS.out _ HH.out.drew).mono ?_
      rintro e w1 ⟨rfl, H1⟩
      go_wp2_with fail
      rw [only_normal]
      rename_i hK
      refine hK _ _ ?_
      clear hK
      go_wp2_with fail
      refine (wf_end (l := [note]) (H1.box rfl _ _) rfl (by have := HC.out; first | exact Nat.le_trans this (by decide) | (simp [List.length_cons, Rn.note, Rn.did, Rn.setA, Rn.setB, Rn.waited, Rn.goto, Rn.noted]; omega)) false).mono ?_
      rintro e w5 ⟨rfl, H5⟩
      go_wp2_with fail
      go_end0
      exact ⟨rfl, H5.unbox⟩
    · rw [if_neg hcl]
      have hcl2 : (cls != 0) = true := by simpa using hcl
      clear hcl
      go_enter Tryz.func162, Tryz.ntmps162
      go_wp2_with fail
      refine region_flat (by kernel_rfl) (by kernel_rfl) ?_
      simp only [probed, probes, List.nil_append, List.cons_append, probe]
      go_wp2_with fail
      refine (HCAS.out _ HH.out.drew).mono ?_
      rintro e w1 ⟨rfl, H1⟩
      go_wp2_with fail
      rw [only_normal]
      rename_i hK
      refine hK _ _ ?_
      clear hK
      go_wp2_with fail
      refine (run_note H1 (by have := HC.out; first | exact Nat.le_trans this (by decide) | (simp [Rn.note, Rn.did, Rn.setA, Rn.setB, Rn.waited, Rn.goto, Rn.noted]; omega)) 2 cls).mono ?_
      rintro e w2 ⟨rfl, H2⟩
      go_wp2_with fail
      refine (wf_end (l := [note]) (H2.box rfl _ _) rfl (by have := HC.out; first | exact Nat.le_trans this (by decide) | (simp [List.length_cons, Rn.note, Rn.did, Rn.setA, Rn.setB, Rn.waited, Rn.goto, Rn.noted]; omega)) false).mono ?_
      rintro e w5 ⟨rfl, H5⟩
      go_wp2_with fail
      go_end0
      exact ⟨rfl, H5.unbox⟩
  | false =>
    rw [hb] at hcas
    have HCAS := Lib.hid hcas
    clear hcas
    simp only [Bool.false_eq_true, if_false]
    go_enter Tryz.func162, Tryz.ntmps162
    go_wp2_with fail
    refine region_flat (by kernel_rfl) (by kernel_rfl) ?_
    simp only [probed, probes, List.nil_append, List.cons_append, probe]
    go_wp2_with fail
    refine (HCAS.out _ HH.out.drew).mono ?_
    rintro e w1 ⟨rfl, H1⟩
    go_wp2_with fail
    rw [only_normal]
    rename_i hK
    refine hK _ _ ?_
    clear hK
    go_wp2_with fail
    refine (rn_go H1 0).mono ?_
    rintro e w2 ⟨rfl, H2⟩
    go_wp2_with fail
    (try simp only [Exit.inBlock, Exit.then]); refine bodyPost_ret (results_none rfl _ _ _) rfl ?_
    exact ⟨rfl, H2⟩
theorem wf_may1 (v : Int) (w : World) (hv : 0 ≤ v ∧ v < 4294967296) : Calls Tryz.prog 159 #[.int .u32 v] w fun e w' => e = .returned (.bool (true)) ∧ Touch [] w w' := by
  go_enter Tryz.func159, Tryz.ntmps159
  go_wp2
  go_ret
  exact ⟨rfl, Touch.refl _ _⟩
theorem wf_may2 (v : Int) (w : World) (hv : 0 ≤ v ∧ v < 4294967296) : Calls Tryz.prog 160 #[.int .u32 v] w fun e w' => e = .returned (.bool (wfR v == 0)) ∧ Touch [] w w' := by
  go_enter Tryz.func160, Tryz.ntmps160
  go_wp2_with fail
  refine (wf_readers v _ hv).mono ?_
  rintro e w1 ⟨rfl, rfl⟩
  go_wp2
  go_ret
  exact ⟨rfl, Touch.refl _ _⟩
theorem wf_may3 (v : Int) (w : World) (hv : 0 ≤ v ∧ v < 4294967296) : Calls Tryz.prog 161 #[.int .u32 v] w fun e w' => e = .returned (.bool (wfR v == 1)) ∧ Touch [] w w' := by
  go_enter Tryz.func161, Tryz.ntmps161
  go_wp2_with fail
  refine (wf_readers v _ hv).mono ?_
  rintro e w1 ⟨rfl, rfl⟩
  go_wp2
  go_ret
  exact ⟨rfl, Touch.refl _ _⟩
theorem wf_turn (x v : Int) {b : Nat} (w : World) (hv : 0 ≤ v ∧ v < 4294967296) (hb : Blk w b #[.int .u32 x]) :
    Calls Tryz.prog 120 #[.int .u32 v, .pointer (some ⟨b, 0, none⟩)] w fun e w' => e = .returned (.bool (wfT v == x && wfR v == 0)) ∧ Touch [] w w' := by
  obtain ⟨x0, x1, x2⟩ := hb.own
  have hg := fun W => diff_get8 v W hv
  rw [show v / 256 % 256 = wfT v from rfl] at hg
  have HG := Lib.hid hg
  clear hg
  cases ht : wfT v == x with
  | true =>
    go_enter Tryz.func120, Tryz.ntmps120
    go_wp2_with fail
    refine region_flat_call 1 rfl (by kernel_rfl) (by kernel_rfl) ?_
    simp only [List.take_succ_cons, List.take_zero, List.drop_succ_cons, List.drop_zero, probed, probes, List.nil_append]
    go_wp2_with fail
    rw [only_normal]
    refine half_static (.int .u32 (wfT v)) rfl rfl (enters_of Tryz.func119 (by kernel_rfl) rfl) (by simp [Act.eval]) (fun W _ => HG.out W) ?_
    simp only [probed, probes, List.nil_append]
    go_wp2_with fail
    refine (wf_readers v _ hv).mono ?_
    rintro e w1 ⟨rfl, rfl⟩
    go_wp2_with fail
    rw [only_normal]
    rename_i hK
    refine hK _ _ ?_
    go_wp2
    go_ret
    exact ⟨by simp, (Touch.refl _ _).drew⟩
  | false =>
    go_enter Tryz.func120, Tryz.ntmps120
    go_wp2_with fail
    refine region_flat_call 1 rfl (by kernel_rfl) (by kernel_rfl) ?_
    simp only [List.take_succ_cons, List.take_zero, List.drop_succ_cons, List.drop_zero, probed, probes, List.nil_append]
    go_wp2_with fail
    rw [only_normal]
    refine half_static (.int .u32 (wfT v)) rfl rfl (enters_of Tryz.func119 (by kernel_rfl) rfl) (by simp [Act.eval]) (fun W _ => HG.out W) ?_
    simp only [probed, probes, List.nil_append]
    go_wp2_with fail
    rw [only_normal]
    rename_i hK
    refine hK _ _ ?_
    go_wp2
    go_ret
    exact ⟨by simp, (Touch.refl _ _).drew⟩
set_option maxHeartbeats 800000 in
theorem wf_keeps {m r b : Nat} {nv : Value} {s : Rn} (v : Int) (w : World) (hv : 0 ≤ v ∧ v < 4294967296) (hr : Blk w r (rcells m s nv)) (hb : Blk w b #[.pointer (some ⟨r, 4, none⟩)]) :
    Calls Tryz.prog 117 #[.int .u32 v, .pointer (some ⟨b, 0, none⟩)] w fun e w' => e = .returned (.bool (wfCalm v)) ∧ Touch [r] w w' ∧ Blk w' r (rcells m (if wfCalm v then s.setA v else s) nv) := by
  obtain ⟨n, mode, task, ⟨op, line, fa, fb, st, ⟨on, wc, wi, hit⟩, ret⟩, ⟨ak, ac, ax, ay, ao⟩, notes, L⟩ := s
  obtain ⟨x0, x1, x2⟩ := hb.own
  cases hcm : wfCalm v with
  | true =>
    simp only [rcells, if_true, Rn.setA] at hr ⊢
    obtain ⟨y0, y1, y2⟩ := hr.own
    have HR := Lib.hid hr
    clear hr
    go_enter Tryz.func117, Tryz.ntmps117
    go_wp2_with fail
    refine (wf_calm v _ hv).mono ?_
    rw [hcm]
    rintro e w1 ⟨rfl, rfl⟩
    go_wp2_with fail
    refine (wf_calm v _ hv).mono ?_
    rw [hcm]
    rintro e w1 ⟨rfl, rfl⟩
    go_wp2
    go_ret
    refine ⟨rfl, (Touch.refl _ _).set (by simp) _, ?_⟩
    have := HR.out.set 6 (.int .u32 v)
    simp only [List.setIfInBounds_toArray, List.set_cons_zero, List.set_cons_succ] at this
    exact this
  | false =>
    simp only [rcells, Bool.false_eq_true, if_false] at hr ⊢
    have HR := Lib.hid hr
    clear hr
    go_enter Tryz.func117, Tryz.ntmps117
    go_wp2_with fail
    refine (wf_calm v _ hv).mono ?_
    rw [hcm]
    rintro e w1 ⟨rfl, rfl⟩
    go_wp2_with fail
    refine (wf_calm v _ hv).mono ?_
    rw [hcm]
    rintro e w1 ⟨rfl, rfl⟩
    go_wp2
    go_ret
    exact ⟨rfl, Touch.refl _ _, HR.out⟩
end Go.Proofs.YthnimpkoidablaaGreat.Z

set_option linter.unusedVariables false
set_option linter.unusedSimpArgs false
namespace Go.Proofs.YthnimpkoidablaaGreat.Z
open Go.RowKit
attribute [local go_sem ↓] Go.wp_at_zero Go.wp_at_succ
def wf10 (s : Rn) : Rn :=
  (wfCalmly s).note 2 1
set_option maxHeartbeats 1600000 in
theorem wf_10 {S0 : List Nat} {w0 w : World} {m a r : Nat} {rs : List Res} {s : Rn} (H : RunHas S0 w0 m a r rs s w) (hop : s.f.op = 1) (hl : s.f.line = 0) (hn : I64 s.n) (ha : 0 ≤ s.f.a ∧ s.f.a < 4294967296) (hc : s.notes.length ≤ 900) :
    Calls Tryz.prog 72 #[.pointer (some ⟨r, 0, none⟩)] w fun e w' => e = .returned (.tuple #[]) ∧ RunHas S0 w0 m a r rs (wf10 s) w' := by
  obtain ⟨z0, z2, z4, z5, z6, z7⟩ := H.facts hop hl rfl rfl
  have HC := Lib.hid hc
  have HA := Lib.hid ha
  have HN := Lib.hid hn
  have HH := Lib.hid (H.box rfl #[.pointer (some ⟨r, 4, none⟩)] 150)
  clear hc H hn ha
  unfold wf10
  go_enter Tryz.func72, Tryz.ntmps72
  go_wp2_with fail
  go_quiet (fail)
  have HW := HH.out.drewN nq
  clear z0 z2 z4 z5 z6 z7
  generalize w.heap.size = tb at HW ⊢
  generalize (World.drewN _ nq) = W at HW ⊢
  obtain ⟨z0, z2, z4, z5, z6, z7⟩ := HW.facts hop hl rfl rfl
  obtain ⟨u0, u1, u2⟩ := HW.first.own
  go_wp2_with fail
  refine (wf_calmly HW hop hl).mono ?_
  rintro e w1 ⟨rfl, H1⟩
  go_wp2_with fail
  refine (run_note H1 (by unfold wfCalmly; dsimp only; have := HC.out; split <;> exact Nat.le_trans this (by decide)) 2 1).mono ?_
  rintro e w2 ⟨rfl, H2⟩
  go_wp2_with fail
  go_end0
  exact ⟨rfl, H2.unbox⟩
def wf13 (s : Rn) : Rn :=
  wfCalmly s
set_option maxHeartbeats 1600000 in
theorem wf_13 {S0 : List Nat} {w0 w : World} {m a r : Nat} {rs : List Res} {s : Rn} (H : RunHas S0 w0 m a r rs s w) (hop : s.f.op = 1) (hl : s.f.line = 3) (hn : I64 s.n) (ha : 0 ≤ s.f.a ∧ s.f.a < 4294967296) (hc : s.notes.length ≤ 900) :
    Calls Tryz.prog 72 #[.pointer (some ⟨r, 0, none⟩)] w fun e w' => e = .returned (.tuple #[]) ∧ RunHas S0 w0 m a r rs (wf13 s) w' := by
  obtain ⟨z0, z2, z4, z5, z6, z7⟩ := H.facts hop hl rfl rfl
  have HC := Lib.hid hc
  have HA := Lib.hid ha
  have HN := Lib.hid hn
  have HH := Lib.hid (H.box rfl #[.pointer (some ⟨r, 4, none⟩)] 150)
  clear hc H hn ha
  unfold wf13
  go_enter Tryz.func72, Tryz.ntmps72
  go_wp2_with fail
  go_quiet (fail)
  have HW := HH.out.drewN nq
  clear z0 z2 z4 z5 z6 z7
  generalize w.heap.size = tb at HW ⊢
  generalize (World.drewN _ nq) = W at HW ⊢
  obtain ⟨z0, z2, z4, z5, z6, z7⟩ := HW.facts hop hl rfl rfl
  obtain ⟨u0, u1, u2⟩ := HW.first.own
  go_wp2_with fail
  refine (wf_calmly HW hop hl).mono ?_
  rintro e w1 ⟨rfl, H1⟩
  go_wp2_with fail
  go_end0
  exact ⟨rfl, H1.unbox⟩
def wf11 (s : Rn) : Rn :=
  if casB s.L 0 s.f.a ((s.f.a + 1) % 4294967296) then (s.did (doA s.L ⟨5, 0, s.f.a, (s.f.a + 1) % 4294967296, 0⟩)).wends false [4] else (s.did (doA s.L ⟨5, 0, s.f.a, (s.f.a + 1) % 4294967296, 0⟩)).goto 3
set_option maxHeartbeats 1600000 in
theorem wf_11 {S0 : List Nat} {w0 w : World} {m a r : Nat} {rs : List Res} {s : Rn} (H : RunHas S0 w0 m a r rs s w) (hop : s.f.op = 1) (hl : s.f.line = 1) (hn : I64 s.n) (ha : 0 ≤ s.f.a ∧ s.f.a < 4294967296) (hc : s.notes.length ≤ 900) :
    Calls Tryz.prog 72 #[.pointer (some ⟨r, 0, none⟩)] w fun e w' => e = .returned (.tuple #[]) ∧ RunHas S0 w0 m a r rs (wf11 s) w' := by
  obtain ⟨z0, z2, z4, z5, z6, z7⟩ := H.facts hop hl rfl rfl
  have HC := Lib.hid hc
  have HA := Lib.hid ha
  have HN := Lib.hid hn
  have HH := Lib.hid (H.box rfl #[.pointer (some ⟨r, 4, none⟩)] 150)
  clear hc H hn ha
  unfold wf11
  have hcas := fun W rs (H : RunHas S0 w0 m a r rs s W) => rn_cas H 0 s.f.a ((s.f.a + 1) % 4294967296) HA.out (by have := HA.out; omega)
  cases hb : casB s.L 0 s.f.a ((s.f.a + 1) % 4294967296) with
  | true =>
    rw [hb] at hcas
    simp only [if_true]
    have HCAS := Lib.hid hcas
    clear hcas hb
    go_enter Tryz.func72, Tryz.ntmps72
    go_wp2_with fail
    go_quiet (fail)
    have HW := HH.out.drewN nq
    clear z0 z2 z4 z5 z6 z7
    generalize w.heap.size = tb at HW ⊢
    generalize (World.drewN _ nq) = W at HW ⊢
    obtain ⟨z0, z2, z4, z5, z6, z7⟩ := HW.facts hop hl rfl rfl
    obtain ⟨u0, u1, u2⟩ := HW.first.own
    go_wp2_with fail
    refine region_flat (by kernel_rfl) (by kernel_rfl) ?_
    simp only [probed, probes, List.nil_append, List.cons_append, probe]
    go_wp2_with fail
    refine (HCAS.out _ _ HW.drew).mono ?_
    rintro e w1 ⟨rfl, H1⟩
    go_wp2_with fail
    rw [only_normal]
    rename_i hK
    refine hK _ _ ?_
    clear hK
    go_wp2_with fail
    refine (wf_end (l := [4]) (H1.box rfl _ _) rfl (by have := HC.out; first | exact Nat.le_trans this (by decide) | (simp [List.length_cons, Rn.note, Rn.did, Rn.setA, Rn.setB, Rn.waited, Rn.goto, Rn.noted]; omega)) false).mono ?_
    rintro e w8 ⟨rfl, H8⟩
    go_wp2_with fail
    go_end0
    exact ⟨rfl, H8.unbox.unbox⟩
  | false =>
    rw [hb] at hcas
    simp only [Bool.false_eq_true, if_false]
    have HCAS := Lib.hid hcas
    clear hcas hb
    go_enter Tryz.func72, Tryz.ntmps72
    go_wp2_with fail
    go_quiet (fail)
    have HW := HH.out.drewN nq
    clear z0 z2 z4 z5 z6 z7
    generalize w.heap.size = tb at HW ⊢
    generalize (World.drewN _ nq) = W at HW ⊢
    obtain ⟨z0, z2, z4, z5, z6, z7⟩ := HW.facts hop hl rfl rfl
    obtain ⟨u0, u1, u2⟩ := HW.first.own
    go_wp2_with fail
    refine region_flat (by kernel_rfl) (by kernel_rfl) ?_
    simp only [probed, probes, List.nil_append, List.cons_append, probe]
    go_wp2_with fail
    refine (HCAS.out _ _ HW.drew).mono ?_
    rintro e w1 ⟨rfl, H1⟩
    go_wp2_with fail
    rw [only_normal]
    rename_i hK
    refine hK _ _ ?_
    clear hK
    go_wp2_with fail
    refine (rn_go H1 3).mono ?_
    rintro e w2 ⟨rfl, H2⟩
    go_wp2_with fail
    go_end0
    exact ⟨rfl, H2.unbox⟩
def wf12 (s : Rn) : Rn :=
  let s1 := (s.keep (waitA s.L s.n s.mode s.task s.f.st 0 wfCalm)).waited (waitA s.L s.n s.mode s.task s.f.st 0 wfCalm)
  if (waitA s.L s.n s.mode s.task s.f.st 0 wfCalm).done then s1.goto 1 else s1
set_option maxHeartbeats 1600000 in
theorem wf_12 {S0 : List Nat} {w0 w : World} {m a r : Nat} {rs : List Res} {s : Rn} (H : RunHas S0 w0 m a r rs s w) (hop : s.f.op = 1) (hl : s.f.line = 2) (hn : I64 s.n) (ha : 0 ≤ s.f.a ∧ s.f.a < 4294967296) (hc : s.notes.length ≤ 900) :
    Calls Tryz.prog 72 #[.pointer (some ⟨r, 0, none⟩)] w fun e w' => e = .returned (.tuple #[]) ∧ RunHas S0 w0 m a r rs (wf12 s) w' := by
  obtain ⟨z0, z2, z4, z5, z6, z7⟩ := H.facts hop hl rfl rfl
  have HC := Lib.hid hc
  have HA := Lib.hid ha
  have HN := Lib.hid hn
  have HH := Lib.hid (H.box rfl #[.pointer (some ⟨r, 4, none⟩)] 150)
  clear hc H hn ha
  unfold wf12
  have hwt := fun (tb : Nat) W (H : RunHas S0 w0 m a r (.blk tb #[.pointer (some ⟨r, 4, none⟩)] :: rs) s W) => rn_wait_keep H HN.out 0 117 #[] #[.pointer (some ⟨tb, 0, none⟩)] wfCalm (enters_of Tryz.func117 (by kernel_rfl) rfl) (fun W nv v h0 h1 HX => wf_keeps v W ⟨h0, h1⟩ HX.blk1 (HX.at_ 3 rfl))
  generalize (waitA s.L s.n s.mode s.task s.f.st 0 wfCalm).seen = sn at hwt
  cases hd : (waitA s.L s.n s.mode s.task s.f.st 0 wfCalm).done <;> rw [hd] at hwt <;> simp only [if_true, Bool.false_eq_true, if_false] <;> (have HWT := Lib.hid hwt) <;> clear hwt hd
  · go_enter Tryz.func72, Tryz.ntmps72
    go_wp2_with fail
    go_quiet (fail)
    have HW := HH.out.drewN nq
    clear z0 z2 z4 z5 z6 z7
    generalize w.heap.size = tb at HW ⊢
    generalize (World.drewN _ nq) = W at HW ⊢
    obtain ⟨z0, z2, z4, z5, z6, z7⟩ := HW.facts hop hl rfl rfl
    obtain ⟨u0, u1, u2⟩ := HW.first.own
    go_wp2_with fail
    refine (HWT.out _ _ HW).mono ?_
    rintro e w1 ⟨rfl, H1⟩
    go_wp2_with fail
    go_end0
    exact ⟨rfl, H1.unbox⟩
  · go_enter Tryz.func72, Tryz.ntmps72
    go_wp2_with fail
    go_quiet (fail)
    have HW := HH.out.drewN nq
    clear z0 z2 z4 z5 z6 z7
    generalize w.heap.size = tb at HW ⊢
    generalize (World.drewN _ nq) = W at HW ⊢
    obtain ⟨z0, z2, z4, z5, z6, z7⟩ := HW.facts hop hl rfl rfl
    obtain ⟨u0, u1, u2⟩ := HW.first.own
    go_wp2_with fail
    refine (HWT.out _ _ HW).mono ?_
    rintro e w1 ⟨rfl, H1⟩
    go_wp2_with fail
    refine (rn_go H1 1).mono ?_
    rintro e w2 ⟨rfl, H2⟩
    go_wp2_with fail
    go_end0
    exact ⟨rfl, H2.unbox⟩
def wf20 (s : Rn) : Rn :=
  (s.did (doA s.L ⟨3, 0, 4294967295, 0, 0⟩)).wends true [6]
set_option maxHeartbeats 1600000 in
theorem wf_20 {S0 : List Nat} {w0 w : World} {m a r : Nat} {rs : List Res} {s : Rn} (H : RunHas S0 w0 m a r rs s w) (hop : s.f.op = 2) (hl : s.f.line = 0) (hn : I64 s.n) (ha : 0 ≤ s.f.a ∧ s.f.a < 4294967296) (hc : s.notes.length ≤ 900) :
    Calls Tryz.prog 72 #[.pointer (some ⟨r, 0, none⟩)] w fun e w' => e = .returned (.tuple #[]) ∧ RunHas S0 w0 m a r rs (wf20 s) w' := by
  obtain ⟨z0, z2, z4, z5, z6, z7⟩ := H.facts hop hl rfl rfl
  have HC := Lib.hid hc
  have HA := Lib.hid ha
  have HN := Lib.hid hn
  have HH := Lib.hid (H.box rfl #[.pointer (some ⟨r, 4, none⟩)] 150)
  clear hc H hn ha
  unfold wf20
  go_enter Tryz.func72, Tryz.ntmps72
  go_wp2_with fail
  go_quiet (fail)
  have HW := HH.out.drewN nq
  clear z0 z2 z4 z5 z6 z7
  generalize w.heap.size = tb at HW ⊢
  generalize (World.drewN _ nq) = W at HW ⊢
  obtain ⟨z0, z2, z4, z5, z6, z7⟩ := HW.facts hop hl rfl rfl
  obtain ⟨u0, u1, u2⟩ := HW.first.own
  go_wp2_with fail
  refine (rn_add HW 0 4294967295 (by decide)).mono ?_
  rintro e w1 ⟨rfl, H1⟩
  go_wp2_with fail
  refine (wf_end (l := [6]) (H1.box rfl _ _) rfl (by have := HC.out; first | exact Nat.le_trans this (by decide) | (simp [List.length_cons, Rn.note, Rn.did, Rn.setA, Rn.setB, Rn.waited, Rn.goto, Rn.noted]; omega)) true).mono ?_
  rintro e w8 ⟨rfl, H8⟩
  go_wp2_with fail
  go_end0
  exact ⟨rfl, H8.unbox.unbox⟩
def wf30 (s : Rn) : Rn :=
  (((s.did (doA s.L ⟨3, 0, 65536, 0, 0⟩)).setA (doA s.L ⟨3, 0, 65536, 0, 0⟩).1.old).note 2 2).goto 1
set_option maxHeartbeats 1600000 in
theorem wf_30 {S0 : List Nat} {w0 w : World} {m a r : Nat} {rs : List Res} {s : Rn} (H : RunHas S0 w0 m a r rs s w) (hop : s.f.op = 3) (hl : s.f.line = 0) (hn : I64 s.n) (ha : 0 ≤ s.f.a ∧ s.f.a < 4294967296) (hc : s.notes.length ≤ 900) :
    Calls Tryz.prog 72 #[.pointer (some ⟨r, 0, none⟩)] w fun e w' => e = .returned (.tuple #[]) ∧ RunHas S0 w0 m a r rs (wf30 s) w' := by
  obtain ⟨z0, z2, z4, z5, z6, z7⟩ := H.facts hop hl rfl rfl
  have HC := Lib.hid hc
  have HA := Lib.hid ha
  have HN := Lib.hid hn
  have HH := Lib.hid (H.box rfl #[.pointer (some ⟨r, 4, none⟩)] 150)
  clear hc H hn ha
  unfold wf30
  go_enter Tryz.func72, Tryz.ntmps72
  go_wp2_with fail
  go_quiet (fail)
  have HW := HH.out.drewN nq
  clear z0 z2 z4 z5 z6 z7
  generalize w.heap.size = tb at HW ⊢
  generalize (World.drewN _ nq) = W at HW ⊢
  obtain ⟨z0, z2, z4, z5, z6, z7⟩ := HW.facts hop hl rfl rfl
  obtain ⟨u0, u1, u2⟩ := HW.first.own
  go_wp2_with fail
  have hne := HW.ne_firstW
  have hd : ∀ i, W.drew.cell? ⟨tb, i, none⟩ = (#[.pointer (some ⟨r, 4, none⟩)] : Array Value)[i]? := u1
  have HADD := Lib.hid (fun W rs (H : RunHas S0 w0 m a r rs s W) => rn_add H 0 65536 (by decide))
  go_region_held3 (fun w' => ∀ i, w'.cell? ⟨tb, i, none⟩ = (#[.pointer (some ⟨r, 4, none⟩)] : Array Value)[i]?)
    (first | assumption | (intro i; rw [World.cell?_setCell_far _ _ _ _ (by exact hne)]; apply_assumption) | (intro i; apply_assumption))
    (first | (go_at_call 88; (with_reducible refine (HADD.out _ _ HW.drew).mono ?_); rintro e w1 ⟨rfl, H1⟩; obtain ⟨v0, v1, v2⟩ := H1.first.own; obtain ⟨x0, x2, x4, x5, x6, x7⟩ := H1.facts hop hl rfl rfl))
  have H2 := H1.setA (doA s.L ⟨3, 0, 65536, 0, 0⟩).1.old
  go_wp2_with fail
  refine (run_note H2 (by have := HC.out; first | exact Nat.le_trans this (by decide) | (simp [Rn.note, Rn.did, Rn.setA, Rn.setB, Rn.waited, Rn.goto, Rn.noted]; omega)) 2 2).mono ?_
  rintro e w3 ⟨rfl, H3⟩
  go_wp2_with fail
  refine (rn_go H3 1).mono ?_
  rintro e w4 ⟨rfl, H4⟩
  go_wp2_with fail
  go_end0
  exact ⟨rfl, H4.unbox⟩
def wf31 (s : Rn) : Rn :=
  let s1 := s.waited (waitA s.L s.n s.mode s.task s.f.st 0 (fun v => wfT v == wfG s.f.a && wfR v == 0))
  let s2 := if (waitA s.L s.n s.mode s.task s.f.st 0 (fun v => wfT v == wfG s.f.a && wfR v == 0)).seen then s1.note 4 0 else s1
  if (waitA s.L s.n s.mode s.task s.f.st 0 (fun v => wfT v == wfG s.f.a && wfR v == 0)).done then s2.fin true else s2
set_option maxHeartbeats 1600000 in
theorem wf_31 {S0 : List Nat} {w0 w : World} {m a r : Nat} {rs : List Res} {s : Rn} (H : RunHas S0 w0 m a r rs s w) (hop : s.f.op = 3) (hl : s.f.line = 1) (hn : I64 s.n) (ha : 0 ≤ s.f.a ∧ s.f.a < 4294967296) (hc : s.notes.length ≤ 900) :
    Calls Tryz.prog 72 #[.pointer (some ⟨r, 0, none⟩)] w fun e w' => e = .returned (.tuple #[]) ∧ RunHas S0 w0 m a r rs (wf31 s) w' := by
  obtain ⟨z0, z2, z4, z5, z6, z7⟩ := H.facts hop hl rfl rfl
  have HC := Lib.hid hc
  have HA := Lib.hid ha
  have HN := Lib.hid hn
  have HH := Lib.hid (H.box rfl #[.pointer (some ⟨r, 4, none⟩)] 150)
  clear hc H hn ha
  unfold wf31
  have hwt := fun (t2 : Nat) W rs (H : RunHas S0 w0 m a r (.blk t2 #[.int .u32 (wfG s.f.a)] :: rs) s W) => rn_wait H HN.out 0 120 #[] #[.pointer (some ⟨t2, 0, none⟩)] (fun v => wfT v == wfG s.f.a && wfR v == 0) (enters_of Tryz.func120 (by kernel_rfl) rfl) (fun W v h0 h1 H => wf_turn (wfG s.f.a) v W ⟨h0, h1⟩ H.first)
  have hgv := fun W => diff_get16 s.f.a W HA.out
  rw [show s.f.a / 65536 % 256 = wfG s.f.a from rfl] at hgv
  have HGV := Lib.hid hgv
  clear hgv
  cases hs : (waitA s.L s.n s.mode s.task s.f.st 0 (fun v => wfT v == wfG s.f.a && wfR v == 0)).seen <;> cases hd : (waitA s.L s.n s.mode s.task s.f.st 0 (fun v => wfT v == wfG s.f.a && wfR v == 0)).done <;> rw [hs, hd] at hwt <;> simp only [if_true, Bool.false_eq_true, if_false] <;> (have HWT := Lib.hid hwt) <;> clear hwt hs hd
  · go_enter Tryz.func72, Tryz.ntmps72
    go_wp2_with fail
    go_quiet (fail)
    have HW := HH.out.drewN nq
    clear z0 z2 z4 z5 z6 z7
    generalize w.heap.size = tb at HW ⊢
    generalize (World.drewN _ nq) = W at HW ⊢
    obtain ⟨z0, z2, z4, z5, z6, z7⟩ := HW.facts hop hl rfl rfl
    obtain ⟨u0, u1, u2⟩ := HW.first.own
    go_wp2_with fail
    refine (HGV.out _).mono ?_
    rintro e w9 ⟨rfl, rfl⟩
    go_wp2_with fail
    refine (HWT.out _ _ _ (HW.box rfl _ _)).mono ?_
    rintro e w1 ⟨rfl, H1⟩
    go_wp2_with fail
    go_end0
    exact ⟨rfl, H1.unbox.unbox⟩
  · go_enter Tryz.func72, Tryz.ntmps72
    go_wp2_with fail
    go_quiet (fail)
    have HW := HH.out.drewN nq
    clear z0 z2 z4 z5 z6 z7
    generalize w.heap.size = tb at HW ⊢
    generalize (World.drewN _ nq) = W at HW ⊢
    obtain ⟨z0, z2, z4, z5, z6, z7⟩ := HW.facts hop hl rfl rfl
    obtain ⟨u0, u1, u2⟩ := HW.first.own
    go_wp2_with fail
    refine (HGV.out _).mono ?_
    rintro e w9 ⟨rfl, rfl⟩
    go_wp2_with fail
    refine (HWT.out _ _ _ (HW.box rfl _ _)).mono ?_
    rintro e w1 ⟨rfl, H1⟩
    go_wp2_with fail
    refine (rn_end H1 true).mono ?_
    rintro e w2 ⟨rfl, H2⟩
    go_wp2_with fail
    go_end0
    exact ⟨rfl, H2.unbox.unbox⟩
  · go_enter Tryz.func72, Tryz.ntmps72
    go_wp2_with fail
    go_quiet (fail)
    have HW := HH.out.drewN nq
    clear z0 z2 z4 z5 z6 z7
    generalize w.heap.size = tb at HW ⊢
    generalize (World.drewN _ nq) = W at HW ⊢
    obtain ⟨z0, z2, z4, z5, z6, z7⟩ := HW.facts hop hl rfl rfl
    obtain ⟨u0, u1, u2⟩ := HW.first.own
    go_wp2_with fail
    refine (HGV.out _).mono ?_
    rintro e w9 ⟨rfl, rfl⟩
    go_wp2_with fail
    refine (HWT.out _ _ _ (HW.box rfl _ _)).mono ?_
    rintro e w1 ⟨rfl, H1⟩
    go_wp2_with fail
    refine (run_note H1 (by have := HC.out; first | exact Nat.le_trans this (by decide) | (simp [Rn.note, Rn.did, Rn.setA, Rn.setB, Rn.waited, Rn.goto, Rn.noted]; omega)) 4 0).mono ?_
    rintro e w2 ⟨rfl, H2⟩
    go_wp2_with fail
    go_end0
    exact ⟨rfl, H2.unbox.unbox⟩
  · go_enter Tryz.func72, Tryz.ntmps72
    go_wp2_with fail
    go_quiet (fail)
    have HW := HH.out.drewN nq
    clear z0 z2 z4 z5 z6 z7
    generalize w.heap.size = tb at HW ⊢
    generalize (World.drewN _ nq) = W at HW ⊢
    obtain ⟨z0, z2, z4, z5, z6, z7⟩ := HW.facts hop hl rfl rfl
    obtain ⟨u0, u1, u2⟩ := HW.first.own
    go_wp2_with fail
    refine (HGV.out _).mono ?_
    rintro e w9 ⟨rfl, rfl⟩
    go_wp2_with fail
    refine (HWT.out _ _ _ (HW.box rfl _ _)).mono ?_
    rintro e w1 ⟨rfl, H1⟩
    go_wp2_with fail
    refine (run_note H1 (by have := HC.out; first | exact Nat.le_trans this (by decide) | (simp [Rn.note, Rn.did, Rn.setA, Rn.setB, Rn.waited, Rn.goto, Rn.noted]; omega)) 4 0).mono ?_
    rintro e w2 ⟨rfl, H2⟩
    go_wp2_with fail
    refine (rn_end H2 true).mono ?_
    rintro e w3 ⟨rfl, H3⟩
    go_wp2_with fail
    go_end0
    exact ⟨rfl, H3.unbox.unbox⟩
end Go.Proofs.YthnimpkoidablaaGreat.Z

set_option linter.unusedVariables false
set_option linter.unusedSimpArgs false
namespace Go.Proofs.YthnimpkoidablaaGreat.Z
open Go.RowKit
attribute [local go_sem ↓] Go.wp_at_zero Go.wp_at_succ
def wf40 (s : Rn) : Rn :=
  ((s.did (doA s.L ⟨1, 0, 0, 0, 0⟩)).setA (doA s.L ⟨1, 0, 0, 0, 0⟩).1.old).goto 1
set_option maxHeartbeats 1600000 in
theorem wf_40 {S0 : List Nat} {w0 w : World} {m a r : Nat} {rs : List Res} {s : Rn} (H : RunHas S0 w0 m a r rs s w) (hop : s.f.op = 4) (hl : s.f.line = 0) (hn : I64 s.n) (ha : 0 ≤ s.f.a ∧ s.f.a < 4294967296) (hc : s.notes.length ≤ 900) :
    Calls Tryz.prog 122 #[.pointer (some ⟨r, 0, none⟩)] w fun e w' => e = .returned (.tuple #[]) ∧ RunHas S0 w0 m a r rs (wf40 s) w' := by
  obtain ⟨z0, z2, z4, z5, z6, z7⟩ := H.facts hop hl rfl rfl
  have HC := Lib.hid hc
  have HA := Lib.hid ha
  have HN := Lib.hid hn
  have HH := Lib.hid H
  clear hc H hn ha
  unfold wf40
  go_enter Tryz.func122, Tryz.ntmps122
  go_wp2_with fail
  go_quiet (fail)
  have HW := HH.out.drewN nq
  clear z0 z2 z4 z5 z6 z7
  generalize w.drewN nq = W at HW ⊢
  obtain ⟨z0, z2, z4, z5, z6, z7⟩ := HW.facts hop hl rfl rfl
  go_wp2_with fail
  refine (rn_load HW 0).mono ?_
  rintro e w1 ⟨rfl, H1⟩
  obtain ⟨x0, x2, x4, x5, x6, x7⟩ := H1.facts hop hl rfl rfl
  go_wp2_with fail
  refine (rn_go (H1.setA (doA s.L ⟨1, 0, 0, 0, 0⟩).1.old) 1).mono ?_
  rintro e w2 ⟨rfl, H2⟩
  go_wp2_with fail
  go_end0
  exact ⟨rfl, H2⟩
def wf80 (s : Rn) : Rn :=
  ((s.did (doA s.L ⟨1, 0, 0, 0, 0⟩)).setA (doA s.L ⟨1, 0, 0, 0, 0⟩).1.old).goto 1
set_option maxHeartbeats 1600000 in
theorem wf_80 {S0 : List Nat} {w0 w : World} {m a r : Nat} {rs : List Res} {s : Rn} (H : RunHas S0 w0 m a r rs s w) (hop : s.f.op = 8) (hl : s.f.line = 0) (hn : I64 s.n) (ha : 0 ≤ s.f.a ∧ s.f.a < 4294967296) (hc : s.notes.length ≤ 900) :
    Calls Tryz.prog 122 #[.pointer (some ⟨r, 0, none⟩)] w fun e w' => e = .returned (.tuple #[]) ∧ RunHas S0 w0 m a r rs (wf80 s) w' := by
  obtain ⟨z0, z2, z4, z5, z6, z7⟩ := H.facts hop hl rfl rfl
  have HC := Lib.hid hc
  have HA := Lib.hid ha
  have HN := Lib.hid hn
  have HH := Lib.hid H
  clear hc H hn ha
  unfold wf80
  go_enter Tryz.func122, Tryz.ntmps122
  go_wp2_with fail
  go_quiet (fail)
  have HW := HH.out.drewN nq
  clear z0 z2 z4 z5 z6 z7
  generalize w.drewN nq = W at HW ⊢
  obtain ⟨z0, z2, z4, z5, z6, z7⟩ := HW.facts hop hl rfl rfl
  go_wp2_with fail
  refine (rn_load HW 0).mono ?_
  rintro e w1 ⟨rfl, H1⟩
  obtain ⟨x0, x2, x4, x5, x6, x7⟩ := H1.facts hop hl rfl rfl
  go_wp2_with fail
  refine (rn_go (H1.setA (doA s.L ⟨1, 0, 0, 0, 0⟩).1.old) 1).mono ?_
  rintro e w2 ⟨rfl, H2⟩
  go_wp2_with fail
  go_end0
  exact ⟨rfl, H2⟩
def wf41 (s : Rn) : Rn :=
  (s.did (doA s.L ⟨3, 0, bump8 s.f.a, 0, 0⟩)).wends true [7, 8]
set_option maxHeartbeats 1600000 in
theorem wf_41 {S0 : List Nat} {w0 w : World} {m a r : Nat} {rs : List Res} {s : Rn} (H : RunHas S0 w0 m a r rs s w) (hop : s.f.op = 4) (hl : s.f.line = 1) (hn : I64 s.n) (ha : 0 ≤ s.f.a ∧ s.f.a < 4294967296) (hc : s.notes.length ≤ 900) :
    Calls Tryz.prog 122 #[.pointer (some ⟨r, 0, none⟩)] w fun e w' => e = .returned (.tuple #[]) ∧ RunHas S0 w0 m a r rs (wf41 s) w' := by
  obtain ⟨z0, z2, z4, z5, z6, z7⟩ := H.facts hop hl rfl rfl
  have HC := Lib.hid hc
  have HA := Lib.hid ha
  have HN := Lib.hid hn
  have HH := Lib.hid H
  clear hc H hn ha
  unfold wf41
  go_enter Tryz.func122, Tryz.ntmps122
  go_wp2_with fail
  go_quiet (fail)
  have HW := HH.out.drewN nq
  clear z0 z2 z4 z5 z6 z7
  generalize w.drewN nq = W at HW ⊢
  obtain ⟨z0, z2, z4, z5, z6, z7⟩ := HW.facts hop hl rfl rfl
  go_wp2_with fail
  refine (wf_next _ _ HA.out).mono ?_
  rintro e w9 ⟨rfl, rfl⟩
  go_wp2_with fail
  refine (rn_add HW 0 (bump8 s.f.a) (by have : 0 ≤ bump8 s.f.a ∧ bump8 s.f.a < 4294967296 := (by unfold bump8; omega); omega)).mono ?_
  rintro e w1 ⟨rfl, H1⟩
  go_wp2_with fail
  refine (wf_end (l := [7, 8]) (H1.box rfl _ _) rfl (by have := HC.out; first | exact Nat.le_trans this (by decide) | (simp [List.length_cons, Rn.note, Rn.did, Rn.setA, Rn.setB, Rn.waited, Rn.goto, Rn.noted]; omega)) true).mono ?_
  rintro e w8 ⟨rfl, H8⟩
  go_wp2_with fail
  go_end0
  exact ⟨rfl, H8.unbox⟩
def wf81 (s : Rn) : Rn :=
  (s.did (doA s.L ⟨3, 0, ((bump8 s.f.a + 1) % 4294967296), 0, 0⟩)).wends true [10]
set_option maxHeartbeats 1600000 in
theorem wf_81 {S0 : List Nat} {w0 w : World} {m a r : Nat} {rs : List Res} {s : Rn} (H : RunHas S0 w0 m a r rs s w) (hop : s.f.op = 8) (hl : s.f.line = 1) (hn : I64 s.n) (ha : 0 ≤ s.f.a ∧ s.f.a < 4294967296) (hc : s.notes.length ≤ 900) :
    Calls Tryz.prog 122 #[.pointer (some ⟨r, 0, none⟩)] w fun e w' => e = .returned (.tuple #[]) ∧ RunHas S0 w0 m a r rs (wf81 s) w' := by
  obtain ⟨z0, z2, z4, z5, z6, z7⟩ := H.facts hop hl rfl rfl
  have HC := Lib.hid hc
  have HA := Lib.hid ha
  have HN := Lib.hid hn
  have HH := Lib.hid H
  clear hc H hn ha
  unfold wf81
  go_enter Tryz.func122, Tryz.ntmps122
  go_wp2_with fail
  go_quiet (fail)
  have HW := HH.out.drewN nq
  clear z0 z2 z4 z5 z6 z7
  generalize w.drewN nq = W at HW ⊢
  obtain ⟨z0, z2, z4, z5, z6, z7⟩ := HW.facts hop hl rfl rfl
  go_wp2_with fail
  refine (wf_next _ _ HA.out).mono ?_
  rintro e w9 ⟨rfl, rfl⟩
  go_wp2_with fail
  refine (rn_add HW 0 (((bump8 s.f.a + 1) % 4294967296)) (by have : 0 ≤ bump8 s.f.a ∧ bump8 s.f.a < 4294967296 := (by unfold bump8; omega); omega)).mono ?_
  rintro e w1 ⟨rfl, H1⟩
  go_wp2_with fail
  refine (wf_end (l := [10]) (H1.box rfl _ _) rfl (by have := HC.out; first | exact Nat.le_trans this (by decide) | (simp [List.length_cons, Rn.note, Rn.did, Rn.setA, Rn.setB, Rn.waited, Rn.goto, Rn.noted]; omega)) true).mono ?_
  rintro e w8 ⟨rfl, H8⟩
  go_wp2_with fail
  go_end0
  exact ⟨rfl, H8.unbox⟩
def wf50 (s : Rn) : Rn :=
  s.wchosen (fun _ => true)
set_option maxHeartbeats 1600000 in
theorem wf_50 {S0 : List Nat} {w0 w : World} {m a r : Nat} {rs : List Res} {s : Rn} (H : RunHas S0 w0 m a r rs s w) (hop : s.f.op = 5) (hl : s.f.line = 0) (hn : I64 s.n) (ha : 0 ≤ s.f.a ∧ s.f.a < 4294967296) (hc : s.notes.length ≤ 900) :
    Calls Tryz.prog 122 #[.pointer (some ⟨r, 0, none⟩)] w fun e w' => e = .returned (.tuple #[]) ∧ RunHas S0 w0 m a r rs (wf50 s) w' := by
  obtain ⟨z0, z2, z4, z5, z6, z7⟩ := H.facts hop hl rfl rfl
  have HC := Lib.hid hc
  have HA := Lib.hid ha
  have HN := Lib.hid hn
  have HH := Lib.hid H
  clear hc H hn ha
  unfold wf50
  go_enter Tryz.func122, Tryz.ntmps122
  go_wp2_with fail
  go_quiet (fail)
  have HW := HH.out.drewN nq
  clear z0 z2 z4 z5 z6 z7
  generalize w.drewN nq = W at HW ⊢
  obtain ⟨z0, z2, z4, z5, z6, z7⟩ := HW.facts hop hl rfl rfl
  go_wp2_with fail
  refine (wf_choose HW HC.out hop hl 159 #[] #[] (fun _ => true) (enters_of Tryz.func159 (by kernel_rfl) rfl) (fun W v s' hv _ => wf_may1 v W hv)).mono ?_
  rintro e w1 ⟨rfl, H1⟩
  go_wp2_with fail
  go_end0
  exact ⟨rfl, H1⟩
def wf60 (s : Rn) : Rn :=
  s.wchosen (fun v => wfR v == 0)
set_option maxHeartbeats 1600000 in
theorem wf_60 {S0 : List Nat} {w0 w : World} {m a r : Nat} {rs : List Res} {s : Rn} (H : RunHas S0 w0 m a r rs s w) (hop : s.f.op = 6) (hl : s.f.line = 0) (hn : I64 s.n) (ha : 0 ≤ s.f.a ∧ s.f.a < 4294967296) (hc : s.notes.length ≤ 900) :
    Calls Tryz.prog 122 #[.pointer (some ⟨r, 0, none⟩)] w fun e w' => e = .returned (.tuple #[]) ∧ RunHas S0 w0 m a r rs (wf60 s) w' := by
  obtain ⟨z0, z2, z4, z5, z6, z7⟩ := H.facts hop hl rfl rfl
  have HC := Lib.hid hc
  have HA := Lib.hid ha
  have HN := Lib.hid hn
  have HH := Lib.hid H
  clear hc H hn ha
  unfold wf60
  go_enter Tryz.func122, Tryz.ntmps122
  go_wp2_with fail
  go_quiet (fail)
  have HW := HH.out.drewN nq
  clear z0 z2 z4 z5 z6 z7
  generalize w.drewN nq = W at HW ⊢
  obtain ⟨z0, z2, z4, z5, z6, z7⟩ := HW.facts hop hl rfl rfl
  go_wp2_with fail
  refine (wf_choose HW HC.out hop hl 160 #[] #[] (fun v => wfR v == 0) (enters_of Tryz.func160 (by kernel_rfl) rfl) (fun W v s' hv _ => wf_may2 v W hv)).mono ?_
  rintro e w1 ⟨rfl, H1⟩
  go_wp2_with fail
  go_end0
  exact ⟨rfl, H1⟩
def wf70 (s : Rn) : Rn :=
  s.wchosen (fun v => wfR v == 1)
set_option maxHeartbeats 1600000 in
theorem wf_70 {S0 : List Nat} {w0 w : World} {m a r : Nat} {rs : List Res} {s : Rn} (H : RunHas S0 w0 m a r rs s w) (hop : s.f.op = 7) (hl : s.f.line = 0) (hn : I64 s.n) (ha : 0 ≤ s.f.a ∧ s.f.a < 4294967296) (hc : s.notes.length ≤ 900) :
    Calls Tryz.prog 122 #[.pointer (some ⟨r, 0, none⟩)] w fun e w' => e = .returned (.tuple #[]) ∧ RunHas S0 w0 m a r rs (wf70 s) w' := by
  obtain ⟨z0, z2, z4, z5, z6, z7⟩ := H.facts hop hl rfl rfl
  have HC := Lib.hid hc
  have HA := Lib.hid ha
  have HN := Lib.hid hn
  have HH := Lib.hid H
  clear hc H hn ha
  unfold wf70
  go_enter Tryz.func122, Tryz.ntmps122
  go_wp2_with fail
  go_quiet (fail)
  have HW := HH.out.drewN nq
  clear z0 z2 z4 z5 z6 z7
  generalize w.drewN nq = W at HW ⊢
  obtain ⟨z0, z2, z4, z5, z6, z7⟩ := HW.facts hop hl rfl rfl
  go_wp2_with fail
  refine (wf_choose HW HC.out hop hl 161 #[] #[] (fun v => wfR v == 1) (enters_of Tryz.func161 (by kernel_rfl) rfl) (fun W v s' hv _ => wf_may3 v W hv)).mono ?_
  rintro e w1 ⟨rfl, H1⟩
  go_wp2_with fail
  go_end0
  exact ⟨rfl, H1⟩
def wf51 (s : Rn) : Rn :=
  s.wswapped 1 1 4
set_option maxHeartbeats 1600000 in
theorem wf_51 {S0 : List Nat} {w0 w : World} {m a r : Nat} {rs : List Res} {s : Rn} (H : RunHas S0 w0 m a r rs s w) (hop : s.f.op = 5) (hl : s.f.line = 1) (hn : I64 s.n) (ha : 0 ≤ s.f.a ∧ s.f.a < 4294967296) (hc : s.notes.length ≤ 900) :
    Calls Tryz.prog 122 #[.pointer (some ⟨r, 0, none⟩)] w fun e w' => e = .returned (.tuple #[]) ∧ RunHas S0 w0 m a r rs (wf51 s) w' := by
  obtain ⟨z0, z2, z4, z5, z6, z7⟩ := H.facts hop hl rfl rfl
  have HC := Lib.hid hc
  have HA := Lib.hid ha
  have HN := Lib.hid hn
  have HH := Lib.hid H
  clear hc H hn ha
  unfold wf51
  go_enter Tryz.func122, Tryz.ntmps122
  go_wp2_with fail
  go_quiet (fail)
  have HW := HH.out.drewN nq
  clear z0 z2 z4 z5 z6 z7
  generalize w.drewN nq = W at HW ⊢
  obtain ⟨z0, z2, z4, z5, z6, z7⟩ := HW.facts hop hl rfl rfl
  go_wp2_with fail
  refine (wf_swap HW HC.out hop hl HA.out 1 1 4 (by decide)).mono ?_
  rintro e w1 ⟨rfl, H1⟩
  go_wp2_with fail
  go_end0
  exact ⟨rfl, H1⟩
def wf61 (s : Rn) : Rn :=
  s.wswapped 65536 2 4
set_option maxHeartbeats 1600000 in
theorem wf_61 {S0 : List Nat} {w0 w : World} {m a r : Nat} {rs : List Res} {s : Rn} (H : RunHas S0 w0 m a r rs s w) (hop : s.f.op = 6) (hl : s.f.line = 1) (hn : I64 s.n) (ha : 0 ≤ s.f.a ∧ s.f.a < 4294967296) (hc : s.notes.length ≤ 900) :
    Calls Tryz.prog 122 #[.pointer (some ⟨r, 0, none⟩)] w fun e w' => e = .returned (.tuple #[]) ∧ RunHas S0 w0 m a r rs (wf61 s) w' := by
  obtain ⟨z0, z2, z4, z5, z6, z7⟩ := H.facts hop hl rfl rfl
  have HC := Lib.hid hc
  have HA := Lib.hid ha
  have HN := Lib.hid hn
  have HH := Lib.hid H
  clear hc H hn ha
  unfold wf61
  go_enter Tryz.func122, Tryz.ntmps122
  go_wp2_with fail
  go_quiet (fail)
  have HW := HH.out.drewN nq
  clear z0 z2 z4 z5 z6 z7
  generalize w.drewN nq = W at HW ⊢
  obtain ⟨z0, z2, z4, z5, z6, z7⟩ := HW.facts hop hl rfl rfl
  go_wp2_with fail
  refine (wf_swap HW HC.out hop hl HA.out 65536 2 4 (by decide)).mono ?_
  rintro e w1 ⟨rfl, H1⟩
  go_wp2_with fail
  go_end0
  exact ⟨rfl, H1⟩
def wf71 (s : Rn) : Rn :=
  s.wswapped 65535 0 9
set_option maxHeartbeats 1600000 in
theorem wf_71 {S0 : List Nat} {w0 w : World} {m a r : Nat} {rs : List Res} {s : Rn} (H : RunHas S0 w0 m a r rs s w) (hop : s.f.op = 7) (hl : s.f.line = 1) (hn : I64 s.n) (ha : 0 ≤ s.f.a ∧ s.f.a < 4294967296) (hc : s.notes.length ≤ 900) :
    Calls Tryz.prog 122 #[.pointer (some ⟨r, 0, none⟩)] w fun e w' => e = .returned (.tuple #[]) ∧ RunHas S0 w0 m a r rs (wf71 s) w' := by
  obtain ⟨z0, z2, z4, z5, z6, z7⟩ := H.facts hop hl rfl rfl
  have HC := Lib.hid hc
  have HA := Lib.hid ha
  have HN := Lib.hid hn
  have HH := Lib.hid H
  clear hc H hn ha
  unfold wf71
  go_enter Tryz.func122, Tryz.ntmps122
  go_wp2_with fail
  go_quiet (fail)
  have HW := HH.out.drewN nq
  clear z0 z2 z4 z5 z6 z7
  generalize w.drewN nq = W at HW ⊢
  obtain ⟨z0, z2, z4, z5, z6, z7⟩ := HW.facts hop hl rfl rfl
  go_wp2_with fail
  refine (wf_swap HW HC.out hop hl HA.out 65535 0 9 (by decide)).mono ?_
  rintro e w1 ⟨rfl, H1⟩
  go_wp2_with fail
  go_end0
  exact ⟨rfl, H1⟩
end Go.Proofs.YthnimpkoidablaaGreat.Z

set_option linter.unusedVariables false
set_option linter.unusedSimpArgs false
namespace Go.Proofs.YthnimpkoidablaaGreat.Z
open Go.RowKit
set_option maxHeartbeats 3200000 in
theorem wf_default {S0 : List Nat} {w0 w : World} {m a r : Nat} {rs : List Res} {s s2 : Rn} (H : RunHas S0 w0 m a r rs s w) {o l : Int} (hop : s.f.op = o) (hl : s.f.line = l)
    (h0 : ¬ (o = 1 ∧ l = 0)) (h1 : ¬ (o = 1 ∧ l = 1)) (h2 : ¬ (o = 1 ∧ l = 2)) (h3 : ¬ (o = 1 ∧ l = 3)) (h4 : ¬ (o = 2 ∧ l = 0)) (h5 : ¬ (o = 3 ∧ l = 0)) (h6 : ¬ (o = 3 ∧ l = 1))
    (ht : ∀ rs W, RunHas S0 w0 m a r rs s W → Calls Tryz.prog 122 #[.pointer (some ⟨r, 0, none⟩)] W fun e w' => e = .returned (.tuple #[]) ∧ RunHas S0 w0 m a r rs s2 w') :
    Calls Tryz.prog 72 #[.pointer (some ⟨r, 0, none⟩)] w fun e w' => e = .returned (.tuple #[]) ∧ RunHas S0 w0 m a r rs s2 w' := by
  have HT := Lib.hid ht
  obtain ⟨z0, z2, z4, z5, z6, z7⟩ := H.facts hop hl rfl rfl
  have HH := Lib.hid (H.box rfl #[.pointer (some ⟨r, 4, none⟩)] 150)
  clear H ht
  go_enter Tryz.func72, Tryz.ntmps72
  go_wp2_with fail
  go_quiet (fail)
  have HW := HH.out.drewN nq
  clear z0 z2 z4 z5 z6 z7
  generalize w.heap.size = tb at HW ⊢
  generalize (World.drewN _ nq) = W at HW ⊢
  obtain ⟨z0, z2, z4, z5, z6, z7⟩ := HW.facts hop hl rfl rfl
  obtain ⟨u0, u1, u2⟩ := HW.first.own
  go_wp2_with fail
  all_goals
    refine (HT.out _ _ HW).mono ?_
    rintro e w1 ⟨rfl, H1⟩
    go_wp2_with fail
    go_end0
    exact ⟨rfl, H1.unbox⟩
set_option maxHeartbeats 3200000 in
theorem wf_none {S0 : List Nat} {w0 w : World} {m a r : Nat} {rs : List Res} {s : Rn} (H : RunHas S0 w0 m a r rs s w) {o l : Int} (hop : s.f.op = o) (hl : s.f.line = l) (h0 : ¬ (o = 4 ∧ l = 0)) (h1 : ¬ (o = 8 ∧ l = 0)) (h2 : ¬ (o = 4 ∧ l = 1)) (h3 : ¬ (o = 8 ∧ l = 1)) (h4 : ¬ (o = 5 ∧ l = 0)) (h5 : ¬ (o = 6 ∧ l = 0)) (h6 : ¬ (o = 7 ∧ l = 0)) (h7 : ¬ (o = 5 ∧ l = 1)) (h8 : ¬ (o = 6 ∧ l = 1)) (h9 : ¬ (o = 7 ∧ l = 1)) :
    Calls Tryz.prog 122 #[.pointer (some ⟨r, 0, none⟩)] w fun e w' => e = .returned (.tuple #[]) ∧ RunHas S0 w0 m a r rs s w' := by
  obtain ⟨z0, z2, z4, z5, z6, z7⟩ := H.facts hop hl rfl rfl
  have HH := Lib.hid H
  clear H
  go_enter Tryz.func122, Tryz.ntmps122
  go_wp2_with fail
  go_quiet (fail)
  have HW := HH.out.drewN nq
  clear z0 z2 z4 z5 z6 z7
  generalize w.drewN nq = W at HW ⊢
  obtain ⟨z0, z2, z4, z5, z6, z7⟩ := HW.facts hop hl rfl rfl
  go_wp2_with fail
  all_goals
    go_end0
    exact ⟨rfl, HW⟩
def wfA (s : Rn) : Rn := if s.f.op = 1 ∧ s.f.line = 0 then wf10 s else if s.f.op = 1 ∧ s.f.line = 1 then wf11 s else if s.f.op = 1 ∧ s.f.line = 2 then wf12 s else if s.f.op = 1 ∧ s.f.line = 3 then wf13 s else if s.f.op = 2 ∧ s.f.line = 0 then wf20 s else if s.f.op = 3 ∧ s.f.line = 0 then wf30 s else if s.f.op = 3 ∧ s.f.line = 1 then wf31 s else if s.f.op = 4 ∧ s.f.line = 0 then wf40 s else if s.f.op = 8 ∧ s.f.line = 0 then wf80 s else if s.f.op = 4 ∧ s.f.line = 1 then wf41 s else if s.f.op = 8 ∧ s.f.line = 1 then wf81 s else if s.f.op = 5 ∧ s.f.line = 0 then wf50 s else if s.f.op = 6 ∧ s.f.line = 0 then wf60 s else if s.f.op = 7 ∧ s.f.line = 0 then wf70 s else if s.f.op = 5 ∧ s.f.line = 1 then wf51 s else if s.f.op = 6 ∧ s.f.line = 1 then wf61 s else if s.f.op = 7 ∧ s.f.line = 1 then wf71 s else s
theorem wf_lines {S0 : List Nat} {w0 w : World} {m a r : Nat} {rs : List Res} {s : Rn} (H : RunHas S0 w0 m a r rs s w) (hn : I64 s.n) (ha : 0 ≤ s.f.a ∧ s.f.a < 4294967296) (hc : s.notes.length ≤ 900) :
    Calls Tryz.prog 72 #[.pointer (some ⟨r, 0, none⟩)] w fun e w' => e = .returned (.tuple #[]) ∧ RunHas S0 w0 m a r rs (wfA s) w' := by
  unfold wfA
  by_cases h10 : s.f.op = 1 ∧ s.f.line = 0
  · rw [if_pos h10]; exact wf_10 H h10.1 h10.2 hn ha hc
  rw [if_neg h10]
  by_cases h11 : s.f.op = 1 ∧ s.f.line = 1
  · rw [if_pos h11]; exact wf_11 H h11.1 h11.2 hn ha hc
  rw [if_neg h11]
  by_cases h12 : s.f.op = 1 ∧ s.f.line = 2
  · rw [if_pos h12]; exact wf_12 H h12.1 h12.2 hn ha hc
  rw [if_neg h12]
  by_cases h13 : s.f.op = 1 ∧ s.f.line = 3
  · rw [if_pos h13]; exact wf_13 H h13.1 h13.2 hn ha hc
  rw [if_neg h13]
  by_cases h20 : s.f.op = 2 ∧ s.f.line = 0
  · rw [if_pos h20]; exact wf_20 H h20.1 h20.2 hn ha hc
  rw [if_neg h20]
  by_cases h30 : s.f.op = 3 ∧ s.f.line = 0
  · rw [if_pos h30]; exact wf_30 H h30.1 h30.2 hn ha hc
  rw [if_neg h30]
  by_cases h31 : s.f.op = 3 ∧ s.f.line = 1
  · rw [if_pos h31]; exact wf_31 H h31.1 h31.2 hn ha hc
  rw [if_neg h31]
  refine wf_default H rfl rfl h10 h11 h12 h13 h20 h30 h31 (fun rs W HW => ?_)
  by_cases h40 : s.f.op = 4 ∧ s.f.line = 0
  · rw [if_pos h40]; exact wf_40 HW h40.1 h40.2 hn ha hc
  rw [if_neg h40]
  by_cases h80 : s.f.op = 8 ∧ s.f.line = 0
  · rw [if_pos h80]; exact wf_80 HW h80.1 h80.2 hn ha hc
  rw [if_neg h80]
  by_cases h41 : s.f.op = 4 ∧ s.f.line = 1
  · rw [if_pos h41]; exact wf_41 HW h41.1 h41.2 hn ha hc
  rw [if_neg h41]
  by_cases h81 : s.f.op = 8 ∧ s.f.line = 1
  · rw [if_pos h81]; exact wf_81 HW h81.1 h81.2 hn ha hc
  rw [if_neg h81]
  by_cases h50 : s.f.op = 5 ∧ s.f.line = 0
  · rw [if_pos h50]; exact wf_50 HW h50.1 h50.2 hn ha hc
  rw [if_neg h50]
  by_cases h60 : s.f.op = 6 ∧ s.f.line = 0
  · rw [if_pos h60]; exact wf_60 HW h60.1 h60.2 hn ha hc
  rw [if_neg h60]
  by_cases h70 : s.f.op = 7 ∧ s.f.line = 0
  · rw [if_pos h70]; exact wf_70 HW h70.1 h70.2 hn ha hc
  rw [if_neg h70]
  by_cases h51 : s.f.op = 5 ∧ s.f.line = 1
  · rw [if_pos h51]; exact wf_51 HW h51.1 h51.2 hn ha hc
  rw [if_neg h51]
  by_cases h61 : s.f.op = 6 ∧ s.f.line = 1
  · rw [if_pos h61]; exact wf_61 HW h61.1 h61.2 hn ha hc
  rw [if_neg h61]
  by_cases h71 : s.f.op = 7 ∧ s.f.line = 1
  · rw [if_pos h71]; exact wf_71 HW h71.1 h71.2 hn ha hc
  rw [if_neg h71]
  exact wf_none HW rfl rfl h40 h80 h41 h81 h50 h60 h70 h51 h61 h71
end Go.Proofs.YthnimpkoidablaaGreat.Z

set_option linter.unusedVariables false
set_option linter.unusedSimpArgs false
namespace Go.Proofs.YthnimpkoidablaaGreat.Z
open Go.RowKit
theorem wkeep_fine {s : Rn} (hw : Words s.L) {n mode task st c : Int} {p : Int → Bool} (h2 : 0 ≤ s.f.a ∧ s.f.a < 4294967296) : 0 ≤ (s.keep (waitA s.L n mode task st c p)).f.a ∧ (s.keep (waitA s.L n mode task st c p)).f.a < 4294967296 := by
  unfold Rn.keep
  split
  · rcases stageA_is mode st with e | e | e | e | e
    · rw [waitA0 e]; exact doA_old s.L hw _
    · rw [waitA1 e]; exact doA_old s.L hw _
    · rw [waitA2 e]; exact doA_old s.L hw _
    · rename_i h; rw [waitA3 e] at h; cases h
    · rw [waitA4 e]; exact doA_old s.L hw _
  · exact h2
theorem wkeep_rest (s : Rn) (R : WaitR) : (s.keep R).n = s.n ∧ (s.keep R).f.b = s.f.b ∧ (s.keep R).notes = s.notes := by
  unfold Rn.keep
  split <;> exact ⟨rfl, rfl, rfl⟩
set_option maxHeartbeats 800000 in
theorem wf10_fine (s : Rn) (hw : Words s.L) (h : I64 s.n ∧ (0 ≤ s.f.a ∧ s.f.a < 4294967296) ∧ (0 ≤ s.f.b ∧ s.f.b < 4294967296)) : Fine s (wf10 s) := by
  have hold := fun b => doA_old s.L hw b
  obtain ⟨h1, h2, h3⟩ := h
  unfold wf10 wfCalmly
  (try dsimp only)
  (repeat' split) <;> first
    | exact fine_mk ⟨⟨h1, h2, h3⟩, by simp [Rn.wends, wfCalmly, Rn.keep, Rn.noted, Rn.did, Rn.setA, Rn.setB, Rn.note, Rn.goto, Rn.fin, Rn.wake, Rn.waited]⟩
    | exact fine_mk ⟨⟨h1, hold _, h3⟩, by simp [Rn.wends, wfCalmly, Rn.keep, Rn.noted, Rn.did, Rn.setA, Rn.setB, Rn.note, Rn.goto, Rn.fin, Rn.wake, Rn.waited]⟩
    | exact fine_mk ⟨⟨h1, h2, hold _⟩, by simp [Rn.wends, wfCalmly, Rn.keep, Rn.noted, Rn.did, Rn.setA, Rn.setB, Rn.note, Rn.goto, Rn.fin, Rn.wake, Rn.waited]⟩
set_option maxHeartbeats 800000 in
theorem wf11_fine (s : Rn) (hw : Words s.L) (h : I64 s.n ∧ (0 ≤ s.f.a ∧ s.f.a < 4294967296) ∧ (0 ≤ s.f.b ∧ s.f.b < 4294967296)) : Fine s (wf11 s) := by
  have hold := fun b => doA_old s.L hw b
  obtain ⟨h1, h2, h3⟩ := h
  unfold wf11
  (try dsimp only)
  (repeat' split) <;> first
    | exact fine_mk ⟨⟨h1, h2, h3⟩, by simp [Rn.wends, wfCalmly, Rn.keep, Rn.noted, Rn.did, Rn.setA, Rn.setB, Rn.note, Rn.goto, Rn.fin, Rn.wake, Rn.waited]⟩
    | exact fine_mk ⟨⟨h1, hold _, h3⟩, by simp [Rn.wends, wfCalmly, Rn.keep, Rn.noted, Rn.did, Rn.setA, Rn.setB, Rn.note, Rn.goto, Rn.fin, Rn.wake, Rn.waited]⟩
    | exact fine_mk ⟨⟨h1, h2, hold _⟩, by simp [Rn.wends, wfCalmly, Rn.keep, Rn.noted, Rn.did, Rn.setA, Rn.setB, Rn.note, Rn.goto, Rn.fin, Rn.wake, Rn.waited]⟩
theorem wf12_fine (s : Rn) (hw : Words s.L) (h : I64 s.n ∧ (0 ≤ s.f.a ∧ s.f.a < 4294967296) ∧ (0 ≤ s.f.b ∧ s.f.b < 4294967296)) : Fine s (wf12 s) := by
  obtain ⟨h1, h2, h3⟩ := h
  have hk := wkeep_fine (n := s.n) (mode := s.mode) (task := s.task) (st := s.f.st) (c := 0) (p := wfCalm) hw h2
  unfold wf12
  dsimp only
  obtain ⟨e1, e2, e3⟩ := wkeep_rest s (waitA s.L s.n s.mode s.task s.f.st 0 wfCalm)
  generalize s.keep (waitA s.L s.n s.mode s.task s.f.st 0 wfCalm) = s1 at hk e1 e2 e3 ⊢
  have hb : I64 s1.n ∧ (0 ≤ s1.f.a ∧ s1.f.a < 4294967296) ∧ (0 ≤ s1.f.b ∧ s1.f.b < 4294967296) := ⟨by rw [e1]; exact h1, hk, by rw [e2]; exact h3⟩
  split
  · exact fine_mk ⟨hb, by show s1.notes.length ≤ _; rw [e3]; omega⟩
  · exact fine_mk ⟨hb, by show s1.notes.length ≤ _; rw [e3]; omega⟩
set_option maxHeartbeats 800000 in
theorem wf13_fine (s : Rn) (hw : Words s.L) (h : I64 s.n ∧ (0 ≤ s.f.a ∧ s.f.a < 4294967296) ∧ (0 ≤ s.f.b ∧ s.f.b < 4294967296)) : Fine s (wf13 s) := by
  have hold := fun b => doA_old s.L hw b
  obtain ⟨h1, h2, h3⟩ := h
  unfold wf13 wfCalmly
  (try dsimp only)
  (repeat' split) <;> first
    | exact fine_mk ⟨⟨h1, h2, h3⟩, by simp [Rn.wends, wfCalmly, Rn.keep, Rn.noted, Rn.did, Rn.setA, Rn.setB, Rn.note, Rn.goto, Rn.fin, Rn.wake, Rn.waited]⟩
    | exact fine_mk ⟨⟨h1, hold _, h3⟩, by simp [Rn.wends, wfCalmly, Rn.keep, Rn.noted, Rn.did, Rn.setA, Rn.setB, Rn.note, Rn.goto, Rn.fin, Rn.wake, Rn.waited]⟩
    | exact fine_mk ⟨⟨h1, h2, hold _⟩, by simp [Rn.wends, wfCalmly, Rn.keep, Rn.noted, Rn.did, Rn.setA, Rn.setB, Rn.note, Rn.goto, Rn.fin, Rn.wake, Rn.waited]⟩
set_option maxHeartbeats 800000 in
theorem wf20_fine (s : Rn) (hw : Words s.L) (h : I64 s.n ∧ (0 ≤ s.f.a ∧ s.f.a < 4294967296) ∧ (0 ≤ s.f.b ∧ s.f.b < 4294967296)) : Fine s (wf20 s) := by
  have hold := fun b => doA_old s.L hw b
  obtain ⟨h1, h2, h3⟩ := h
  unfold wf20
  (try dsimp only)
  (repeat' split) <;> first
    | exact fine_mk ⟨⟨h1, h2, h3⟩, by simp [Rn.wends, wfCalmly, Rn.keep, Rn.noted, Rn.did, Rn.setA, Rn.setB, Rn.note, Rn.goto, Rn.fin, Rn.wake, Rn.waited]⟩
    | exact fine_mk ⟨⟨h1, hold _, h3⟩, by simp [Rn.wends, wfCalmly, Rn.keep, Rn.noted, Rn.did, Rn.setA, Rn.setB, Rn.note, Rn.goto, Rn.fin, Rn.wake, Rn.waited]⟩
    | exact fine_mk ⟨⟨h1, h2, hold _⟩, by simp [Rn.wends, wfCalmly, Rn.keep, Rn.noted, Rn.did, Rn.setA, Rn.setB, Rn.note, Rn.goto, Rn.fin, Rn.wake, Rn.waited]⟩
set_option maxHeartbeats 800000 in
theorem wf30_fine (s : Rn) (hw : Words s.L) (h : I64 s.n ∧ (0 ≤ s.f.a ∧ s.f.a < 4294967296) ∧ (0 ≤ s.f.b ∧ s.f.b < 4294967296)) : Fine s (wf30 s) := by
  have hold := fun b => doA_old s.L hw b
  obtain ⟨h1, h2, h3⟩ := h
  unfold wf30
  (try dsimp only)
  (repeat' split) <;> first
    | exact fine_mk ⟨⟨h1, h2, h3⟩, by simp [Rn.wends, wfCalmly, Rn.keep, Rn.noted, Rn.did, Rn.setA, Rn.setB, Rn.note, Rn.goto, Rn.fin, Rn.wake, Rn.waited]⟩
    | exact fine_mk ⟨⟨h1, hold _, h3⟩, by simp [Rn.wends, wfCalmly, Rn.keep, Rn.noted, Rn.did, Rn.setA, Rn.setB, Rn.note, Rn.goto, Rn.fin, Rn.wake, Rn.waited]⟩
    | exact fine_mk ⟨⟨h1, h2, hold _⟩, by simp [Rn.wends, wfCalmly, Rn.keep, Rn.noted, Rn.did, Rn.setA, Rn.setB, Rn.note, Rn.goto, Rn.fin, Rn.wake, Rn.waited]⟩
set_option maxHeartbeats 800000 in
theorem wf31_fine (s : Rn) (hw : Words s.L) (h : I64 s.n ∧ (0 ≤ s.f.a ∧ s.f.a < 4294967296) ∧ (0 ≤ s.f.b ∧ s.f.b < 4294967296)) : Fine s (wf31 s) := by
  have hold := fun b => doA_old s.L hw b
  obtain ⟨h1, h2, h3⟩ := h
  unfold wf31
  (try dsimp only)
  (repeat' split) <;> first
    | exact fine_mk ⟨⟨h1, h2, h3⟩, by simp [Rn.wends, wfCalmly, Rn.keep, Rn.noted, Rn.did, Rn.setA, Rn.setB, Rn.note, Rn.goto, Rn.fin, Rn.wake, Rn.waited]⟩
    | exact fine_mk ⟨⟨h1, hold _, h3⟩, by simp [Rn.wends, wfCalmly, Rn.keep, Rn.noted, Rn.did, Rn.setA, Rn.setB, Rn.note, Rn.goto, Rn.fin, Rn.wake, Rn.waited]⟩
    | exact fine_mk ⟨⟨h1, h2, hold _⟩, by simp [Rn.wends, wfCalmly, Rn.keep, Rn.noted, Rn.did, Rn.setA, Rn.setB, Rn.note, Rn.goto, Rn.fin, Rn.wake, Rn.waited]⟩
set_option maxHeartbeats 800000 in
theorem wf40_fine (s : Rn) (hw : Words s.L) (h : I64 s.n ∧ (0 ≤ s.f.a ∧ s.f.a < 4294967296) ∧ (0 ≤ s.f.b ∧ s.f.b < 4294967296)) : Fine s (wf40 s) := by
  have hold := fun b => doA_old s.L hw b
  obtain ⟨h1, h2, h3⟩ := h
  unfold wf40
  (try dsimp only)
  (repeat' split) <;> first
    | exact fine_mk ⟨⟨h1, h2, h3⟩, by simp [Rn.wends, wfCalmly, Rn.keep, Rn.noted, Rn.did, Rn.setA, Rn.setB, Rn.note, Rn.goto, Rn.fin, Rn.wake, Rn.waited]⟩
    | exact fine_mk ⟨⟨h1, hold _, h3⟩, by simp [Rn.wends, wfCalmly, Rn.keep, Rn.noted, Rn.did, Rn.setA, Rn.setB, Rn.note, Rn.goto, Rn.fin, Rn.wake, Rn.waited]⟩
    | exact fine_mk ⟨⟨h1, h2, hold _⟩, by simp [Rn.wends, wfCalmly, Rn.keep, Rn.noted, Rn.did, Rn.setA, Rn.setB, Rn.note, Rn.goto, Rn.fin, Rn.wake, Rn.waited]⟩
set_option maxHeartbeats 800000 in
theorem wf80_fine (s : Rn) (hw : Words s.L) (h : I64 s.n ∧ (0 ≤ s.f.a ∧ s.f.a < 4294967296) ∧ (0 ≤ s.f.b ∧ s.f.b < 4294967296)) : Fine s (wf80 s) := by
  have hold := fun b => doA_old s.L hw b
  obtain ⟨h1, h2, h3⟩ := h
  unfold wf80
  (try dsimp only)
  (repeat' split) <;> first
    | exact fine_mk ⟨⟨h1, h2, h3⟩, by simp [Rn.wends, wfCalmly, Rn.keep, Rn.noted, Rn.did, Rn.setA, Rn.setB, Rn.note, Rn.goto, Rn.fin, Rn.wake, Rn.waited]⟩
    | exact fine_mk ⟨⟨h1, hold _, h3⟩, by simp [Rn.wends, wfCalmly, Rn.keep, Rn.noted, Rn.did, Rn.setA, Rn.setB, Rn.note, Rn.goto, Rn.fin, Rn.wake, Rn.waited]⟩
    | exact fine_mk ⟨⟨h1, h2, hold _⟩, by simp [Rn.wends, wfCalmly, Rn.keep, Rn.noted, Rn.did, Rn.setA, Rn.setB, Rn.note, Rn.goto, Rn.fin, Rn.wake, Rn.waited]⟩
set_option maxHeartbeats 800000 in
theorem wf41_fine (s : Rn) (hw : Words s.L) (h : I64 s.n ∧ (0 ≤ s.f.a ∧ s.f.a < 4294967296) ∧ (0 ≤ s.f.b ∧ s.f.b < 4294967296)) : Fine s (wf41 s) := by
  have hold := fun b => doA_old s.L hw b
  obtain ⟨h1, h2, h3⟩ := h
  unfold wf41
  (try dsimp only)
  (repeat' split) <;> first
    | exact fine_mk ⟨⟨h1, h2, h3⟩, by simp [Rn.wends, wfCalmly, Rn.keep, Rn.noted, Rn.did, Rn.setA, Rn.setB, Rn.note, Rn.goto, Rn.fin, Rn.wake, Rn.waited]⟩
    | exact fine_mk ⟨⟨h1, hold _, h3⟩, by simp [Rn.wends, wfCalmly, Rn.keep, Rn.noted, Rn.did, Rn.setA, Rn.setB, Rn.note, Rn.goto, Rn.fin, Rn.wake, Rn.waited]⟩
    | exact fine_mk ⟨⟨h1, h2, hold _⟩, by simp [Rn.wends, wfCalmly, Rn.keep, Rn.noted, Rn.did, Rn.setA, Rn.setB, Rn.note, Rn.goto, Rn.fin, Rn.wake, Rn.waited]⟩
set_option maxHeartbeats 800000 in
theorem wf81_fine (s : Rn) (hw : Words s.L) (h : I64 s.n ∧ (0 ≤ s.f.a ∧ s.f.a < 4294967296) ∧ (0 ≤ s.f.b ∧ s.f.b < 4294967296)) : Fine s (wf81 s) := by
  have hold := fun b => doA_old s.L hw b
  obtain ⟨h1, h2, h3⟩ := h
  unfold wf81
  (try dsimp only)
  (repeat' split) <;> first
    | exact fine_mk ⟨⟨h1, h2, h3⟩, by simp [Rn.wends, wfCalmly, Rn.keep, Rn.noted, Rn.did, Rn.setA, Rn.setB, Rn.note, Rn.goto, Rn.fin, Rn.wake, Rn.waited]⟩
    | exact fine_mk ⟨⟨h1, hold _, h3⟩, by simp [Rn.wends, wfCalmly, Rn.keep, Rn.noted, Rn.did, Rn.setA, Rn.setB, Rn.note, Rn.goto, Rn.fin, Rn.wake, Rn.waited]⟩
    | exact fine_mk ⟨⟨h1, h2, hold _⟩, by simp [Rn.wends, wfCalmly, Rn.keep, Rn.noted, Rn.did, Rn.setA, Rn.setB, Rn.note, Rn.goto, Rn.fin, Rn.wake, Rn.waited]⟩
set_option maxHeartbeats 800000 in
theorem wf50_fine (s : Rn) (hw : Words s.L) (h : I64 s.n ∧ (0 ≤ s.f.a ∧ s.f.a < 4294967296) ∧ (0 ≤ s.f.b ∧ s.f.b < 4294967296)) : Fine s (wf50 s) := by
  have hold := fun b => doA_old s.L hw b
  obtain ⟨h1, h2, h3⟩ := h
  unfold wf50 Rn.wchosen
  (try dsimp only)
  (repeat' split) <;> first
    | exact fine_mk ⟨⟨h1, h2, h3⟩, by simp [Rn.wends, wfCalmly, Rn.keep, Rn.noted, Rn.did, Rn.setA, Rn.setB, Rn.note, Rn.goto, Rn.fin, Rn.wake, Rn.waited]⟩
    | exact fine_mk ⟨⟨h1, hold _, h3⟩, by simp [Rn.wends, wfCalmly, Rn.keep, Rn.noted, Rn.did, Rn.setA, Rn.setB, Rn.note, Rn.goto, Rn.fin, Rn.wake, Rn.waited]⟩
    | exact fine_mk ⟨⟨h1, h2, hold _⟩, by simp [Rn.wends, wfCalmly, Rn.keep, Rn.noted, Rn.did, Rn.setA, Rn.setB, Rn.note, Rn.goto, Rn.fin, Rn.wake, Rn.waited]⟩
set_option maxHeartbeats 800000 in
theorem wf60_fine (s : Rn) (hw : Words s.L) (h : I64 s.n ∧ (0 ≤ s.f.a ∧ s.f.a < 4294967296) ∧ (0 ≤ s.f.b ∧ s.f.b < 4294967296)) : Fine s (wf60 s) := by
  have hold := fun b => doA_old s.L hw b
  obtain ⟨h1, h2, h3⟩ := h
  unfold wf60 Rn.wchosen
  (try dsimp only)
  (repeat' split) <;> first
    | exact fine_mk ⟨⟨h1, h2, h3⟩, by simp [Rn.wends, wfCalmly, Rn.keep, Rn.noted, Rn.did, Rn.setA, Rn.setB, Rn.note, Rn.goto, Rn.fin, Rn.wake, Rn.waited]⟩
    | exact fine_mk ⟨⟨h1, hold _, h3⟩, by simp [Rn.wends, wfCalmly, Rn.keep, Rn.noted, Rn.did, Rn.setA, Rn.setB, Rn.note, Rn.goto, Rn.fin, Rn.wake, Rn.waited]⟩
    | exact fine_mk ⟨⟨h1, h2, hold _⟩, by simp [Rn.wends, wfCalmly, Rn.keep, Rn.noted, Rn.did, Rn.setA, Rn.setB, Rn.note, Rn.goto, Rn.fin, Rn.wake, Rn.waited]⟩
set_option maxHeartbeats 800000 in
theorem wf70_fine (s : Rn) (hw : Words s.L) (h : I64 s.n ∧ (0 ≤ s.f.a ∧ s.f.a < 4294967296) ∧ (0 ≤ s.f.b ∧ s.f.b < 4294967296)) : Fine s (wf70 s) := by
  have hold := fun b => doA_old s.L hw b
  obtain ⟨h1, h2, h3⟩ := h
  unfold wf70 Rn.wchosen
  (try dsimp only)
  (repeat' split) <;> first
    | exact fine_mk ⟨⟨h1, h2, h3⟩, by simp [Rn.wends, wfCalmly, Rn.keep, Rn.noted, Rn.did, Rn.setA, Rn.setB, Rn.note, Rn.goto, Rn.fin, Rn.wake, Rn.waited]⟩
    | exact fine_mk ⟨⟨h1, hold _, h3⟩, by simp [Rn.wends, wfCalmly, Rn.keep, Rn.noted, Rn.did, Rn.setA, Rn.setB, Rn.note, Rn.goto, Rn.fin, Rn.wake, Rn.waited]⟩
    | exact fine_mk ⟨⟨h1, h2, hold _⟩, by simp [Rn.wends, wfCalmly, Rn.keep, Rn.noted, Rn.did, Rn.setA, Rn.setB, Rn.note, Rn.goto, Rn.fin, Rn.wake, Rn.waited]⟩
set_option maxHeartbeats 800000 in
theorem wf51_fine (s : Rn) (hw : Words s.L) (h : I64 s.n ∧ (0 ≤ s.f.a ∧ s.f.a < 4294967296) ∧ (0 ≤ s.f.b ∧ s.f.b < 4294967296)) : Fine s (wf51 s) := by
  have hold := fun b => doA_old s.L hw b
  obtain ⟨h1, h2, h3⟩ := h
  unfold wf51 Rn.wswapped
  (try dsimp only)
  (repeat' split) <;> first
    | exact fine_mk ⟨⟨h1, h2, h3⟩, by simp [Rn.wends, wfCalmly, Rn.keep, Rn.noted, Rn.did, Rn.setA, Rn.setB, Rn.note, Rn.goto, Rn.fin, Rn.wake, Rn.waited]⟩
    | exact fine_mk ⟨⟨h1, hold _, h3⟩, by simp [Rn.wends, wfCalmly, Rn.keep, Rn.noted, Rn.did, Rn.setA, Rn.setB, Rn.note, Rn.goto, Rn.fin, Rn.wake, Rn.waited]⟩
    | exact fine_mk ⟨⟨h1, h2, hold _⟩, by simp [Rn.wends, wfCalmly, Rn.keep, Rn.noted, Rn.did, Rn.setA, Rn.setB, Rn.note, Rn.goto, Rn.fin, Rn.wake, Rn.waited]⟩
set_option maxHeartbeats 800000 in
theorem wf61_fine (s : Rn) (hw : Words s.L) (h : I64 s.n ∧ (0 ≤ s.f.a ∧ s.f.a < 4294967296) ∧ (0 ≤ s.f.b ∧ s.f.b < 4294967296)) : Fine s (wf61 s) := by
  have hold := fun b => doA_old s.L hw b
  obtain ⟨h1, h2, h3⟩ := h
  unfold wf61 Rn.wswapped
  (try dsimp only)
  (repeat' split) <;> first
    | exact fine_mk ⟨⟨h1, h2, h3⟩, by simp [Rn.wends, wfCalmly, Rn.keep, Rn.noted, Rn.did, Rn.setA, Rn.setB, Rn.note, Rn.goto, Rn.fin, Rn.wake, Rn.waited]⟩
    | exact fine_mk ⟨⟨h1, hold _, h3⟩, by simp [Rn.wends, wfCalmly, Rn.keep, Rn.noted, Rn.did, Rn.setA, Rn.setB, Rn.note, Rn.goto, Rn.fin, Rn.wake, Rn.waited]⟩
    | exact fine_mk ⟨⟨h1, h2, hold _⟩, by simp [Rn.wends, wfCalmly, Rn.keep, Rn.noted, Rn.did, Rn.setA, Rn.setB, Rn.note, Rn.goto, Rn.fin, Rn.wake, Rn.waited]⟩
set_option maxHeartbeats 800000 in
theorem wf71_fine (s : Rn) (hw : Words s.L) (h : I64 s.n ∧ (0 ≤ s.f.a ∧ s.f.a < 4294967296) ∧ (0 ≤ s.f.b ∧ s.f.b < 4294967296)) : Fine s (wf71 s) := by
  have hold := fun b => doA_old s.L hw b
  obtain ⟨h1, h2, h3⟩ := h
  unfold wf71 Rn.wswapped
  (try dsimp only)
  (repeat' split) <;> first
    | exact fine_mk ⟨⟨h1, h2, h3⟩, by simp [Rn.wends, wfCalmly, Rn.keep, Rn.noted, Rn.did, Rn.setA, Rn.setB, Rn.note, Rn.goto, Rn.fin, Rn.wake, Rn.waited]⟩
    | exact fine_mk ⟨⟨h1, hold _, h3⟩, by simp [Rn.wends, wfCalmly, Rn.keep, Rn.noted, Rn.did, Rn.setA, Rn.setB, Rn.note, Rn.goto, Rn.fin, Rn.wake, Rn.waited]⟩
    | exact fine_mk ⟨⟨h1, h2, hold _⟩, by simp [Rn.wends, wfCalmly, Rn.keep, Rn.noted, Rn.did, Rn.setA, Rn.setB, Rn.note, Rn.goto, Rn.fin, Rn.wake, Rn.waited]⟩
theorem wfA_fine (s : Rn) (hw : Words s.L) (h : I64 s.n ∧ (0 ≤ s.f.a ∧ s.f.a < 4294967296) ∧ (0 ≤ s.f.b ∧ s.f.b < 4294967296)) : (I64 (wfA s).n ∧ (0 ≤ (wfA s).f.a ∧ (wfA s).f.a < 4294967296) ∧ (0 ≤ (wfA s).f.b ∧ (wfA s).f.b < 4294967296)) ∧ (wfA s).notes.length ≤ s.notes.length + 10 := by
  suffices h0 : Fine s (wfA s) from h0
  unfold wfA
  by_cases h10 : s.f.op = 1 ∧ s.f.line = 0
  · rw [if_pos h10]; exact wf10_fine s hw h
  rw [if_neg h10]
  by_cases h11 : s.f.op = 1 ∧ s.f.line = 1
  · rw [if_pos h11]; exact wf11_fine s hw h
  rw [if_neg h11]
  by_cases h12 : s.f.op = 1 ∧ s.f.line = 2
  · rw [if_pos h12]; exact wf12_fine s hw h
  rw [if_neg h12]
  by_cases h13 : s.f.op = 1 ∧ s.f.line = 3
  · rw [if_pos h13]; exact wf13_fine s hw h
  rw [if_neg h13]
  by_cases h20 : s.f.op = 2 ∧ s.f.line = 0
  · rw [if_pos h20]; exact wf20_fine s hw h
  rw [if_neg h20]
  by_cases h30 : s.f.op = 3 ∧ s.f.line = 0
  · rw [if_pos h30]; exact wf30_fine s hw h
  rw [if_neg h30]
  by_cases h31 : s.f.op = 3 ∧ s.f.line = 1
  · rw [if_pos h31]; exact wf31_fine s hw h
  rw [if_neg h31]
  by_cases h40 : s.f.op = 4 ∧ s.f.line = 0
  · rw [if_pos h40]; exact wf40_fine s hw h
  rw [if_neg h40]
  by_cases h80 : s.f.op = 8 ∧ s.f.line = 0
  · rw [if_pos h80]; exact wf80_fine s hw h
  rw [if_neg h80]
  by_cases h41 : s.f.op = 4 ∧ s.f.line = 1
  · rw [if_pos h41]; exact wf41_fine s hw h
  rw [if_neg h41]
  by_cases h81 : s.f.op = 8 ∧ s.f.line = 1
  · rw [if_pos h81]; exact wf81_fine s hw h
  rw [if_neg h81]
  by_cases h50 : s.f.op = 5 ∧ s.f.line = 0
  · rw [if_pos h50]; exact wf50_fine s hw h
  rw [if_neg h50]
  by_cases h60 : s.f.op = 6 ∧ s.f.line = 0
  · rw [if_pos h60]; exact wf60_fine s hw h
  rw [if_neg h60]
  by_cases h70 : s.f.op = 7 ∧ s.f.line = 0
  · rw [if_pos h70]; exact wf70_fine s hw h
  rw [if_neg h70]
  by_cases h51 : s.f.op = 5 ∧ s.f.line = 1
  · rw [if_pos h51]; exact wf51_fine s hw h
  rw [if_neg h51]
  by_cases h61 : s.f.op = 6 ∧ s.f.line = 1
  · rw [if_pos h61]; exact wf61_fine s hw h
  rw [if_neg h61]
  by_cases h71 : s.f.op = 7 ∧ s.f.line = 1
  · rw [if_pos h71]; exact wf71_fine s hw h
  rw [if_neg h71]
  exact fine_mk ⟨h, by simp⟩
end Go.Proofs.YthnimpkoidablaaGreat.Z
