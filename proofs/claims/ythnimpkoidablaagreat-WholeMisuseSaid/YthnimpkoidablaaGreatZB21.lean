/- 3 texts of this claim, joined: what Package world needs of them. -/
import Derived.Test.YthnimpkoidablaaGreatZB16
import Derived.Test.YthnimpkoidablaaGreatZB11
import Derived.Test.YthnimpkoidablaaGreatZB17
set_option linter.unusedVariables false
set_option linter.unusedSimpArgs false
namespace Go.Proofs.YthnimpkoidablaaGreat.Z
open Go.RowKit
attribute [local go_sem ↓] Go.wp_at_zero Go.wp_at_succ
def fqEnter (cls : Int) (s : Rn) : Rn := if (mxEnter 0 cls s).1 then (mxEnter 0 cls s).2.goto 5 else (mxEnter 0 cls s).2
theorem fq_enter {S0 : List Nat} {w0 w : World} {m a r : Nat} {rs : List Res} {s : Rn} (H : RunHas S0 w0 m a r rs s w) (cls : Int) (hn : I64 s.n) (ha : 0 ≤ s.f.a ∧ s.f.a < 4294967296) (hc : s.notes.length ≤ 800) :
    Calls Tryz.prog 102 #[.pointer (some ⟨r, 0, none⟩), .int .i64 cls] w fun e w' => e = .returned (.tuple #[]) ∧ RunHas S0 w0 m a r rs (fqEnter cls s) w' := by
  have he := mx_enter H 0 cls hn ha (by omega)
  unfold fqEnter
  generalize mxEnter 0 cls s = R at he ⊢
  obtain ⟨b, s1⟩ := R
  have HE := Lib.hid he
  clear he H hn ha hc
  cases b with
  | true =>
    go_enter Tryz.func102, Tryz.ntmps102
    go_wp2_with fail
    refine HE.out.mono ?_
    rintro e w1 ⟨rfl, H1⟩
    go_wp2_with fail
    refine (rn_go H1 5).mono ?_
    rintro e w2 ⟨rfl, H2⟩
    go_wp2_with fail
    go_end0
    exact ⟨rfl, H2⟩
  | false =>
    go_enter Tryz.func102, Tryz.ntmps102
    go_wp2_with fail
    refine HE.out.mono ?_
    rintro e w1 ⟨rfl, H1⟩
    go_wp2_with fail
    go_end0
    exact ⟨rfl, H1⟩
def fqGive (q : Int) (ok : Bool) (nl : List Int) (s : Rn) : Rn := if (mxGive 0 q nl s).1 then (mxGive 0 q nl s).2.fin ok else (mxGive 0 q nl s).2
theorem fq_give {S0 : List Nat} {w0 w : World} {m a r : Nat} {rs : List Res} {s : Rn} (q : Int) (ok : Bool) {g nn c : Nat} {nl : List Int} (hnl : nl.length = nn) (hq : 0 ≤ q ∧ q ≤ 100) (hl : nl.length ≤ 10) (H : RunHas S0 w0 m a r (.blk g (i64s nl).toArray :: rs) s w) (hn : I64 s.n) (ha : 0 ≤ s.f.a ∧ s.f.a < 4294967296) (hc : s.notes.length ≤ 800) :
    Calls Tryz.prog 106 #[.pointer (some ⟨r, 0, none⟩), .int .i64 q, .bool ok, .slice (some ⟨g, 0, none⟩) nn c] w fun e w' => e = .returned (.tuple #[]) ∧ RunHas S0 w0 m a r (.blk g (i64s nl).toArray :: rs) (fqGive q ok nl s) w' := by
  have he := mx_give (c := c) 0 q hnl hq (by omega) H hn ha
  unfold fqGive
  generalize mxGive 0 q nl s = R at he ⊢
  obtain ⟨b, s1⟩ := R
  have HE := Lib.hid he
  clear he H hn ha hc
  cases b with
  | true =>
    go_enter Tryz.func106, Tryz.ntmps106
    go_wp2_with fail
    refine HE.out.mono ?_
    rintro e w1 ⟨rfl, H1⟩
    go_wp2_with fail
    refine (rn_end H1 ok).mono ?_
    rintro e w2 ⟨rfl, H2⟩
    go_wp2_with fail
    go_end0
    exact ⟨rfl, H2⟩
  | false =>
    go_enter Tryz.func106, Tryz.ntmps106
    go_wp2_with fail
    refine HE.out.mono ?_
    rintro e w1 ⟨rfl, H1⟩
    go_wp2_with fail
    go_end0
    exact ⟨rfl, H1⟩
def fqTry (cls next : Int) (s : Rn) : Rn :=
  if (mxTry 0 s).1 then (if (mxTry 0 s).2.1 then ((mxTry 0 s).2.2.note 2 cls).goto next else ((mxTry 0 s).2.2.note 5 0).fin false) else (mxTry 0 s).2.2
theorem mxTry_notes (tail : Int) (s : Rn) : (mxTry tail s).2.2.notes = s.notes := by
  unfold mxTry
  split
  · rfl
  split <;> rfl
theorem fq_try {S0 : List Nat} {w0 w : World} {m a r : Nat} {rs : List Res} {s : Rn} (H : RunHas S0 w0 m a r rs s w) (cls next : Int) (hn : I64 s.n) (ha : 0 ≤ s.f.a ∧ s.f.a < 4294967296) (hc : s.notes.length ≤ 800) :
    Calls Tryz.prog 104 #[.pointer (some ⟨r, 0, none⟩), .int .i64 cls, .int .i64 next] w fun e w' => e = .returned (.tuple #[]) ∧ RunHas S0 w0 m a r rs (fqTry cls next s) w' := by
  have he := mx_try H 0 hn
  have hnt := mxTry_notes 0 s
  unfold fqTry
  generalize mxTry 0 s = R at he hnt ⊢
  obtain ⟨d, i, s1⟩ := R
  have hc1 : s1.notes.length ≤ 800 := by rw [show s1.notes = s.notes from hnt]; exact hc
  have HC := Lib.hid hc1
  have HE := Lib.hid he
  clear he H hn ha hc hnt hc1
  cases d with
  | true =>
    cases i with
    | true =>
      go_enter Tryz.func104, Tryz.ntmps104
      go_wp2_with fail
      refine HE.out.mono ?_
      rintro e w1 ⟨rfl, H1⟩
      go_wp2_with fail
      refine (run_note H1 (by have := HC.out; first | exact Nat.le_trans this (by decide) | (simp [Rn.note, Rn.did, Rn.setA, Rn.setB, Rn.waited, Rn.goto, Rn.noted]; omega)) 2 cls).mono ?_
      rintro e w2 ⟨rfl, H2⟩
      go_wp2_with fail
      refine (rn_go H2 next).mono ?_
      rintro e w3 ⟨rfl, H3⟩
      go_wp2_with fail
      go_end0
      exact ⟨rfl, H3⟩
    | false =>
      go_enter Tryz.func104, Tryz.ntmps104
      go_wp2_with fail
      refine HE.out.mono ?_
      rintro e w1 ⟨rfl, H1⟩
      go_wp2_with fail
      refine (run_note H1 (by have := HC.out; first | exact Nat.le_trans this (by decide) | (simp [Rn.note, Rn.did, Rn.setA, Rn.setB, Rn.waited, Rn.goto, Rn.noted]; omega)) 5 0).mono ?_
      rintro e w2 ⟨rfl, H2⟩
      go_wp2_with fail
      refine (rn_end H2 false).mono ?_
      rintro e w3 ⟨rfl, H3⟩
      go_wp2_with fail
      go_end0
      exact ⟨rfl, H3⟩
  | false =>
    go_enter Tryz.func104, Tryz.ntmps104
    go_wp2_with fail
    refine HE.out.mono ?_
    rintro e w1 ⟨rfl, H1⟩
    go_wp2_with fail
    go_end0
    exact ⟨rfl, H1⟩
set_option maxHeartbeats 800000 in
theorem fq_reader5 {S0 : List Nat} {w0 w : World} {m a r : Nat} {rs : List Res} {s : Rn} (H : RunHas S0 w0 m a r rs s w) {o l : Int} (hop : s.f.op = o) (hl : s.f.line = l) (h5 : l = 5) (hn : I64 s.n) (ha : 0 ≤ s.f.a ∧ s.f.a < 4294967296) (hc : s.notes.length ≤ 800) :
    Calls Tryz.prog 103 #[.pointer (some ⟨r, 0, none⟩)] w fun e w' => e = .returned (.tuple #[]) ∧ RunHas S0 w0 m a r rs ((s.did (doA s.L ⟨3, 1, 1, 0, 0⟩)).goto 6) w' := by
  obtain ⟨z0, z2, z4, z5, z6, z7⟩ := H.facts hop hl rfl rfl
  have HC := Lib.hid hc
  have HA := Lib.hid ha
  have HN := Lib.hid hn
  have HH := Lib.hid H
  clear hc H hn ha
  subst h5
  go_enter Tryz.func103, Tryz.ntmps103
  go_wp2_with fail
  refine (rn_add HH.out 1 1 (by decide)).mono ?_
  rintro e w1 ⟨rfl, H1⟩
  go_wp2_with fail
  refine (rn_go H1 6).mono ?_
  rintro e w2 ⟨rfl, H2⟩
  go_wp2_with fail
  (try simp only [Exit.inBlock, Exit.then]); refine bodyPost_ret (results_none rfl _ _ _) rfl ?_
  exact ⟨rfl, H2⟩
set_option maxHeartbeats 800000 in
theorem fq_readerG {S0 : List Nat} {w0 w : World} {m a r : Nat} {rs : List Res} {s : Rn} (H : RunHas S0 w0 m a r rs s w) {o l : Int} (hop : s.f.op = o) (hl : s.f.line = l) (h5 : ¬ l = 5) (hn : I64 s.n) (ha : 0 ≤ s.f.a ∧ s.f.a < 4294967296) (hc : s.notes.length ≤ 800) :
    Calls Tryz.prog 103 #[.pointer (some ⟨r, 0, none⟩)] w fun e w' => e = .returned (.tuple #[]) ∧ RunHas S0 w0 m a r rs (fqGive 6 true [4] s) w' := by
  obtain ⟨z0, z2, z4, z5, z6, z7⟩ := H.facts hop hl rfl rfl
  have HC := Lib.hid hc
  have HA := Lib.hid ha
  have HN := Lib.hid hn
  have HH := Lib.hid H
  clear hc H hn ha
  go_enter Tryz.func103, Tryz.ntmps103
  go_wp2_with fail
  refine (fq_give 6 true (nl := [4]) rfl (by decide) (by decide) (HH.out.box rfl _ _) HN.out HA.out HC.out).mono ?_
  rintro e w7 ⟨rfl, H7⟩
  go_wp2_with fail
  go_end0
  exact ⟨rfl, H7.unbox⟩
def fqReader (s : Rn) : Rn := if s.f.line = 5 then (s.did (doA s.L ⟨3, 1, 1, 0, 0⟩)).goto 6 else fqGive 6 true [4] s
theorem fq_reader {S0 : List Nat} {w0 w : World} {m a r : Nat} {rs : List Res} {s : Rn} (H : RunHas S0 w0 m a r rs s w) (hn : I64 s.n) (ha : 0 ≤ s.f.a ∧ s.f.a < 4294967296) (hc : s.notes.length ≤ 800) : Calls Tryz.prog 103 #[.pointer (some ⟨r, 0, none⟩)] w fun e w' => e = .returned (.tuple #[]) ∧ RunHas S0 w0 m a r rs (fqReader s) w' := by
  unfold fqReader
  split
  · exact fq_reader5 H rfl rfl (by assumption) hn ha hc
  · exact fq_readerG H rfl rfl (by assumption) hn ha hc
theorem fq_free (v : Int) (w : World) (hv : 0 ≤ v ∧ v < 4294967296) :
    Calls Tryz.prog 147 #[.int .u32 v] w fun e w' => e = .returned (.bool (v == 0)) ∧ Touch [] w w' := by
  go_enter Tryz.func147, Tryz.ntmps147
  go_wp2
  go_ret
  exact ⟨rfl, Touch.refl _ _⟩
set_option maxHeartbeats 800000 in
theorem fq_writer5 {S0 : List Nat} {w0 w : World} {m a r : Nat} {rs : List Res} {s : Rn} (H : RunHas S0 w0 m a r rs s w) {o l : Int} (hop : s.f.op = o) (hl : s.f.line = l) (h5 : l = 5) (hn : I64 s.n) (ha : 0 ≤ s.f.a ∧ s.f.a < 4294967296) (hc : s.notes.length ≤ 800) :
    Calls Tryz.prog 105 #[.pointer (some ⟨r, 0, none⟩)] w fun e w' => e = .returned (.tuple #[]) ∧ RunHas S0 w0 m a r rs (let s1 := s.waited (waitA s.L s.n s.mode s.task s.f.st 1 (fun v => v == 0)); let s2 := if (waitA s.L s.n s.mode s.task s.f.st 1 (fun v => v == 0)).seen then s1.note 4 0 else s1; if (waitA s.L s.n s.mode s.task s.f.st 1 (fun v => v == 0)).done then s2.fin true else s2) w' := by
  obtain ⟨z0, z2, z4, z5, z6, z7⟩ := H.facts hop hl rfl rfl
  have HC := Lib.hid hc
  have HA := Lib.hid ha
  have HN := Lib.hid hn
  have HH := Lib.hid H
  clear hc H hn ha
  subst h5
  have hwt := fun W (H : RunHas S0 w0 m a r rs s W) => rn_wait H HN.out 1 147 #[] #[] (fun v => v == 0) (enters_of Tryz.func147 (by kernel_rfl) rfl) (fun W v h0 h1 H => fq_free v W ⟨h0, h1⟩)
  cases hs : (waitA s.L s.n s.mode s.task s.f.st 1 (fun v => v == 0)).seen <;> cases hd : (waitA s.L s.n s.mode s.task s.f.st 1 (fun v => v == 0)).done <;> rw [hs, hd] at hwt <;> simp only [if_true, Bool.false_eq_true, if_false] <;> (have HWT := Lib.hid hwt) <;> clear hwt hs hd
  · go_enter Tryz.func105, Tryz.ntmps105
    go_wp2_with fail
    refine (HWT.out _ HH.out).mono ?_
    rintro e w1 ⟨rfl, H1⟩
    go_wp2_with fail
    go_end0
    exact ⟨rfl, H1⟩
  · go_enter Tryz.func105, Tryz.ntmps105
    go_wp2_with fail
    refine (HWT.out _ HH.out).mono ?_
    rintro e w1 ⟨rfl, H1⟩
    go_wp2_with fail
    refine (rn_end H1 true).mono ?_
    rintro e w2 ⟨rfl, H2⟩
    go_wp2_with fail
    go_end0
    exact ⟨rfl, H2⟩
  · go_enter Tryz.func105, Tryz.ntmps105
    go_wp2_with fail
    refine (HWT.out _ HH.out).mono ?_
    rintro e w1 ⟨rfl, H1⟩
    go_wp2_with fail
    refine (run_note H1 (by have := HC.out; first | exact Nat.le_trans this (by decide) | (simp [Rn.note, Rn.did, Rn.setA, Rn.setB, Rn.waited, Rn.goto, Rn.noted]; omega)) 4 0).mono ?_
    rintro e w2 ⟨rfl, H2⟩
    go_wp2_with fail
    go_end0
    exact ⟨rfl, H2⟩
  · go_enter Tryz.func105, Tryz.ntmps105
    go_wp2_with fail
    refine (HWT.out _ HH.out).mono ?_
    rintro e w1 ⟨rfl, H1⟩
    go_wp2_with fail
    refine (run_note H1 (by have := HC.out; first | exact Nat.le_trans this (by decide) | (simp [Rn.note, Rn.did, Rn.setA, Rn.setB, Rn.waited, Rn.goto, Rn.noted]; omega)) 4 0).mono ?_
    rintro e w2 ⟨rfl, H2⟩
    go_wp2_with fail
    refine (rn_end H2 true).mono ?_
    rintro e w3 ⟨rfl, H3⟩
    go_wp2_with fail
    go_end0
    exact ⟨rfl, H3⟩
set_option maxHeartbeats 800000 in
theorem fq_writerN {S0 : List Nat} {w0 w : World} {m a r : Nat} {rs : List Res} {s : Rn} (H : RunHas S0 w0 m a r rs s w) {o l : Int} (hop : s.f.op = o) (hl : s.f.line = l) (h5 : ¬ l = 5) (hn : I64 s.n) (ha : 0 ≤ s.f.a ∧ s.f.a < 4294967296) (hc : s.notes.length ≤ 800) :
    Calls Tryz.prog 105 #[.pointer (some ⟨r, 0, none⟩)] w fun e w' => e = .returned (.tuple #[]) ∧ RunHas S0 w0 m a r rs s w' := by
  obtain ⟨z0, z2, z4, z5, z6, z7⟩ := H.facts hop hl rfl rfl
  have HC := Lib.hid hc
  have HA := Lib.hid ha
  have HN := Lib.hid hn
  have HH := Lib.hid H
  clear hc H hn ha
  go_enter Tryz.func105, Tryz.ntmps105
  go_wp2_with fail
  (try simp only [Exit.inBlock, Exit.then]); refine bodyPost_ret (results_none rfl _ _ _) rfl ?_
  exact ⟨rfl, HH.out⟩
def fqWriter (s : Rn) : Rn :=
  if s.f.line = 5 then (let s1 := s.waited (waitA s.L s.n s.mode s.task s.f.st 1 (fun v => v == 0)); let s2 := if (waitA s.L s.n s.mode s.task s.f.st 1 (fun v => v == 0)).seen then s1.note 4 0 else s1; if (waitA s.L s.n s.mode s.task s.f.st 1 (fun v => v == 0)).done then s2.fin true else s2) else s
theorem fq_writer {S0 : List Nat} {w0 w : World} {m a r : Nat} {rs : List Res} {s : Rn} (H : RunHas S0 w0 m a r rs s w) (hn : I64 s.n) (ha : 0 ≤ s.f.a ∧ s.f.a < 4294967296) (hc : s.notes.length ≤ 800) : Calls Tryz.prog 105 #[.pointer (some ⟨r, 0, none⟩)] w fun e w' => e = .returned (.tuple #[]) ∧ RunHas S0 w0 m a r rs (fqWriter s) w' := by
  unfold fqWriter
  split
  · exact fq_writer5 H rfl rfl (by assumption) hn ha hc
  · exact fq_writerN H rfl rfl (by assumption) hn ha hc
set_option maxHeartbeats 800000 in
theorem fq_decide62 {S0 : List Nat} {w0 w : World} {m a r : Nat} {rs : List Res} {s : Rn} (H : RunHas S0 w0 m a r rs s w) {o l : Int} (hop : s.f.op = o) (hl : s.f.line = l) (ho : o = 6) (h2 : l = 2) (hn : I64 s.n) (ha : 0 ≤ s.f.a ∧ s.f.a < 4294967296) (hc : s.notes.length ≤ 800) :
    Calls Tryz.prog 107 #[.pointer (some ⟨r, 0, none⟩)] w fun e w' => e = .returned (.tuple #[]) ∧ RunHas S0 w0 m a r rs (if (doA s.L ⟨1, 1, 0, 0, 0⟩).1.old = 0 then (((s.did (doA s.L ⟨1, 1, 0, 0, 0⟩)).setA (doA s.L ⟨1, 1, 0, 0, 0⟩).1.old).note 4 0).fin true else (((s.did (doA s.L ⟨1, 1, 0, 0, 0⟩)).setA (doA s.L ⟨1, 1, 0, 0, 0⟩).1.old).note 5 0).goto 6) w' := by
  obtain ⟨z0, z2, z4, z5, z6, z7⟩ := H.facts hop hl rfl rfl
  have HC := Lib.hid hc
  have HA := Lib.hid ha
  have HN := Lib.hid hn
  have HH := Lib.hid H
  clear hc H hn ha
  subst ho h2
  by_cases hq : (doA s.L ⟨1, 1, 0, 0, 0⟩).1.old = 0
  · simp only [if_pos hq]
    have hz : ((doA s.L ⟨1, 1, 0, 0, 0⟩).1.old == 0) = true := by simpa using hq
    clear hq
    go_enter Tryz.func107, Tryz.ntmps107
    go_wp2_with fail
    go_quiet (fail)
    have HW := HH.out.drewN nq
    clear z0 z2 z4 z5 z6 z7
    generalize w.drewN nq = W at HW ⊢
    obtain ⟨z0, z2, z4, z5, z6, z7⟩ := HW.facts hop hl rfl rfl
    go_wp2_with fail
    refine (rn_load HW 1).mono ?_
    rintro e w1 ⟨rfl, H1⟩
    obtain ⟨x0, x2, x4, x5, x6, x7⟩ := H1.facts hop hl rfl rfl
    go_wp2_with fail
    refine (run_note ((H1.setA (doA s.L ⟨1, 1, 0, 0, 0⟩).1.old)) (by have := HC.out; first | exact Nat.le_trans this (by decide) | (simp [Rn.note, Rn.did, Rn.setA, Rn.setB, Rn.waited, Rn.goto, Rn.noted]; omega)) 4 0).mono ?_
    rintro e w2 ⟨rfl, H2⟩
    go_wp2_with fail
    refine (rn_end H2 true).mono ?_
    rintro e w3 ⟨rfl, H3⟩
    go_wp2_with fail
    (try simp only [Exit.inBlock, Exit.then]); refine bodyPost_ret (results_none rfl _ _ _) rfl ?_
    exact ⟨rfl, H3⟩
  · simp only [if_neg hq]
    have hz : ((doA s.L ⟨1, 1, 0, 0, 0⟩).1.old == 0) = false := by simpa using hq
    clear hq
    go_enter Tryz.func107, Tryz.ntmps107
    go_wp2_with fail
    go_quiet (fail)
    have HW := HH.out.drewN nq
    clear z0 z2 z4 z5 z6 z7
    generalize w.drewN nq = W at HW ⊢
    obtain ⟨z0, z2, z4, z5, z6, z7⟩ := HW.facts hop hl rfl rfl
    go_wp2_with fail
    refine (rn_load HW 1).mono ?_
    rintro e w1 ⟨rfl, H1⟩
    obtain ⟨x0, x2, x4, x5, x6, x7⟩ := H1.facts hop hl rfl rfl
    go_wp2_with fail
    refine (run_note ((H1.setA (doA s.L ⟨1, 1, 0, 0, 0⟩).1.old)) (by have := HC.out; first | exact Nat.le_trans this (by decide) | (simp [Rn.note, Rn.did, Rn.setA, Rn.setB, Rn.waited, Rn.goto, Rn.noted]; omega)) 5 0).mono ?_
    rintro e w2 ⟨rfl, H2⟩
    go_wp2_with fail
    refine (rn_go H2 6).mono ?_
    rintro e w3 ⟨rfl, H3⟩
    go_wp2_with fail
    go_end0
    exact ⟨rfl, H3⟩
set_option maxHeartbeats 800000 in
theorem fq_decide72 {S0 : List Nat} {w0 w : World} {m a r : Nat} {rs : List Res} {s : Rn} (H : RunHas S0 w0 m a r rs s w) {o l : Int} (hop : s.f.op = o) (hl : s.f.line = l) (ho : o = 7) (h2 : l = 2) (hn : I64 s.n) (ha : 0 ≤ s.f.a ∧ s.f.a < 4294967296) (hc : s.notes.length ≤ 800) :
    Calls Tryz.prog 107 #[.pointer (some ⟨r, 0, none⟩)] w fun e w' => e = .returned (.tuple #[]) ∧ RunHas S0 w0 m a r rs (if (doA s.L ⟨1, 1, 0, 0, 0⟩).1.old = 1 then ((s.did (doA s.L ⟨1, 1, 0, 0, 0⟩)).setA (doA s.L ⟨1, 1, 0, 0, 0⟩).1.old).goto 3 else (((s.did (doA s.L ⟨1, 1, 0, 0, 0⟩)).setA (doA s.L ⟨1, 1, 0, 0, 0⟩).1.old).note 5 0).goto 6) w' := by
  obtain ⟨z0, z2, z4, z5, z6, z7⟩ := H.facts hop hl rfl rfl
  have HC := Lib.hid hc
  have HA := Lib.hid ha
  have HN := Lib.hid hn
  have HH := Lib.hid H
  clear hc H hn ha
  subst ho h2
  by_cases hq : (doA s.L ⟨1, 1, 0, 0, 0⟩).1.old = 1
  · simp only [if_pos hq]
    have hz : ((doA s.L ⟨1, 1, 0, 0, 0⟩).1.old == 1) = true := by simpa using hq
    clear hq
    go_enter Tryz.func107, Tryz.ntmps107
    go_wp2_with fail
    go_quiet (fail)
    have HW := HH.out.drewN nq
    clear z0 z2 z4 z5 z6 z7
    generalize w.drewN nq = W at HW ⊢
    obtain ⟨z0, z2, z4, z5, z6, z7⟩ := HW.facts hop hl rfl rfl
    go_wp2_with fail
    refine (rn_load HW 1).mono ?_
    rintro e w1 ⟨rfl, H1⟩
    obtain ⟨x0, x2, x4, x5, x6, x7⟩ := H1.facts hop hl rfl rfl
    go_wp2_with fail
    refine (rn_go ((H1.setA (doA s.L ⟨1, 1, 0, 0, 0⟩).1.old)) 3).mono ?_
    rintro e w2 ⟨rfl, H2⟩
    go_wp2_with fail
    (try simp only [Exit.inBlock, Exit.then]); refine bodyPost_ret (results_none rfl _ _ _) rfl ?_
    exact ⟨rfl, H2⟩
  · simp only [if_neg hq]
    have hz : ((doA s.L ⟨1, 1, 0, 0, 0⟩).1.old == 1) = false := by simpa using hq
    clear hq
    go_enter Tryz.func107, Tryz.ntmps107
    go_wp2_with fail
    go_quiet (fail)
    have HW := HH.out.drewN nq
    clear z0 z2 z4 z5 z6 z7
    generalize w.drewN nq = W at HW ⊢
    obtain ⟨z0, z2, z4, z5, z6, z7⟩ := HW.facts hop hl rfl rfl
    go_wp2_with fail
    refine (rn_load HW 1).mono ?_
    rintro e w1 ⟨rfl, H1⟩
    obtain ⟨x0, x2, x4, x5, x6, x7⟩ := H1.facts hop hl rfl rfl
    go_wp2_with fail
    refine (run_note ((H1.setA (doA s.L ⟨1, 1, 0, 0, 0⟩).1.old)) (by have := HC.out; first | exact Nat.le_trans this (by decide) | (simp [Rn.note, Rn.did, Rn.setA, Rn.setB, Rn.waited, Rn.goto, Rn.noted]; omega)) 5 0).mono ?_
    rintro e w2 ⟨rfl, H2⟩
    go_wp2_with fail
    refine (rn_go H2 6).mono ?_
    rintro e w3 ⟨rfl, H3⟩
    go_wp2_with fail
    go_end0
    exact ⟨rfl, H3⟩
set_option maxHeartbeats 800000 in
theorem fq_decide73 {S0 : List Nat} {w0 w : World} {m a r : Nat} {rs : List Res} {s : Rn} (H : RunHas S0 w0 m a r rs s w) {o l : Int} (hop : s.f.op = o) (hl : s.f.line = l) (ho : o = 7) (h3 : l = 3) (hn : I64 s.n) (ha : 0 ≤ s.f.a ∧ s.f.a < 4294967296) (hc : s.notes.length ≤ 800) :
    Calls Tryz.prog 107 #[.pointer (some ⟨r, 0, none⟩)] w fun e w' => e = .returned (.tuple #[]) ∧ RunHas S0 w0 m a r rs (((s.did (doA s.L ⟨3, 1, 4294967295, 0, 0⟩)).note 9 0).fin true) w' := by
  obtain ⟨z0, z2, z4, z5, z6, z7⟩ := H.facts hop hl rfl rfl
  have HC := Lib.hid hc
  have HA := Lib.hid ha
  have HN := Lib.hid hn
  have HH := Lib.hid H
  clear hc H hn ha
  subst ho h3
  go_enter Tryz.func107, Tryz.ntmps107
  go_wp2_with fail
  go_quiet (fail)
  have HW := HH.out.drewN nq
  clear z0 z2 z4 z5 z6 z7
  generalize w.drewN nq = W at HW ⊢
  obtain ⟨z0, z2, z4, z5, z6, z7⟩ := HW.facts hop hl rfl rfl
  go_wp2_with fail
  refine (rn_add HW 1 4294967295 (by decide)).mono ?_
  rintro e w1 ⟨rfl, H1⟩
  go_wp2_with fail
  refine (run_note H1 (by have := HC.out; first | exact Nat.le_trans this (by decide) | (simp [Rn.note, Rn.did, Rn.setA, Rn.setB, Rn.waited, Rn.goto, Rn.noted]; omega)) 9 0).mono ?_
  rintro e w2 ⟨rfl, H2⟩
  go_wp2_with fail
  refine (rn_end H2 true).mono ?_
  rintro e w3 ⟨rfl, H3⟩
  go_wp2_with fail
  go_end0
  exact ⟨rfl, H3⟩
set_option maxHeartbeats 800000 in
theorem fq_decideG {S0 : List Nat} {w0 w : World} {m a r : Nat} {rs : List Res} {s : Rn} (H : RunHas S0 w0 m a r rs s w) {o l : Int} (hop : s.f.op = o) (hl : s.f.line = l) (h0 : ¬ (o = 6 ∧ l = 2)) (h1 : ¬ (o = 7 ∧ l = 2)) (h2 : ¬ (o = 7 ∧ l = 3)) (hn : I64 s.n) (ha : 0 ≤ s.f.a ∧ s.f.a < 4294967296) (hc : s.notes.length ≤ 800) :
    Calls Tryz.prog 107 #[.pointer (some ⟨r, 0, none⟩)] w fun e w' => e = .returned (.tuple #[]) ∧ RunHas S0 w0 m a r rs (fqGive 6 false [8] s) w' := by
  obtain ⟨z0, z2, z4, z5, z6, z7⟩ := H.facts hop hl rfl rfl
  have HC := Lib.hid hc
  have HA := Lib.hid ha
  have HN := Lib.hid hn
  have HH := Lib.hid H
  clear hc H hn ha
  go_enter Tryz.func107, Tryz.ntmps107
  go_wp2_with fail
  go_quiet (fail)
  have HW := HH.out.drewN nq
  clear z0 z2 z4 z5 z6 z7
  generalize w.drewN nq = W at HW ⊢
  obtain ⟨z0, z2, z4, z5, z6, z7⟩ := HW.facts hop hl rfl rfl
  go_wp2_with fail
  all_goals
    refine (fq_give 6 false (nl := [8]) rfl (by decide) (by decide) (HW.box rfl _ _) HN.out HA.out HC.out).mono ?_
    rintro e w7 ⟨rfl, H7⟩
    go_wp2_with fail
    go_end0
    exact ⟨rfl, H7.unbox⟩
def fqDecide (s : Rn) : Rn :=
  if s.f.op = 6 ∧ s.f.line = 2 then (if (doA s.L ⟨1, 1, 0, 0, 0⟩).1.old = 0 then (((s.did (doA s.L ⟨1, 1, 0, 0, 0⟩)).setA (doA s.L ⟨1, 1, 0, 0, 0⟩).1.old).note 4 0).fin true else (((s.did (doA s.L ⟨1, 1, 0, 0, 0⟩)).setA (doA s.L ⟨1, 1, 0, 0, 0⟩).1.old).note 5 0).goto 6)
  else if s.f.op = 7 ∧ s.f.line = 2 then (if (doA s.L ⟨1, 1, 0, 0, 0⟩).1.old = 1 then ((s.did (doA s.L ⟨1, 1, 0, 0, 0⟩)).setA (doA s.L ⟨1, 1, 0, 0, 0⟩).1.old).goto 3 else (((s.did (doA s.L ⟨1, 1, 0, 0, 0⟩)).setA (doA s.L ⟨1, 1, 0, 0, 0⟩).1.old).note 5 0).goto 6)
  else if s.f.op = 7 ∧ s.f.line = 3 then ((s.did (doA s.L ⟨3, 1, 4294967295, 0, 0⟩)).note 9 0).fin true
  else fqGive 6 false [8] s
theorem fq_decide {S0 : List Nat} {w0 w : World} {m a r : Nat} {rs : List Res} {s : Rn} (H : RunHas S0 w0 m a r rs s w) (hn : I64 s.n) (ha : 0 ≤ s.f.a ∧ s.f.a < 4294967296) (hc : s.notes.length ≤ 800) : Calls Tryz.prog 107 #[.pointer (some ⟨r, 0, none⟩)] w fun e w' => e = .returned (.tuple #[]) ∧ RunHas S0 w0 m a r rs (fqDecide s) w' := by
  unfold fqDecide
  split
  · exact fq_decide62 H rfl rfl (by omega) (by omega) hn ha hc
  split
  · exact fq_decide72 H rfl rfl (by omega) (by omega) hn ha hc
  split
  · exact fq_decide73 H rfl rfl (by omega) (by omega) hn ha hc
  · exact fq_decideG H rfl rfl (by assumption) (by assumption) (by assumption) hn ha hc
set_option maxHeartbeats 800000 in
theorem fq_others20 {S0 : List Nat} {w0 w : World} {m a r : Nat} {rs : List Res} {s : Rn} (H : RunHas S0 w0 m a r rs s w) {o l : Int} (hop : s.f.op = o) (hl : s.f.line = l) (ho : o = 2) (h3 : l = 0) (hn : I64 s.n) (ha : 0 ≤ s.f.a ∧ s.f.a < 4294967296) (hc : s.notes.length ≤ 800) :
    Calls Tryz.prog 108 #[.pointer (some ⟨r, 0, none⟩)] w fun e w' => e = .returned (.tuple #[]) ∧ RunHas S0 w0 m a r rs ((((s.did (doA s.L ⟨3, 1, 4294967295, 0, 0⟩)).note 6 0).wake 1).fin true) w' := by
  obtain ⟨z0, z2, z4, z5, z6, z7⟩ := H.facts hop hl rfl rfl
  have HC := Lib.hid hc
  have HA := Lib.hid ha
  have HN := Lib.hid hn
  have HH := Lib.hid H
  clear hc H hn ha
  subst ho h3
  go_enter Tryz.func108, Tryz.ntmps108
  go_wp2_with fail
  refine (rn_add HH.out 1 4294967295 (by decide)).mono ?_
  rintro e w1 ⟨rfl, H1⟩
  go_wp2_with fail
  refine (run_note H1 (by have := HC.out; first | exact Nat.le_trans this (by decide) | (simp [Rn.note, Rn.did, Rn.setA, Rn.setB, Rn.waited, Rn.goto, Rn.noted]; omega)) 6 0).mono ?_
  rintro e w2 ⟨rfl, H2⟩
  go_wp2_with fail
  refine (rn_wake H2 1).mono ?_
  rintro e w3 ⟨rfl, H3⟩
  go_wp2_with fail
  refine (rn_end H3 true).mono ?_
  rintro e w4 ⟨rfl, H4⟩
  go_wp2_with fail
  go_end0
  exact ⟨rfl, H4⟩
set_option maxHeartbeats 800000 in
theorem fq_others80 {S0 : List Nat} {w0 w : World} {m a r : Nat} {rs : List Res} {s : Rn} (H : RunHas S0 w0 m a r rs s w) {o l : Int} (hop : s.f.op = o) (hl : s.f.line = l) (ho : o = 8) (h3 : l = 0) (hn : I64 s.n) (ha : 0 ≤ s.f.a ∧ s.f.a < 4294967296) (hc : s.notes.length ≤ 800) :
    Calls Tryz.prog 108 #[.pointer (some ⟨r, 0, none⟩)] w fun e w' => e = .returned (.tuple #[]) ∧ RunHas S0 w0 m a r rs ((s.did (doA s.L ⟨3, 1, 1, 0, 0⟩)).goto 1) w' := by
  obtain ⟨z0, z2, z4, z5, z6, z7⟩ := H.facts hop hl rfl rfl
  have HC := Lib.hid hc
  have HA := Lib.hid ha
  have HN := Lib.hid hn
  have HH := Lib.hid H
  clear hc H hn ha
  subst ho h3
  go_enter Tryz.func108, Tryz.ntmps108
  go_wp2_with fail
  refine (rn_add HH.out 1 1 (by decide)).mono ?_
  rintro e w1 ⟨rfl, H1⟩
  go_wp2_with fail
  refine (rn_go H1 1).mono ?_
  rintro e w2 ⟨rfl, H2⟩
  go_wp2_with fail
  go_end0
  exact ⟨rfl, H2⟩
set_option maxHeartbeats 800000 in
theorem fq_others8 {S0 : List Nat} {w0 w : World} {m a r : Nat} {rs : List Res} {s : Rn} (H : RunHas S0 w0 m a r rs s w) {o l : Int} (hop : s.f.op = o) (hl : s.f.line = l) (ho : o = 8) (h3 : ¬ l = 0) (hn : I64 s.n) (ha : 0 ≤ s.f.a ∧ s.f.a < 4294967296) (hc : s.notes.length ≤ 800) :
    Calls Tryz.prog 108 #[.pointer (some ⟨r, 0, none⟩)] w fun e w' => e = .returned (.tuple #[]) ∧ RunHas S0 w0 m a r rs (fqGive 1 true [10] s) w' := by
  obtain ⟨z0, z2, z4, z5, z6, z7⟩ := H.facts hop hl rfl rfl
  have HC := Lib.hid hc
  have HA := Lib.hid ha
  have HN := Lib.hid hn
  have HH := Lib.hid H
  clear hc H hn ha
  subst ho
  go_enter Tryz.func108, Tryz.ntmps108
  go_wp2_with fail
  refine (fq_give 1 true (nl := [10]) rfl (by decide) (by decide) (HH.out.box rfl _ _) HN.out HA.out HC.out).mono ?_
  rintro e w7 ⟨rfl, H7⟩
  go_wp2_with fail
  go_end0
  exact ⟨rfl, H7.unbox⟩
set_option maxHeartbeats 800000 in
theorem fq_othersN2 {S0 : List Nat} {w0 w : World} {m a r : Nat} {rs : List Res} {s : Rn} (H : RunHas S0 w0 m a r rs s w) {o l : Int} (hop : s.f.op = o) (hl : s.f.line = l) (ho : o = 2) (h3 : ¬ l = 0) (hn : I64 s.n) (ha : 0 ≤ s.f.a ∧ s.f.a < 4294967296) (hc : s.notes.length ≤ 800) :
    Calls Tryz.prog 108 #[.pointer (some ⟨r, 0, none⟩)] w fun e w' => e = .returned (.tuple #[]) ∧ RunHas S0 w0 m a r rs s w' := by
  obtain ⟨z0, z2, z4, z5, z6, z7⟩ := H.facts hop hl rfl rfl
  have HC := Lib.hid hc
  have HA := Lib.hid ha
  have HN := Lib.hid hn
  have HH := Lib.hid H
  clear hc H hn ha
  subst ho
  go_enter Tryz.func108, Tryz.ntmps108
  go_wp2_with fail
  go_end0
  exact ⟨rfl, HH.out⟩
set_option maxHeartbeats 800000 in
theorem fq_othersN {S0 : List Nat} {w0 w : World} {m a r : Nat} {rs : List Res} {s : Rn} (H : RunHas S0 w0 m a r rs s w) {o l : Int} (hop : s.f.op = o) (hl : s.f.line = l) (ho : ¬ o = 2) (h8 : ¬ o = 8) (hn : I64 s.n) (ha : 0 ≤ s.f.a ∧ s.f.a < 4294967296) (hc : s.notes.length ≤ 800) :
    Calls Tryz.prog 108 #[.pointer (some ⟨r, 0, none⟩)] w fun e w' => e = .returned (.tuple #[]) ∧ RunHas S0 w0 m a r rs s w' := by
  obtain ⟨z0, z2, z4, z5, z6, z7⟩ := H.facts hop hl rfl rfl
  have HC := Lib.hid hc
  have HA := Lib.hid ha
  have HN := Lib.hid hn
  have HH := Lib.hid H
  clear hc H hn ha
  go_enter Tryz.func108, Tryz.ntmps108
  go_wp2_with fail
  go_end0
  exact ⟨rfl, HH.out⟩
def fqOthers (s : Rn) : Rn :=
  if s.f.op = 2 then (if s.f.line = 0 then (((s.did (doA s.L ⟨3, 1, 4294967295, 0, 0⟩)).note 6 0).wake 1).fin true else s)
  else if s.f.op = 8 then (if s.f.line = 0 then (s.did (doA s.L ⟨3, 1, 1, 0, 0⟩)).goto 1 else fqGive 1 true [10] s) else s
theorem fq_others {S0 : List Nat} {w0 w : World} {m a r : Nat} {rs : List Res} {s : Rn} (H : RunHas S0 w0 m a r rs s w) (hn : I64 s.n) (ha : 0 ≤ s.f.a ∧ s.f.a < 4294967296) (hc : s.notes.length ≤ 800) : Calls Tryz.prog 108 #[.pointer (some ⟨r, 0, none⟩)] w fun e w' => e = .returned (.tuple #[]) ∧ RunHas S0 w0 m a r rs (fqOthers s) w' := by
  unfold fqOthers
  split
  · split
    · exact fq_others20 H rfl rfl (by assumption) (by assumption) hn ha hc
    · exact fq_othersN2 H rfl rfl (by assumption) (by assumption) hn ha hc
  split
  · split
    · exact fq_others80 H rfl rfl (by assumption) (by assumption) hn ha hc
    · exact fq_others8 H rfl rfl (by assumption) (by assumption) hn ha hc
  · exact fq_othersN H rfl rfl (by assumption) (by assumption) hn ha hc
end Go.Proofs.YthnimpkoidablaaGreat.Z

set_option linter.unusedVariables false
set_option linter.unusedSimpArgs false
namespace Go.Proofs.YthnimpkoidablaaGreat.Z
open Go.RowKit
attribute [local go_sem ↓] Go.wp_at_zero Go.wp_at_succ
set_option maxHeartbeats 800000 in
theorem fq_line_0 {S0 : List Nat} {w0 w : World} {m a r : Nat} {rs : List Res} {s : Rn} (H : RunHas S0 w0 m a r rs s w) {o l : Int} (hop : s.f.op = o) (hl : s.f.line = l) (ho : o = 1) (hle : l ≤ 4) (hn : I64 s.n) (ha : 0 ≤ s.f.a ∧ s.f.a < 4294967296) (hc : s.notes.length ≤ 800) :
    Calls Tryz.prog 70 #[.pointer (some ⟨r, 0, none⟩)] w fun e w' => e = .returned (.tuple #[]) ∧ RunHas S0 w0 m a r rs (fqEnter 1 s) w' := by
  obtain ⟨z0, z2, z4, z5, z6, z7⟩ := H.facts hop hl rfl rfl
  have HC := Lib.hid hc
  have HA := Lib.hid ha
  have HN := Lib.hid hn
  have HH := Lib.hid H
  clear hc H hn ha
  subst ho
  go_enter Tryz.func70, Tryz.ntmps70
  go_wp2_with fail
  refine (fq_enter HH.out 1 HN.out HA.out HC.out).mono ?_
  rintro e w1 ⟨rfl, H1⟩
  go_wp2_with fail
  go_end0
  exact ⟨rfl, H1⟩
set_option maxHeartbeats 800000 in
theorem fq_line_1 {S0 : List Nat} {w0 w : World} {m a r : Nat} {rs : List Res} {s : Rn} (H : RunHas S0 w0 m a r rs s w) {o l : Int} (hop : s.f.op = o) (hl : s.f.line = l) (ho : o = 1) (hle : 4 < l) (hn : I64 s.n) (ha : 0 ≤ s.f.a ∧ s.f.a < 4294967296) (hc : s.notes.length ≤ 800) :
    Calls Tryz.prog 70 #[.pointer (some ⟨r, 0, none⟩)] w fun e w' => e = .returned (.tuple #[]) ∧ RunHas S0 w0 m a r rs (fqReader s) w' := by
  obtain ⟨z0, z2, z4, z5, z6, z7⟩ := H.facts hop hl rfl rfl
  have HC := Lib.hid hc
  have HA := Lib.hid ha
  have HN := Lib.hid hn
  have HH := Lib.hid H
  clear hc H hn ha
  subst ho
  go_enter Tryz.func70, Tryz.ntmps70
  go_wp2_with fail
  refine (fq_reader HH.out HN.out HA.out HC.out).mono ?_
  rintro e w1 ⟨rfl, H1⟩
  go_wp2_with fail
  go_end0
  exact ⟨rfl, H1⟩
set_option maxHeartbeats 800000 in
theorem fq_line_2 {S0 : List Nat} {w0 w : World} {m a r : Nat} {rs : List Res} {s : Rn} (H : RunHas S0 w0 m a r rs s w) {o l : Int} (hop : s.f.op = o) (hl : s.f.line = l) (ho : o = 5) (hle : l ≤ 1) (hn : I64 s.n) (ha : 0 ≤ s.f.a ∧ s.f.a < 4294967296) (hc : s.notes.length ≤ 800) :
    Calls Tryz.prog 70 #[.pointer (some ⟨r, 0, none⟩)] w fun e w' => e = .returned (.tuple #[]) ∧ RunHas S0 w0 m a r rs (fqTry 1 5 s) w' := by
  obtain ⟨z0, z2, z4, z5, z6, z7⟩ := H.facts hop hl rfl rfl
  have HC := Lib.hid hc
  have HA := Lib.hid ha
  have HN := Lib.hid hn
  have HH := Lib.hid H
  clear hc H hn ha
  subst ho
  go_enter Tryz.func70, Tryz.ntmps70
  go_wp2_with fail
  refine (fq_try HH.out 1 5 HN.out HA.out HC.out).mono ?_
  rintro e w1 ⟨rfl, H1⟩
  go_wp2_with fail
  go_end0
  exact ⟨rfl, H1⟩
set_option maxHeartbeats 800000 in
theorem fq_line_3 {S0 : List Nat} {w0 w : World} {m a r : Nat} {rs : List Res} {s : Rn} (H : RunHas S0 w0 m a r rs s w) {o l : Int} (hop : s.f.op = o) (hl : s.f.line = l) (ho : o = 5) (hle : 1 < l) (hn : I64 s.n) (ha : 0 ≤ s.f.a ∧ s.f.a < 4294967296) (hc : s.notes.length ≤ 800) :
    Calls Tryz.prog 70 #[.pointer (some ⟨r, 0, none⟩)] w fun e w' => e = .returned (.tuple #[]) ∧ RunHas S0 w0 m a r rs (fqReader s) w' := by
  obtain ⟨z0, z2, z4, z5, z6, z7⟩ := H.facts hop hl rfl rfl
  have HC := Lib.hid hc
  have HA := Lib.hid ha
  have HN := Lib.hid hn
  have HH := Lib.hid H
  clear hc H hn ha
  subst ho
  go_enter Tryz.func70, Tryz.ntmps70
  go_wp2_with fail
  refine (fq_reader HH.out HN.out HA.out HC.out).mono ?_
  rintro e w1 ⟨rfl, H1⟩
  go_wp2_with fail
  go_end0
  exact ⟨rfl, H1⟩
set_option maxHeartbeats 800000 in
theorem fq_line_4 {S0 : List Nat} {w0 w : World} {m a r : Nat} {rs : List Res} {s : Rn} (H : RunHas S0 w0 m a r rs s w) {o l : Int} (hop : s.f.op = o) (hl : s.f.line = l) (ho : o = 3) (hle : l ≤ 4) (hn : I64 s.n) (ha : 0 ≤ s.f.a ∧ s.f.a < 4294967296) (hc : s.notes.length ≤ 800) :
    Calls Tryz.prog 70 #[.pointer (some ⟨r, 0, none⟩)] w fun e w' => e = .returned (.tuple #[]) ∧ RunHas S0 w0 m a r rs (fqEnter 2 s) w' := by
  obtain ⟨z0, z2, z4, z5, z6, z7⟩ := H.facts hop hl rfl rfl
  have HC := Lib.hid hc
  have HA := Lib.hid ha
  have HN := Lib.hid hn
  have HH := Lib.hid H
  clear hc H hn ha
  subst ho
  go_enter Tryz.func70, Tryz.ntmps70
  go_wp2_with fail
  refine (fq_enter HH.out 2 HN.out HA.out HC.out).mono ?_
  rintro e w1 ⟨rfl, H1⟩
  go_wp2_with fail
  go_end0
  exact ⟨rfl, H1⟩
set_option maxHeartbeats 800000 in
theorem fq_line_5 {S0 : List Nat} {w0 w : World} {m a r : Nat} {rs : List Res} {s : Rn} (H : RunHas S0 w0 m a r rs s w) {o l : Int} (hop : s.f.op = o) (hl : s.f.line = l) (ho : o = 3) (hle : 4 < l) (hn : I64 s.n) (ha : 0 ≤ s.f.a ∧ s.f.a < 4294967296) (hc : s.notes.length ≤ 800) :
    Calls Tryz.prog 70 #[.pointer (some ⟨r, 0, none⟩)] w fun e w' => e = .returned (.tuple #[]) ∧ RunHas S0 w0 m a r rs (fqWriter s) w' := by
  obtain ⟨z0, z2, z4, z5, z6, z7⟩ := H.facts hop hl rfl rfl
  have HC := Lib.hid hc
  have HA := Lib.hid ha
  have HN := Lib.hid hn
  have HH := Lib.hid H
  clear hc H hn ha
  subst ho
  go_enter Tryz.func70, Tryz.ntmps70
  go_wp2_with fail
  refine (fq_writer HH.out HN.out HA.out HC.out).mono ?_
  rintro e w1 ⟨rfl, H1⟩
  go_wp2_with fail
  go_end0
  exact ⟨rfl, H1⟩
set_option maxHeartbeats 800000 in
theorem fq_line_6 {S0 : List Nat} {w0 w : World} {m a r : Nat} {rs : List Res} {s : Rn} (H : RunHas S0 w0 m a r rs s w) {o l : Int} (hop : s.f.op = o) (hl : s.f.line = l) (ho : o = 4) (hn : I64 s.n) (ha : 0 ≤ s.f.a ∧ s.f.a < 4294967296) (hc : s.notes.length ≤ 800) :
    Calls Tryz.prog 70 #[.pointer (some ⟨r, 0, none⟩)] w fun e w' => e = .returned (.tuple #[]) ∧ RunHas S0 w0 m a r rs (fqGive 0 true [7, 8] s) w' := by
  obtain ⟨z0, z2, z4, z5, z6, z7⟩ := H.facts hop hl rfl rfl
  have HC := Lib.hid hc
  have HA := Lib.hid ha
  have HN := Lib.hid hn
  have HH := Lib.hid H
  clear hc H hn ha
  subst ho
  go_enter Tryz.func70, Tryz.ntmps70
  go_wp2_with fail
  refine (fq_give 0 true (nl := [7, 8]) rfl (by decide) (by decide) (HH.out.box rfl _ _) HN.out HA.out HC.out).mono ?_
  rintro e w7 ⟨rfl, H7⟩
  go_wp2_with fail
  go_end0
  exact ⟨rfl, H7.unbox⟩
set_option maxHeartbeats 800000 in
theorem fq_line_7 {S0 : List Nat} {w0 w : World} {m a r : Nat} {rs : List Res} {s : Rn} (H : RunHas S0 w0 m a r rs s w) {o l : Int} (hop : s.f.op = o) (hl : s.f.line = l) (ho : o = 6) (hle : l ≤ 1) (hn : I64 s.n) (ha : 0 ≤ s.f.a ∧ s.f.a < 4294967296) (hc : s.notes.length ≤ 800) :
    Calls Tryz.prog 70 #[.pointer (some ⟨r, 0, none⟩)] w fun e w' => e = .returned (.tuple #[]) ∧ RunHas S0 w0 m a r rs (fqTry 2 2 s) w' := by
  obtain ⟨z0, z2, z4, z5, z6, z7⟩ := H.facts hop hl rfl rfl
  have HC := Lib.hid hc
  have HA := Lib.hid ha
  have HN := Lib.hid hn
  have HH := Lib.hid H
  clear hc H hn ha
  subst ho
  go_enter Tryz.func70, Tryz.ntmps70
  go_wp2_with fail
  refine (fq_try HH.out 2 2 HN.out HA.out HC.out).mono ?_
  rintro e w1 ⟨rfl, H1⟩
  go_wp2_with fail
  go_end0
  exact ⟨rfl, H1⟩
set_option maxHeartbeats 800000 in
theorem fq_line_8 {S0 : List Nat} {w0 w : World} {m a r : Nat} {rs : List Res} {s : Rn} (H : RunHas S0 w0 m a r rs s w) {o l : Int} (hop : s.f.op = o) (hl : s.f.line = l) (ho : o = 6) (hle : 1 < l) (hn : I64 s.n) (ha : 0 ≤ s.f.a ∧ s.f.a < 4294967296) (hc : s.notes.length ≤ 800) :
    Calls Tryz.prog 70 #[.pointer (some ⟨r, 0, none⟩)] w fun e w' => e = .returned (.tuple #[]) ∧ RunHas S0 w0 m a r rs (fqDecide s) w' := by
  obtain ⟨z0, z2, z4, z5, z6, z7⟩ := H.facts hop hl rfl rfl
  have HC := Lib.hid hc
  have HA := Lib.hid ha
  have HN := Lib.hid hn
  have HH := Lib.hid H
  clear hc H hn ha
  subst ho
  go_enter Tryz.func70, Tryz.ntmps70
  go_wp2_with fail
  refine (fq_decide HH.out HN.out HA.out HC.out).mono ?_
  rintro e w1 ⟨rfl, H1⟩
  go_wp2_with fail
  go_end0
  exact ⟨rfl, H1⟩
set_option maxHeartbeats 800000 in
theorem fq_line_9 {S0 : List Nat} {w0 w : World} {m a r : Nat} {rs : List Res} {s : Rn} (H : RunHas S0 w0 m a r rs s w) {o l : Int} (hop : s.f.op = o) (hl : s.f.line = l) (ho : o = 7) (hle : l ≤ 1) (hn : I64 s.n) (ha : 0 ≤ s.f.a ∧ s.f.a < 4294967296) (hc : s.notes.length ≤ 800) :
    Calls Tryz.prog 70 #[.pointer (some ⟨r, 0, none⟩)] w fun e w' => e = .returned (.tuple #[]) ∧ RunHas S0 w0 m a r rs (fqTry 2 2 s) w' := by
  obtain ⟨z0, z2, z4, z5, z6, z7⟩ := H.facts hop hl rfl rfl
  have HC := Lib.hid hc
  have HA := Lib.hid ha
  have HN := Lib.hid hn
  have HH := Lib.hid H
  clear hc H hn ha
  subst ho
  go_enter Tryz.func70, Tryz.ntmps70
  go_wp2_with fail
  refine (fq_try HH.out 2 2 HN.out HA.out HC.out).mono ?_
  rintro e w1 ⟨rfl, H1⟩
  go_wp2_with fail
  go_end0
  exact ⟨rfl, H1⟩
set_option maxHeartbeats 800000 in
theorem fq_line_10 {S0 : List Nat} {w0 w : World} {m a r : Nat} {rs : List Res} {s : Rn} (H : RunHas S0 w0 m a r rs s w) {o l : Int} (hop : s.f.op = o) (hl : s.f.line = l) (ho : o = 7) (hle : 1 < l) (hn : I64 s.n) (ha : 0 ≤ s.f.a ∧ s.f.a < 4294967296) (hc : s.notes.length ≤ 800) :
    Calls Tryz.prog 70 #[.pointer (some ⟨r, 0, none⟩)] w fun e w' => e = .returned (.tuple #[]) ∧ RunHas S0 w0 m a r rs (fqDecide s) w' := by
  obtain ⟨z0, z2, z4, z5, z6, z7⟩ := H.facts hop hl rfl rfl
  have HC := Lib.hid hc
  have HA := Lib.hid ha
  have HN := Lib.hid hn
  have HH := Lib.hid H
  clear hc H hn ha
  subst ho
  go_enter Tryz.func70, Tryz.ntmps70
  go_wp2_with fail
  refine (fq_decide HH.out HN.out HA.out HC.out).mono ?_
  rintro e w1 ⟨rfl, H1⟩
  go_wp2_with fail
  go_end0
  exact ⟨rfl, H1⟩
set_option maxHeartbeats 800000 in
theorem fq_line_11 {S0 : List Nat} {w0 w : World} {m a r : Nat} {rs : List Res} {s : Rn} (H : RunHas S0 w0 m a r rs s w) {o l : Int} (hop : s.f.op = o) (hl : s.f.line = l) (k1 : ¬ o = 1) (k5 : ¬ o = 5) (k3 : ¬ o = 3) (k4 : ¬ o = 4) (k6 : ¬ o = 6) (k7 : ¬ o = 7) (hn : I64 s.n) (ha : 0 ≤ s.f.a ∧ s.f.a < 4294967296) (hc : s.notes.length ≤ 800) :
    Calls Tryz.prog 70 #[.pointer (some ⟨r, 0, none⟩)] w fun e w' => e = .returned (.tuple #[]) ∧ RunHas S0 w0 m a r rs (fqOthers s) w' := by
  obtain ⟨z0, z2, z4, z5, z6, z7⟩ := H.facts hop hl rfl rfl
  have HC := Lib.hid hc
  have HA := Lib.hid ha
  have HN := Lib.hid hn
  have HH := Lib.hid H
  clear hc H hn ha
  go_enter Tryz.func70, Tryz.ntmps70
  go_wp2_with fail
  refine (fq_others HH.out HN.out HA.out HC.out).mono ?_
  rintro e w1 ⟨rfl, H1⟩
  go_wp2_with fail
  go_end0
  exact ⟨rfl, H1⟩
def fqA (s : Rn) : Rn :=
  if s.f.op = 1 then (if s.f.line ≤ 4 then fqEnter 1 s else fqReader s)
  else if s.f.op = 5 then (if s.f.line ≤ 1 then fqTry 1 5 s else fqReader s)
  else if s.f.op = 3 then (if s.f.line ≤ 4 then fqEnter 2 s else fqWriter s)
  else if s.f.op = 4 then fqGive 0 true [7, 8] s
  else if s.f.op = 6 then (if s.f.line ≤ 1 then fqTry 2 2 s else fqDecide s)
  else if s.f.op = 7 then (if s.f.line ≤ 1 then fqTry 2 2 s else fqDecide s)
  else fqOthers s
theorem fq_lines {S0 : List Nat} {w0 w : World} {m a r : Nat} {rs : List Res} {s : Rn} (H : RunHas S0 w0 m a r rs s w) (hn : I64 s.n) (ha : 0 ≤ s.f.a ∧ s.f.a < 4294967296) (hc : s.notes.length ≤ 800) : Calls Tryz.prog 70 #[.pointer (some ⟨r, 0, none⟩)] w fun e w' => e = .returned (.tuple #[]) ∧ RunHas S0 w0 m a r rs (fqA s) w' := by
  unfold fqA
  split
  · split
    · exact fq_line_0 H rfl rfl (by assumption) (by assumption) hn ha hc
    · exact fq_line_1 H rfl rfl (by assumption) (by omega) hn ha hc
  split
  · split
    · exact fq_line_2 H rfl rfl (by assumption) (by assumption) hn ha hc
    · exact fq_line_3 H rfl rfl (by assumption) (by omega) hn ha hc
  split
  · split
    · exact fq_line_4 H rfl rfl (by assumption) (by assumption) hn ha hc
    · exact fq_line_5 H rfl rfl (by assumption) (by omega) hn ha hc
  split
  · exact fq_line_6 H rfl rfl (by assumption) hn ha hc
  split
  · split
    · exact fq_line_7 H rfl rfl (by assumption) (by assumption) hn ha hc
    · exact fq_line_8 H rfl rfl (by assumption) (by omega) hn ha hc
  split
  · split
    · exact fq_line_9 H rfl rfl (by assumption) (by assumption) hn ha hc
    · exact fq_line_10 H rfl rfl (by assumption) (by omega) hn ha hc
  · exact fq_line_11 H rfl rfl (by assumption) (by assumption) (by assumption) (by assumption) (by assumption) (by assumption) hn ha hc
end Go.Proofs.YthnimpkoidablaaGreat.Z

set_option linter.unusedVariables false
set_option linter.unusedSimpArgs false
namespace Go.Proofs.YthnimpkoidablaaGreat.Z
open Go.RowKit
variable {s : Rn}
section
theorem fqTry_fk (h : (0 ≤ s.f.a ∧ s.f.a < 4294967296) ∧ (0 ≤ s.f.b ∧ s.f.b < 4294967296)) (cls next : Int) : FK 2 s (fqTry cls next s) := by
  have R := mxTry_fk (s := s) 0 h
  unfold fqTry
  split
  · split
    · exact ((R.note _ _).goto _).more (by decide)
    · exact ((R.note _ _).fin _).more (by decide)
  · exact R.more (by decide)
theorem fqEnter_fk (hw : Words s.L) (h : (0 ≤ s.f.a ∧ s.f.a < 4294967296) ∧ (0 ≤ s.f.b ∧ s.f.b < 4294967296)) (cls : Int) : FK 2 s (fqEnter cls s) := by
  have R := mxEnter_fk (s := s) 0 cls hw h
  unfold fqEnter
  split
  · exact (R.goto _).more (by decide)
  · exact R.more (by decide)
theorem fqGive_fk (hw : Words s.L) (h : (0 ≤ s.f.a ∧ s.f.a < 4294967296) ∧ (0 ≤ s.f.b ∧ s.f.b < 4294967296)) (q : Int) (ok : Bool) (nl : List Int) (hl : nl.length ≤ 2) : FK 2 s (fqGive q ok nl s) := by
  have R := mxGive_fk (s := s) 0 q nl hw h
  unfold fqGive
  split
  · exact (R.fin _).more hl
  · exact R.more hl
theorem fqReader_fk (hw : Words s.L) (h : (0 ≤ s.f.a ∧ s.f.a < 4294967296) ∧ (0 ≤ s.f.b ∧ s.f.b < 4294967296)) : FK 2 s (fqReader s) := by
  unfold fqReader
  split
  · exact (((FK.refl h).did _).goto _).more (by decide)
  · exact fqGive_fk hw h _ _ _ (by decide)
theorem fqWriter_fk (h : (0 ≤ s.f.a ∧ s.f.a < 4294967296) ∧ (0 ≤ s.f.b ∧ s.f.b < 4294967296)) : FK 2 s (fqWriter s) := by
  have R := (FK.refl h)
  unfold fqWriter
  split
  · dsimp only
    split
    · split
      · exact (((R.waited _).note _ _).fin _).more (by decide)
      · exact ((R.waited _).fin _).more (by decide)
    · split
      · exact ((R.waited _).note _ _).more (by decide)
      · exact (R.waited _).more (by decide)
  · exact R.more (by decide)
theorem fqDecide_fk (hw : Words s.L) (h : (0 ≤ s.f.a ∧ s.f.a < 4294967296) ∧ (0 ≤ s.f.b ∧ s.f.b < 4294967296)) : FK 2 s (fqDecide s) := by
  have R := (FK.refl h)
  have hold := fun b => doA_old s.L hw b
  unfold fqDecide
  split
  · split
    · exact ((((R.did _).setA (hold _)).note _ _).fin _).more (by decide)
    · exact ((((R.did _).setA (hold _)).note _ _).goto _).more (by decide)
  split
  · split
    · exact (((R.did _).setA (hold _)).goto _).more (by decide)
    · exact ((((R.did _).setA (hold _)).note _ _).goto _).more (by decide)
  split
  · exact (((R.did _).note _ _).fin _).more (by decide)
  · exact fqGive_fk hw h _ _ _ (by decide)
theorem fqOthers_fk (hw : Words s.L) (h : (0 ≤ s.f.a ∧ s.f.a < 4294967296) ∧ (0 ≤ s.f.b ∧ s.f.b < 4294967296)) : FK 2 s (fqOthers s) := by
  have R := (FK.refl h)
  unfold fqOthers
  split
  · split
    · exact ((((R.did _).note _ _).wake _).fin _).more (by decide)
    · exact R.more (by decide)
  split
  · split
    · exact ((R.did _).goto _).more (by decide)
    · exact fqGive_fk hw h _ _ _ (by decide)
  · exact R.more (by decide)
theorem fqA_fk (hw : Words s.L) (h : (0 ≤ s.f.a ∧ s.f.a < 4294967296) ∧ (0 ≤ s.f.b ∧ s.f.b < 4294967296)) : FK 2 s (fqA s) := by
  unfold fqA
  split
  · split
    · exact fqEnter_fk hw h _
    · exact fqReader_fk hw h
  split
  · split
    · exact fqTry_fk h _ _
    · exact fqReader_fk hw h
  split
  · split
    · exact fqEnter_fk hw h _
    · exact fqWriter_fk h
  split
  · exact fqGive_fk hw h _ _ _ (by decide)
  split
  · split
    · exact fqTry_fk h _ _
    · exact fqDecide_fk hw h
  split
  · split
    · exact fqTry_fk h _ _
    · exact fqDecide_fk hw h
  · exact fqOthers_fk hw h
end
theorem fqA_fine (s : Rn) (hw : Words s.L) (h : I64 s.n ∧ (0 ≤ s.f.a ∧ s.f.a < 4294967296) ∧ (0 ≤ s.f.b ∧ s.f.b < 4294967296)) : Fine s (fqA s) := by
  have F := fqA_fk hw h.2
  exact fine_mk ⟨⟨by rw [F.1.1]; exact h.1, F.2.1⟩, by have := F.2.2; omega⟩
end Go.Proofs.YthnimpkoidablaaGreat.Z
