/- 4 texts of this claim, joined: what each shows stands at its own head. -/
import Derived.Test.YtlndihdlodempaaZM03FqSteps
import Derived.Test.YtlndihdlodempaaZM04FqSteps
import Derived.Test.YtlndihdlodempaaZHas3
import Derived.Test.YtlndihdlodempaaZM00FqSteps
/- Package fq: what a line keeps. Written by genmxfine.py. -/
set_option linter.unusedVariables false
set_option linter.unusedSimpArgs false
namespace Go.Proofs.Ytlndihdlodempaa.Z
open Go.RowKit


variable {s : Rn}
section
theorem fqTry_fk (h : (0 ≤ s.f.a ∧ s.f.a < 4294967296) ∧ (0 ≤ s.f.b ∧ s.f.b < 4294967296)) (cls next : Int) : FK 2 s (fqTry cls next s) := by
  have R := mxTry_fk (s := s) 0 h
  unfold fqTry
  split
  · split
    · exact ((R.note _ _).goto _).more (by decide)
    · exact ((R.note _ _).fin _).more (by decide)
  · exact R.more (by decide)
theorem fqEnter_fk (hw : Words s.L) (h : (0 ≤ s.f.a ∧ s.f.a < 4294967296) ∧ (0 ≤ s.f.b ∧ s.f.b < 4294967296)) (cls : Int) : FK 2 s (fqEnter cls s) := by
  have R := mxEnter_fk (s := s) 0 cls hw h
  unfold fqEnter
  split
  · exact (R.goto _).more (by decide)
  · exact R.more (by decide)
theorem fqGive_fk (hw : Words s.L) (h : (0 ≤ s.f.a ∧ s.f.a < 4294967296) ∧ (0 ≤ s.f.b ∧ s.f.b < 4294967296)) (q : Int) (ok : Bool) (nl : List Int) (hl : nl.length ≤ 2) : FK 2 s (fqGive q ok nl s) := by
  have R := mxGive_fk (s := s) 0 q nl hw h
  unfold fqGive
  split
  · exact (R.fin _).more hl
  · exact R.more hl
theorem fqReader_fk (hw : Words s.L) (h : (0 ≤ s.f.a ∧ s.f.a < 4294967296) ∧ (0 ≤ s.f.b ∧ s.f.b < 4294967296)) : FK 2 s (fqReader s) := by
  unfold fqReader
  split
  · exact (((FK.refl h).did _).goto _).more (by decide)
  · exact fqGive_fk hw h _ _ _ (by decide)
theorem fqWriter_fk (h : (0 ≤ s.f.a ∧ s.f.a < 4294967296) ∧ (0 ≤ s.f.b ∧ s.f.b < 4294967296)) : FK 2 s (fqWriter s) := by
  have R := (FK.refl h)
  unfold fqWriter
  split
  · dsimp only
    split
    · split
      · exact (((R.waited _).note _ _).fin _).more (by decide)
      · exact ((R.waited _).fin _).more (by decide)
    · split
      · exact ((R.waited _).note _ _).more (by decide)
      · exact (R.waited _).more (by decide)
  · exact R.more (by decide)
theorem fqDecide_fk (hw : Words s.L) (h : (0 ≤ s.f.a ∧ s.f.a < 4294967296) ∧ (0 ≤ s.f.b ∧ s.f.b < 4294967296)) : FK 2 s (fqDecide s) := by
  have R := (FK.refl h)
  have hold := fun b => doA_old s.L hw b
  unfold fqDecide
  split
  · split
    · exact ((((R.did _).setA (hold _)).note _ _).fin _).more (by decide)
    · exact ((((R.did _).setA (hold _)).note _ _).goto _).more (by decide)
  split
  · split
    · exact (((R.did _).setA (hold _)).goto _).more (by decide)
    · exact ((((R.did _).setA (hold _)).note _ _).goto _).more (by decide)
  split
  · exact (((R.did _).note _ _).fin _).more (by decide)
  · exact fqGive_fk hw h _ _ _ (by decide)
theorem fqOthers_fk (hw : Words s.L) (h : (0 ≤ s.f.a ∧ s.f.a < 4294967296) ∧ (0 ≤ s.f.b ∧ s.f.b < 4294967296)) : FK 2 s (fqOthers s) := by
  have R := (FK.refl h)
  unfold fqOthers
  split
  · split
    · exact ((((R.did _).note _ _).wake _).fin _).more (by decide)
    · exact R.more (by decide)
  split
  · split
    · exact ((R.did _).goto _).more (by decide)
    · exact fqGive_fk hw h _ _ _ (by decide)
  · exact R.more (by decide)
theorem fqA_fk (hw : Words s.L) (h : (0 ≤ s.f.a ∧ s.f.a < 4294967296) ∧ (0 ≤ s.f.b ∧ s.f.b < 4294967296)) : FK 2 s (fqA s) := by
  unfold fqA
  split
  · split
    · exact fqEnter_fk hw h _
    · exact fqReader_fk hw h
  split
  · split
    · exact fqTry_fk h _ _
    · exact fqReader_fk hw h
  split
  · split
    · exact fqEnter_fk hw h _
    · exact fqWriter_fk h
  split
  · exact fqGive_fk hw h _ _ _ (by decide)
  split
  · split
    · exact fqTry_fk h _ _
    · exact fqDecide_fk hw h
  split
  · split
    · exact fqTry_fk h _ _
    · exact fqDecide_fk hw h
  · exact fqOthers_fk hw h
end
theorem fqA_fine (s : Rn) (hw : Words s.L) (h : I64 s.n ∧ (0 ≤ s.f.a ∧ s.f.a < 4294967296) ∧ (0 ≤ s.f.b ∧ s.f.b < 4294967296)) : Fine s (fqA s) := by
  have F := fqA_fk hw h.2
  exact fine_mk ⟨⟨by rw [F.1.1]; exact h.1, F.2.1⟩, by have := F.2.2; omega⟩
end Go.Proofs.Ytlndihdlodempaa.Z

/- Law 13: a step; an operation by itself. Written by genlaw.py. -/
set_option linter.unusedVariables false
set_option linter.unusedSimpArgs false
namespace Go.Proofs.Ytlndihdlodempaa.Z
open Go.RowKit

theorem fq_stepR {S0 : List Nat} {w0 w : World} {m a r : Nat} {rs : List Res} {s : Rn} (H : RunHas S0 w0 m a r rs s w) (hok : s.ok) :
    Calls Try.prog 14 #[.pointer (some ⟨r, 0, none⟩), .func (.func 43) #[] #[]] w fun e w' => e = .returned (.bool (stepR fqA s).over) ∧ RunHas S0 w0 m a r rs (stepR fqA s) w' := by
  cases hw : s.f.wk.on with
  | true =>
    have e : stepR fqA s = s.woke := by unfold stepR; rw [hw]; rfl
    rw [e]
    exact run_step_wake H hw hok.1 _
  | false =>
    have e : stepR fqA s = fqA s.fresh := by unfold stepR; rw [hw]; rfl
    rw [e]
    exact run_step_lines H hw 43 #[] #[] (enters_of Try.func43 (by kernel_rfl) rfl) (fun W HW => fq_lines HW hok.1 hok.2.1 (by simp [Rn.fresh]))

theorem fq_stepok {s : Rn} (hw : Words s.L) (h : s.ok) : (stepR fqA s).ok ∧ (stepR fqA s).notes.length ≤ 10 := by
  unfold stepR
  split
  · exact ⟨woke_ok h, by simp [Rn.woke]⟩
  · have := fqA_fine s.fresh hw (fresh_ok h)
    exact ⟨this.1, by simpa [Rn.fresh] using this.2⟩

set_option maxHeartbeats 3200000 in
set_option maxRecDepth 100000 in
theorem fq_alone {S0 : List Nat} {w0 w : World} {m a : Nat} {L : List Int} {rs : List Res} (H : Has S0 w0 w (.mem m a L :: rs)) (n mode op : Int) (hn : I64 n) (most : Nat) (hm : most ≤ 2000) :
    Calls Try.prog 113 #[.pointer (some ⟨m, 0, none⟩), .int .i64 n, .int .i64 mode, .int .i64 op, .int .i64 most] w
      (AloneEnd S0 w0 m a rs (aloneA fqA most (start n mode op L))) := by
  have hnew := RunHas.fresh_ (rs := .own 98 4 (.slice none 0 0) 0 [] :: rs) (start n mode op L) (H.ownNil 98 4).swap rfl 43
  obtain ⟨i0, hi0, hz0, hz1, hz2⟩ := info_parts note_info
  have HI := Lib.hid (show _ ∧ _ ∧ _ ∧ _ from ⟨hi0, hz0, hz1, hz2⟩)
  have hok0 := start_ok hn mode op L
  generalize hR : aloneA fqA most (start n mode op L) = R
  have HN := Lib.hid hnew
  have HR := Lib.hid hR
  have HOK := Lib.hid hok0
  clear H hnew hi0 hz0 hz1 hz2 hR hok0 hn
  go_enter Try.func113, Try.ntmps113
  go_wp2_with fail
  refine wp_from (Facts := fun W => RunHas S0 w0 m a w.heap.size (.own 98 4 (.slice none 0 0) 0 [] :: rs) (start n mode op L) W) ?_ HN.out
  intro W HW
  clear HN
  generalize w.heap.size = B at HW ⊢
  have HV := Lib.hid HW
  clear HW
  go_loopw [13, 14] (fun nt i wr => ∃ (k : Nat) (s : Rn) (nn : Nat) (xs : List Value), k ≤ most ∧ i = .int .i64 k ∧ RunHas S0 w0 m a B (.own 98 4 nt nn xs :: rs) s wr ∧ s.ok ∧ nn ≤ 10 * k ∧ aloneA fqA (most - k) s = R) (fun _ i _ => most - (intOf i).toNat)
  case atStart => exact ⟨0, _, 0, [], Nat.zero_le _, rfl, HV.out, HOK.out, by simp, HR.out⟩
  case round =>
    obtain ⟨k, s, nn, xs, hk, rfl, hH, hok, hnn, hal⟩ := hrel
    clear HV HR HOK
    by_cases hlt : k < most
    · obtain ⟨q, hq⟩ : ∃ q, most - k = q + 1 := ⟨most - k - 1, by omega⟩
      rw [hq] at hal
      have hal2 : (if (stepR fqA s).over then ((stepR fqA s).f.ret, stepR fqA s) else aloneA fqA q (stepR fqA s)) = R := hal
      have hso := fq_stepok hH.words hok
      have hst := fq_stepR hH hok
      cases hov : (stepR fqA s).over with
      | true =>
        rw [hov] at hst hal2
        simp only [if_true] at hal2
        subst hal2
        generalize stepR fqA s = s2 at hst hso
        have HST := Lib.hid hst
        have HSO := Lib.hid hso
        have HNN := Lib.hid hnn
        clear hst hso hH hok hnn hal hov
        have hi : (k : Int) < (most : Int) := by omega
        go_wp2_with fail
        refine HST.out.mono ?_
        rintro e w1 ⟨rfl, nv, H3⟩
        obtain ⟨pn, cn, rfl⟩ := owns_slice H3.own3
        have c19 : w1.cell? ⟨B, 19, none⟩ = some (.slice pn s2.notes.length cn) := H3.blk1.cell 19
        go_wp2_with (at_builtin; refine wpList_append_rd (P := Try.prog) _ rfl (.tmp 31) (.tmp 35) _ rfl 0 98 i0 _ 4 32 Try.underlying41 HI.out.1 HI.out.2.1 HI.out.2.2.1 HI.out.2.2.2 rfl (by omega) _ nn xs rfl (Has.ownAt H3 3 rfl) pn s2.notes.length cn (nts s2.notes) rfl (Rd.own H3.own3) (nts_one _) (by have h1 := HSO.out.2; have h2 := HNN.out; simp only [maxLen]; omega) (by have h1 := HSO.out.2; have h2 := HNN.out; omega) (by omega) ?_; intro v' w' hown hg hat; have H4 := H3.grown4 hown hg hat; clear H3 hown hg hat c19; have c13 : w'.cell? ⟨B, 13, none⟩ = some (.int .i64 s2.f.ret) := H4.blk1.cell 13)
        go_wp2
        go_ret2
        exact ⟨_, rfl, H4.cut3⟩
      | false =>
        rw [hov] at hst hal2
        simp only [Bool.false_eq_true, if_false] at hal2
        generalize stepR fqA s = s2 at hst hso hal2
        have HST := Lib.hid hst
        have HSO := Lib.hid hso
        have HNN := Lib.hid hnn
        have HAL := Lib.hid hal2
        clear hst hso hH hok hnn hal hov hal2
        have hi : (k : Int) < (most : Int) := by omega
        go_wp2_with fail
        refine HST.out.mono ?_
        rintro e w1 ⟨rfl, nv, H3⟩
        obtain ⟨pn, cn, rfl⟩ := owns_slice H3.own3
        have c19 : w1.cell? ⟨B, 19, none⟩ = some (.slice pn s2.notes.length cn) := H3.blk1.cell 19
        go_wp2_with (at_builtin; refine wpList_append_rd (P := Try.prog) _ rfl (.tmp 31) (.tmp 35) _ rfl 0 98 i0 _ 4 32 Try.underlying41 HI.out.1 HI.out.2.1 HI.out.2.2.1 HI.out.2.2.2 rfl (by omega) _ nn xs rfl (Has.ownAt H3 3 rfl) pn s2.notes.length cn (nts s2.notes) rfl (Rd.own H3.own3) (nts_one _) (by have h1 := HSO.out.2; have h2 := HNN.out; simp only [maxLen]; omega) (by have h1 := HSO.out.2; have h2 := HNN.out; omega) (by omega) ?_; intro v' w' hown hg hat; have H4 := H3.grown4 hown hg hat; clear H3 hown hg hat c19)
        go_wp2
        go_roundw
        case rel => exact ⟨k + 1, s2, nn + s2.notes.length, xs ++ nts s2.notes, by omega, by go_num, ⟨_, H4⟩, HSO.out.1, by have h1 := HSO.out.2; have h2 := HNN.out; omega, by rw [show most - (k + 1) = q from by omega]; exact HAL.out⟩
        case measure => simp [intOf]; omega
    · have hkm : k = most := by omega
      subst hkm
      rw [Nat.sub_self] at hal
      have hal2 : ((0 : Int), s) = R := hal
      subst hal2
      have HH := Lib.hid hH
      clear hH hok hnn hal hk hlt
      have hi : (k : Int) ≤ (k : Int) := Int.le_refl _
      go_wp2_with fail
      go_ret2
      obtain ⟨nv, H4⟩ := HH.out
      exact ⟨_, rfl, H4.cut3⟩

end Go.Proofs.Ytlndihdlodempaa.Z

/- Law 13: the document's example. Written by genlaw.py. -/
set_option linter.unusedVariables false
set_option linter.unusedSimpArgs false
namespace Go.Proofs.Ytlndihdlodempaa.Z
open Go.RowKit

theorem fq_awake_pure : (aloneA fqA 6 (start 1 1 1 (own4 0 ++ List.replicate ((8 + 4 * (1 : Int)).toNat - 2) 0))).1 = 2 ∧ (ldA (aloneA fqA 6 (start 1 1 1 (own4 0 ++ List.replicate ((8 + 4 * (1 : Int)).toNat - 2) 0))).2.L 0 = 0 ∧ ldA (aloneA fqA 6 (start 1 1 1 (own4 0 ++ List.replicate ((8 + 4 * (1 : Int)).toNat - 2) 0))).2.L 1 = 1) := by
  decide +kernel

set_option maxHeartbeats 1600000 in
theorem fq_awake (w : World) : Calls Try.prog 42 #[] w fun e w' => e = .returned (.bool true) ∧ Touch [] w w' := by
  have hp := fq_awake_pure
  have hf := fun W => first4 1 0 W (by decide) (by decide)
  generalize hL : own4 0 ++ List.replicate ((8 + 4 * (1 : Int)).toNat - 2) 0 = L at hf hp
  have HF := Lib.hid hf
  clear hf hL
  go_enter Try.func42, Try.ntmps42
  go_wp2_with fail
  refine (HF.out _).mono ?_
  rintro e w1 h1
  obtain ⟨p, g, cap, rfl, H1⟩ := has_newwords (Has.start [] w) h1
  clear h1
  go_wp2_with fail
  refine (fromRow_has H1 rfl).mono ?_
  rintro e w2 ⟨m, a, rfl, H2⟩
  clear H1
  go_wp2_with fail
  refine (fq_alone H2 1 1 1 (by unfold I64; decide) 6 (by decide)).mono ?_
  rintro e w3 ⟨v, he, H3⟩
  generalize aloneA fqA 6 (start 1 1 1 L) = R at hp he H3
  obtain ⟨r1, s3⟩ := R
  obtain ⟨rfl, hp2⟩ := hp
  simp only at he H3 hp2
  subst he
  clear H2
  have hld := fun (c : Int) W (H : Has [] w W (.mem m a s3.L :: .row p g cap L :: [])) => load_has H c
  have hl0 := hld 0
  have hl1 := hld 1
  rw [hp2.1] at hl0
  rw [hp2.2] at hl1
  have HL0 := Lib.hid hl0
  have HL1 := Lib.hid hl1
  clear hld hl0 hl1 hp2
  go_wp2_with fail
  refine (HL0.out _ H3).mono ?_
  rintro e w4 ⟨rfl, G4⟩
  go_wp2_with fail
  refine (HL1.out _ G4).mono ?_
  rintro e w5 ⟨rfl, H4⟩
  go_wp2_with fail
  go_ret
  exact ⟨by simp, H4.touch⟩

end Go.Proofs.Ytlndihdlodempaa.Z

/- Law 13: the statement FqSteps: its walk. Written by gensteps.py. -/
set_option linter.unusedVariables false
set_option linter.unusedSimpArgs false
namespace Go.Proofs.Ytlndihdlodempaa.Z
open Go.RowKit
attribute [local go_sem ↓] Go.wp_at_zero Go.wp_at_succ

/-- Its words are words, its line is a whole number of 64 bits. -/
def FrOk2 (f : Fr) : Prop := FrOk f ∧ I64 f.line

set_option maxHeartbeats 3200000 in
set_option maxRecDepth 100000 in
theorem fqSteps_some {A : Option Addr} {ln cp : Nat} {L : List Int} (w : World) (hr : Rd w 1 A ln (u32s L)) (hw : Words L) (n mode task : Int) (f : Fr) (hn : I64 n) (ha : 0 ≤ f.a ∧ f.a < 4294967296) (hb : 0 ≤ f.b ∧ f.b < 4294967296) (hI : I64 f.line) :
    Calls Try.prog 10 #[.slice A ln cp, .int .i64 n, .int .i64 mode, .int .i64 task, .agg (Fr.cells f)] w fun e w' => e = .returned (.bool true) ∧ Touch [] w w' := by
  have hl := len_of_rd hr
  subst hl
  have h1024 := hw.1
  have i1 : ¬ ((1024 : Int) < (L.length : Int)) := by omega
  obtain ⟨op, line, fa, fb, st, ⟨on, wc, wi, hit⟩, ret⟩ := f
  simp only [Fr.cells] at *
  have HW := Lib.hid hw
  have HN := Lib.hid hn
  have HA := Lib.hid ha
  have HB := Lib.hid hb
  have HIL := Lib.hid hI
  clear hw hn ha hb hI
  go_enter Try.func10, Try.ntmps10
  go_wp2_with fail
  refine (from_has ((Has.start [] w).new1) (hr.touch ((Touch.refl [] _).alloc _) (by simp)) HW.out).mono ?_
  rintro e w1 ⟨m, a, rfl, H1⟩
  obtain ⟨k0, k1, k2⟩ := H1.blk1.own
  go_wp2_with fail
  refine wp_from (Facts := fun W => RunHas [] w m a w1.heap.size (.blk w.heap.size #[.int .i64 op, .int .i64 line, .int .u32 fa, .int .u32 fb, .int .i64 st, .bool on, .int .i64 wc, .int .i64 wi, .bool hit, .int .i64 ret] :: []) (stepStart n mode task ⟨op, line, fa, fb, st, ⟨on, wc, wi, hit⟩, ret⟩ L) W) ?_ (RunHas.fresh_ (stepStart n mode task ⟨op, line, fa, fb, st, ⟨on, wc, wi, hit⟩, ret⟩ L) H1 rfl 43)
  clear k0 k1 k2 H1
  intro W HR
  generalize w.heap.size = b0 at HR ⊢
  generalize w1.heap.size = r at HR ⊢
  obtain ⟨nv, HR⟩ := HR
  have HR : Has [] w W (.mem m a L :: .blk r (rcells m (stepStart n mode task ⟨op, line, fa, fb, st, ⟨on, wc, wi, hit⟩, ret⟩ L) nv) :: .own 98 4 nv 0 [] :: .blk b0 #[.int .i64 op, .int .i64 line, .int .u32 fa, .int .u32 fb, .int .i64 st, .bool on, .int .i64 wc, .int .i64 wi, .bool hit, .int .i64 ret] :: []) := HR
  have HRD := Lib.hid hr
  clear hr
  have hk : ∀ w', Has [] w w' (.mem m a L :: .blk r (rcells m (stepStart n mode task ⟨op, line, fa, fb, st, ⟨on, wc, wi, hit⟩, ret⟩ L) nv) :: .own 98 4 nv 0 [] :: .blk b0 #[.int .i64 op, .int .i64 line, .int .u32 fa, .int .u32 fb, .int .i64 st, .bool on, .int .i64 wc, .int .i64 wi, .bool hit, .int .i64 ret] :: []) → Has [] w w' (.mem m a L :: .blk r (rcells m (stepStart n mode task ⟨op, line, fa, fb, st, ⟨on, wc, wi, hit⟩, ret⟩ L) nv) :: .own 98 4 nv 0 [] :: .blk b0 #[.int .i64 op, .int .i64 line, .int .u32 fa, .int .u32 fb, .int .i64 st, .bool on, .int .i64 wc, .int .i64 wi, .bool hit, .int .i64 ret] :: []) ∧ (∀ i, w'.cell? ⟨b0, i, none⟩ = #[.int .i64 op, .int .i64 line, .int .u32 fa, .int .u32 fb, .int .i64 st, .bool on, .int .i64 wc, .int .i64 wi, .bool hit, .int .i64 ret][i]?) := fun w' h => ⟨h, (Has.at_ h 3 rfl).cell⟩
  have hcopy : ∀ w', Has [] w w' (.mem m a L :: .blk r (rcells m (stepStart n mode task ⟨op, line, fa, fb, st, ⟨on, wc, wi, hit⟩, ret⟩ L) nv) :: .own 98 4 nv 0 [] :: .blk b0 #[.int .i64 op, .int .i64 line, .int .u32 fa, .int .u32 fb, .int .i64 st, .bool on, .int .i64 wc, .int .i64 wi, .bool hit, .int .i64 ret] :: []) → Calls Try.prog 13 #[.slice A L.length cp] w' (HasRow [] w L (.mem m a L :: .blk r (rcells m (stepStart n mode task ⟨op, line, fa, fb, st, ⟨on, wc, wi, hit⟩, ret⟩ L) nv) :: .own 98 4 nv 0 [] :: .blk b0 #[.int .i64 op, .int .i64 line, .int .u32 fa, .int .u32 fb, .int .i64 st, .bool on, .int .i64 wc, .int .i64 wi, .bool hit, .int .i64 ret] :: [])) := fun w' h => copy_has h (HRD.out.touch h.touch (by simp)) HW.out
  go_region_held3 (fun w' => Has [] w w' (.mem m a L :: .blk r (rcells m (stepStart n mode task ⟨op, line, fa, fb, st, ⟨on, wc, wi, hit⟩, ret⟩ L) nv) :: .own 98 4 nv 0 [] :: .blk b0 #[.int .i64 op, .int .i64 line, .int .u32 fa, .int .u32 fb, .int .i64 st, .bool on, .int .i64 wc, .int .i64 wi, .bool hit, .int .i64 ret] :: []) ∧ (∀ i, w'.cell? ⟨b0, i, none⟩ = #[.int .i64 op, .int .i64 line, .int .u32 fa, .int .u32 fb, .int .i64 st, .bool on, .int .i64 wc, .int .i64 wi, .bool hit, .int .i64 ret][i]?))
    (first | (go_split_ands; refine hk _ ?_; first | assumption | exact HR.drew | exact Has.tail (by assumption) | exact (Has.tail (by assumption)).grow ((Touch.refl [] _).alloc _)))
    (first | (go_at_call 13; refine (hcopy _ (by go_split_ands; first | assumption | exact HR.drew)).mono ?_; rintro e w2 ⟨p, g, cap, rfl, H2⟩))
  all_goals
    go_wp2_with fail
    refine calls_from (Facts := fun W => RunHas [] w m a r (.row p g cap L :: .blk w2.heap.size (xcells p cap (stepStart n mode task ⟨op, line, fa, fb, st, ⟨on, wc, wi, hit⟩, ret⟩ L) (.slice none 0 0)) :: .own 98 4 (.slice none 0 0) 0 [] :: .blk b0 #[.int .i64 op, .int .i64 line, .int .u32 fa, .int .u32 fb, .int .i64 st, .bool on, .int .i64 wc, .int .i64 wi, .bool hit, .int .i64 ret] :: []) (stepStart n mode task ⟨op, line, fa, fb, st, ⟨on, wc, wi, hit⟩, ret⟩ L) W) ?_ ⟨nv, six (H2.al1.own_nil _ _)⟩
    clear H2 hk hcopy HR
    intro W2 H4
    generalize w2.heap.size = x at H4 ⊢
    refine (fq_stepR H4 ⟨HN.out, HA.out, HB.out⟩).mono ?_
    rintro e w3 ⟨rfl, nv2, H5⟩
    have H6 : XHas [] w p g cap x _ (stepStart n mode task ⟨op, line, fa, fb, st, ⟨on, wc, wi, hit⟩, ret⟩ L) w3 := ⟨_, six H5⟩
    clear H5 H4
    go_wp2_with fail
    cases on with
    | true =>
      have e1 : stepR fqA (stepStart n mode task ⟨op, line, fa, fb, st, ⟨true, wc, wi, hit⟩, ret⟩ L) = (stepStart n mode task ⟨op, line, fa, fb, st, ⟨true, wc, wi, hit⟩, ret⟩ L).woke := by unfold stepR; rfl
      refine (xn_waking_on H6 rfl).mono ?_
      rw [← e1]
      rintro e w4 ⟨rfl, H7⟩
      clear H6 e1
      go_wp2_with fail
      refine (fq_lines_nil _).mono ?_
      rintro e w6 ⟨rfl, t6⟩
      have t6 : Touch [] w4 w6 := by first | exact t6 | (rw [← t6]; exact Touch.refl _ _)
      obtain ⟨nx2, H9⟩ := H7.grow t6
      clear H7
      have hso := (fq_stepok (s := (stepStart n mode task ⟨op, line, fa, fb, st, ⟨true, wc, wi, hit⟩, ret⟩ L)) HW.out ⟨HN.out, HA.out, HB.out⟩).2
      generalize stepR fqA (stepStart n mode task ⟨op, line, fa, fb, st, ⟨true, wc, wi, hit⟩, ret⟩ L) = s1 at H9 hso ⊢
      go_wp2_with fail
      refine wp_from (Facts := fun W => RSKeep w m a r p g cap x s1 nv2 nx2 W) ?_ (drop7 H9)
      clear H9
      intro W3 H9
      obtain ⟨pn, cn, rfl⟩ := owns_slice (Has.ownAt H9 5 rfl)
      obtain ⟨qn, dn, rfl⟩ := owns_slice (Has.ownAt H9 2 rfl)
      obtain ⟨ob, hob⟩ : ∃ ob, s1.over = ob := ⟨_, rfl⟩
      rw [hob]
      obtain ⟨n', mode', task', ⟨op', line', fa', fb', st', ⟨on', wc', wi', hit'⟩, ret'⟩, ⟨ak, ac, ax, ay, ao⟩, notes', L'⟩ := s1
      have HSO := Lib.hid hso
      have HOB := Lib.hid hob
      clear hso hob
      refine region_moved 39 4 rfl (by kernel_rfl) (by kernel_rfl) ?_
      simp only [List.take_succ_cons, List.take_zero, List.drop_succ_cons, List.drop_zero, List.cons_append, List.nil_append]
      have HK := Lib.hid H9.drew
      obtain ⟨⟨zr0, (zr1 : ∀ i, World.cell? _ ⟨r, i, none⟩ = (#[.pointer (some ⟨m, 0, none⟩), .int .i64 n', .int .i64 mode', .int .i64 task', .int .i64 op', .int .i64 line', .int .u32 fa', .int .u32 fb', .int .i64 st', .bool on', .int .i64 wc', .int .i64 wi', .bool hit', .int .i64 ret', .int .i64 ak, .int .i64 ac, .int .u32 ax, .int .u32 ay, .int .u32 ao, (.slice pn notes'.length cn)] : Array Value)[i]?)⟩, zx0, (zx1 : ∀ i, World.cell? _ ⟨x, i, none⟩ = (#[.slice p L'.length cap, .int .i64 n', .int .i64 mode', .int .i64 task', .int .i64 op', .int .i64 line', .int .u32 fa', .int .u32 fb', .int .i64 st', .bool on', .int .i64 wc', .int .i64 wi', .bool hit', .int .i64 ret', .int .i64 ak, .int .i64 ac, .int .u32 ax, .int .u32 ay, .int .u32 ao, (.slice qn notes'.length dn)] : Array Value)[i]?)⟩ := rskeep H9.drew
      clear H9
      go_wp2_with fail
      refine (rsover HK.out).mono ?_
      rintro e w10 ⟨rfl, H10⟩
      obtain ⟨⟨ar0, (ar1 : ∀ i, World.cell? _ ⟨r, i, none⟩ = (#[.pointer (some ⟨m, 0, none⟩), .int .i64 n', .int .i64 mode', .int .i64 task', .int .i64 op', .int .i64 line', .int .u32 fa', .int .u32 fb', .int .i64 st', .bool on', .int .i64 wc', .int .i64 wi', .bool hit', .int .i64 ret', .int .i64 ak, .int .i64 ac, .int .u32 ax, .int .u32 ay, .int .u32 ao, (.slice pn notes'.length cn)] : Array Value)[i]?)⟩, ax0, (ax1 : ∀ i, World.cell? _ ⟨x, i, none⟩ = (#[.slice p L'.length cap, .int .i64 n', .int .i64 mode', .int .i64 task', .int .i64 op', .int .i64 line', .int .u32 fa', .int .u32 fb', .int .i64 st', .bool on', .int .i64 wc', .int .i64 wi', .bool hit', .int .i64 ret', .int .i64 ak, .int .i64 ac, .int .u32 ax, .int .u32 ay, .int .u32 ao, (.slice qn notes'.length dn)] : Array Value)[i]?)⟩ := rskeep H10
      have HK2 := Lib.hid H10
      clear H10
      rw [HOB.out]
      cases ob <;>
        (go_wp2_with fail
         refine (rsnotes HK2.out (by have := HSO.out; simp only at this ⊢; omega)).mono ?_
         rintro e w11 ⟨rfl, H11⟩
         obtain ⟨⟨br0, (br1 : ∀ i, World.cell? _ ⟨r, i, none⟩ = (#[.pointer (some ⟨m, 0, none⟩), .int .i64 n', .int .i64 mode', .int .i64 task', .int .i64 op', .int .i64 line', .int .u32 fa', .int .u32 fb', .int .i64 st', .bool on', .int .i64 wc', .int .i64 wi', .bool hit', .int .i64 ret', .int .i64 ak, .int .i64 ac, .int .u32 ax, .int .u32 ay, .int .u32 ao, (.slice pn notes'.length cn)] : Array Value)[i]?)⟩, bx0, (bx1 : ∀ i, World.cell? _ ⟨x, i, none⟩ = (#[.slice p L'.length cap, .int .i64 n', .int .i64 mode', .int .i64 task', .int .i64 op', .int .i64 line', .int .u32 fa', .int .u32 fb', .int .i64 st', .bool on', .int .i64 wc', .int .i64 wi', .bool hit', .int .i64 ret', .int .i64 ak, .int .i64 ac, .int .u32 ax, .int .u32 ay, .int .u32 ao, (.slice qn notes'.length dn)] : Array Value)[i]?)⟩ := rskeep H11
         have HK3 := Lib.hid H11
         clear H11
         go_wp2_with fail
         rw [only_normal]
         refine callK_static rfl rfl (enters_of Try.func23 (by kernel_rfl) rfl) (by simp [Act.eval]) (fun W tW => (rsall (HK3.out.grow tW)).mono ?_)
         rintro e w12 ⟨p', cap', rfl, H12, hrd12, t12⟩
         refine ⟨_, rfl, t12, ?_⟩
         obtain ⟨⟨cr0, (cr1 : ∀ i, World.cell? _ ⟨r, i, none⟩ = (#[.pointer (some ⟨m, 0, none⟩), .int .i64 n', .int .i64 mode', .int .i64 task', .int .i64 op', .int .i64 line', .int .u32 fa', .int .u32 fb', .int .i64 st', .bool on', .int .i64 wc', .int .i64 wi', .bool hit', .int .i64 ret', .int .i64 ak, .int .i64 ac, .int .u32 ax, .int .u32 ay, .int .u32 ao, (.slice pn notes'.length cn)] : Array Value)[i]?)⟩, cx0, (cx1 : ∀ i, World.cell? _ ⟨x, i, none⟩ = (#[.slice p L'.length cap, .int .i64 n', .int .i64 mode', .int .i64 task', .int .i64 op', .int .i64 line', .int .u32 fa', .int .u32 fb', .int .i64 st', .bool on', .int .i64 wc', .int .i64 wi', .bool hit', .int .i64 ret', .int .i64 ak, .int .i64 ac, .int .u32 ax, .int .u32 ay, .int .u32 ao, (.slice qn notes'.length dn)] : Array Value)[i]?)⟩ := rskeep H12
         have HK4 := Lib.hid H12
         have HRD4 := Lib.hid hrd12
         clear H12 hrd12
         go_wp2_with fail
         refine (rssame HK4.out HRD4.out).mono ?_
         rintro e w13 ⟨rfl, H13⟩
         have HK5 := Lib.hid H13
         clear H13
         go_wp2_with fail
         refine (fq_awake w13).mono ?_
         rintro e w14 ⟨rfl, t14⟩
         go_wp2_with fail
         rw [only_normal]
         go_wp2_with fail
         go_ret
         exact ⟨rfl, Has.touch (HK5.out.grow t14)⟩)
    | false =>
      have e1 : stepR fqA (stepStart n mode task ⟨op, line, fa, fb, st, ⟨false, wc, wi, hit⟩, ret⟩ L) = fqA (stepStart n mode task ⟨op, line, fa, fb, st, ⟨false, wc, wi, hit⟩, ret⟩ L).fresh := by unfold stepR; rfl
      refine (xn_waking_off H6 rfl).mono ?_
      rintro e w4 ⟨rfl, H7⟩
      clear H6
      go_wp2_with fail
      refine (xfq_lines H7 HIL.out HA.out (by simp [Rn.fresh])).mono ?_
      rw [← e1]
      rintro e w5 ⟨rfl, H8⟩
      clear H7 e1
      go_wp2_with fail
      refine (fq_lines_nil _).mono ?_
      rintro e w6 ⟨rfl, t6⟩
      have t6 : Touch [] w5 w6 := by first | exact t6 | (rw [← t6]; exact Touch.refl _ _)
      obtain ⟨nx2, H9⟩ := H8.grow t6
      clear H8
      have hso := (fq_stepok (s := (stepStart n mode task ⟨op, line, fa, fb, st, ⟨false, wc, wi, hit⟩, ret⟩ L)) HW.out ⟨HN.out, HA.out, HB.out⟩).2
      generalize stepR fqA (stepStart n mode task ⟨op, line, fa, fb, st, ⟨false, wc, wi, hit⟩, ret⟩ L) = s1 at H9 hso ⊢
      go_wp2_with fail
      refine wp_from (Facts := fun W => RSKeep w m a r p g cap x s1 nv2 nx2 W) ?_ (drop7 H9)
      clear H9
      intro W3 H9
      obtain ⟨pn, cn, rfl⟩ := owns_slice (Has.ownAt H9 5 rfl)
      obtain ⟨qn, dn, rfl⟩ := owns_slice (Has.ownAt H9 2 rfl)
      obtain ⟨ob, hob⟩ : ∃ ob, s1.over = ob := ⟨_, rfl⟩
      rw [hob]
      obtain ⟨n', mode', task', ⟨op', line', fa', fb', st', ⟨on', wc', wi', hit'⟩, ret'⟩, ⟨ak, ac, ax, ay, ao⟩, notes', L'⟩ := s1
      have HSO := Lib.hid hso
      have HOB := Lib.hid hob
      clear hso hob
      refine region_moved 39 4 rfl (by kernel_rfl) (by kernel_rfl) ?_
      simp only [List.take_succ_cons, List.take_zero, List.drop_succ_cons, List.drop_zero, List.cons_append, List.nil_append]
      have HK := Lib.hid H9.drew
      obtain ⟨⟨zr0, (zr1 : ∀ i, World.cell? _ ⟨r, i, none⟩ = (#[.pointer (some ⟨m, 0, none⟩), .int .i64 n', .int .i64 mode', .int .i64 task', .int .i64 op', .int .i64 line', .int .u32 fa', .int .u32 fb', .int .i64 st', .bool on', .int .i64 wc', .int .i64 wi', .bool hit', .int .i64 ret', .int .i64 ak, .int .i64 ac, .int .u32 ax, .int .u32 ay, .int .u32 ao, (.slice pn notes'.length cn)] : Array Value)[i]?)⟩, zx0, (zx1 : ∀ i, World.cell? _ ⟨x, i, none⟩ = (#[.slice p L'.length cap, .int .i64 n', .int .i64 mode', .int .i64 task', .int .i64 op', .int .i64 line', .int .u32 fa', .int .u32 fb', .int .i64 st', .bool on', .int .i64 wc', .int .i64 wi', .bool hit', .int .i64 ret', .int .i64 ak, .int .i64 ac, .int .u32 ax, .int .u32 ay, .int .u32 ao, (.slice qn notes'.length dn)] : Array Value)[i]?)⟩ := rskeep H9.drew
      clear H9
      go_wp2_with fail
      refine (rsover HK.out).mono ?_
      rintro e w10 ⟨rfl, H10⟩
      obtain ⟨⟨ar0, (ar1 : ∀ i, World.cell? _ ⟨r, i, none⟩ = (#[.pointer (some ⟨m, 0, none⟩), .int .i64 n', .int .i64 mode', .int .i64 task', .int .i64 op', .int .i64 line', .int .u32 fa', .int .u32 fb', .int .i64 st', .bool on', .int .i64 wc', .int .i64 wi', .bool hit', .int .i64 ret', .int .i64 ak, .int .i64 ac, .int .u32 ax, .int .u32 ay, .int .u32 ao, (.slice pn notes'.length cn)] : Array Value)[i]?)⟩, ax0, (ax1 : ∀ i, World.cell? _ ⟨x, i, none⟩ = (#[.slice p L'.length cap, .int .i64 n', .int .i64 mode', .int .i64 task', .int .i64 op', .int .i64 line', .int .u32 fa', .int .u32 fb', .int .i64 st', .bool on', .int .i64 wc', .int .i64 wi', .bool hit', .int .i64 ret', .int .i64 ak, .int .i64 ac, .int .u32 ax, .int .u32 ay, .int .u32 ao, (.slice qn notes'.length dn)] : Array Value)[i]?)⟩ := rskeep H10
      have HK2 := Lib.hid H10
      clear H10
      rw [HOB.out]
      cases ob <;>
        (go_wp2_with fail
         refine (rsnotes HK2.out (by have := HSO.out; simp only at this ⊢; omega)).mono ?_
         rintro e w11 ⟨rfl, H11⟩
         obtain ⟨⟨br0, (br1 : ∀ i, World.cell? _ ⟨r, i, none⟩ = (#[.pointer (some ⟨m, 0, none⟩), .int .i64 n', .int .i64 mode', .int .i64 task', .int .i64 op', .int .i64 line', .int .u32 fa', .int .u32 fb', .int .i64 st', .bool on', .int .i64 wc', .int .i64 wi', .bool hit', .int .i64 ret', .int .i64 ak, .int .i64 ac, .int .u32 ax, .int .u32 ay, .int .u32 ao, (.slice pn notes'.length cn)] : Array Value)[i]?)⟩, bx0, (bx1 : ∀ i, World.cell? _ ⟨x, i, none⟩ = (#[.slice p L'.length cap, .int .i64 n', .int .i64 mode', .int .i64 task', .int .i64 op', .int .i64 line', .int .u32 fa', .int .u32 fb', .int .i64 st', .bool on', .int .i64 wc', .int .i64 wi', .bool hit', .int .i64 ret', .int .i64 ak, .int .i64 ac, .int .u32 ax, .int .u32 ay, .int .u32 ao, (.slice qn notes'.length dn)] : Array Value)[i]?)⟩ := rskeep H11
         have HK3 := Lib.hid H11
         clear H11
         go_wp2_with fail
         rw [only_normal]
         refine callK_static rfl rfl (enters_of Try.func23 (by kernel_rfl) rfl) (by simp [Act.eval]) (fun W tW => (rsall (HK3.out.grow tW)).mono ?_)
         rintro e w12 ⟨p', cap', rfl, H12, hrd12, t12⟩
         refine ⟨_, rfl, t12, ?_⟩
         obtain ⟨⟨cr0, (cr1 : ∀ i, World.cell? _ ⟨r, i, none⟩ = (#[.pointer (some ⟨m, 0, none⟩), .int .i64 n', .int .i64 mode', .int .i64 task', .int .i64 op', .int .i64 line', .int .u32 fa', .int .u32 fb', .int .i64 st', .bool on', .int .i64 wc', .int .i64 wi', .bool hit', .int .i64 ret', .int .i64 ak, .int .i64 ac, .int .u32 ax, .int .u32 ay, .int .u32 ao, (.slice pn notes'.length cn)] : Array Value)[i]?)⟩, cx0, (cx1 : ∀ i, World.cell? _ ⟨x, i, none⟩ = (#[.slice p L'.length cap, .int .i64 n', .int .i64 mode', .int .i64 task', .int .i64 op', .int .i64 line', .int .u32 fa', .int .u32 fb', .int .i64 st', .bool on', .int .i64 wc', .int .i64 wi', .bool hit', .int .i64 ret', .int .i64 ak, .int .i64 ac, .int .u32 ax, .int .u32 ay, .int .u32 ao, (.slice qn notes'.length dn)] : Array Value)[i]?)⟩ := rskeep H12
         have HK4 := Lib.hid H12
         have HRD4 := Lib.hid hrd12
         clear H12 hrd12
         go_wp2_with fail
         refine (rssame HK4.out HRD4.out).mono ?_
         rintro e w13 ⟨rfl, H13⟩
         have HK5 := Lib.hid H13
         clear H13
         go_wp2_with fail
         refine (fq_awake w13).mono ?_
         rintro e w14 ⟨rfl, t14⟩
         go_wp2_with fail
         rw [only_normal]
         go_wp2_with fail
         go_ret
         exact ⟨rfl, Has.touch (HK5.out.grow t14)⟩)
theorem fqSteps_long {A : Option Addr} {ln cp : Nat} (w : World) (n mode task : Int) (f : Fr) (hl : 1024 < ln) :
    Calls Try.prog 10 #[.slice A ln cp, .int .i64 n, .int .i64 mode, .int .i64 task, .agg (Fr.cells f)] w fun e w' => e = .returned (.bool true) ∧ Touch [] w w' := by
  have i1 : ((1024 : Int) < (ln : Int)) := by omega
  obtain ⟨op, line, fa, fb, st, ⟨on, wc, wi, hit⟩, ret⟩ := f
  simp only [Fr.cells]
  go_enter Try.func10, Try.ntmps10
  go_wp2_with (go_at_call 42; refine (fq_awake _).mono ?_; rintro e w9 ⟨rfl, t9⟩)
  go_ret
  exact ⟨rfl, ((Touch.refl [] w).alloc _).trans t9⟩

/-- WHATEVER THE INPUT. -/
theorem fqSteps_any {A : Option Addr} {ln cp : Nat} {L : List Int} (w : World) (hr : Rd w 1 A ln (L.flatMap fun x => [Value.int .u32 x])) (hL : ∀ x, x ∈ L → 0 ≤ x ∧ x < 4294967296) (n mode task : Int) (f : Fr) (hf : FrOk2 f) (hn : I64 n) :
    Calls Try.prog 10 #[.slice A ln cp, .int .i64 n, .int .i64 mode, .int .i64 task, .agg (Fr.cells f)] w fun e w' => e = .returned (.bool true) ∧ Touch [] w w' := by
  have hr' : Rd w 1 A ln (u32s L) := by
    rw [← u32s_flatMap]
    exact hr
  by_cases hl : ln ≤ 1024
  · exact fqSteps_some w hr' ⟨by have := len_of_rd hr'; omega, hL⟩ n mode task f hn hf.1.1 hf.1.2 hf.2
  · exact fqSteps_long w n mode task f (by omega)

end Go.Proofs.Ytlndihdlodempaa.Z
