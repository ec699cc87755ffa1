/- 6 texts of this claim, joined: what each shows stands at its own head. -/
import Derived.Test.YtmbbcgkfankiaaaZMatch
import Derived.Test.YtmbbcgkfankiaaaZPlace
import Derived.Test.YtmbbcgkfankiaaaZMat
import Derived.Test.YtmbbcgkfankiaaaZFlat5
import Derived.Test.YtmbbcgkfankiaaaZM00WfTogether
import Derived.Test.YtmbbcgkfankiaaaZAlone
import Derived.Test.YtmbbcgkfankiaaaZMat2
/- Law 16: may, from, behind. Written by genmatch.py. -/
set_option linter.unusedVariables false
set_option linter.unusedSimpArgs false
namespace Go.Proofs.Ytmbbcgkfankiaaa.Z
open Go.RowKit

theorem wf_may (op hold : Int) (w : World) : Calls Try.prog 70 #[.int .i64 op, .int .i64 hold] w fun e w' => e = .returned (.bool (mayB op hold)) ∧ w = w' := by
  by_cases h0 : hold = 0
  · subst h0
    by_cases h1 : op = 1
    · subst h1
      go_enter Try.func70, Try.ntmps70
      go_wp2
      go_ret
      exact ⟨rfl, rfl⟩
    have e1 : (op == 1) = false := by simpa using h1
    by_cases h3 : op = 3
    · subst h3
      go_enter Try.func70, Try.ntmps70
      go_wp2
      go_ret
      exact ⟨rfl, rfl⟩
    have e3 : (op == 3) = false := by simpa using h3
    by_cases h5 : op = 5
    · subst h5
      go_enter Try.func70, Try.ntmps70
      go_wp2
      go_ret
      exact ⟨rfl, rfl⟩
    have e5 : (op == 5) = false := by simpa using h5
    by_cases h6 : op = 6
    · subst h6
      go_enter Try.func70, Try.ntmps70
      go_wp2
      go_ret
      exact ⟨rfl, rfl⟩
    have e6 : (op == 6) = false := by simpa using h6
    go_enter Try.func70, Try.ntmps70
    go_wp2
    go_ret
    exact ⟨by simp [mayB, e1, e3, e5, e6], rfl⟩
  by_cases k1 : hold = 1
  · subst k1
    by_cases h2 : op = 2
    · subst h2
      go_enter Try.func70, Try.ntmps70
      go_wp2
      go_ret
      exact ⟨rfl, rfl⟩
    have e2 : (op == 2) = false := by simpa using h2
    by_cases h7 : op = 7
    · subst h7
      go_enter Try.func70, Try.ntmps70
      go_wp2
      go_ret
      exact ⟨rfl, rfl⟩
    have e7 : (op == 7) = false := by simpa using h7
    go_enter Try.func70, Try.ntmps70
    go_wp2
    go_ret
    exact ⟨by simp [mayB, e2, e7], rfl⟩
  have f0 : (hold == 0) = false := by simpa using h0
  have f1 : (hold == 1) = false := by simpa using k1
  by_cases h4 : op = 4
  · subst h4
    go_enter Try.func70, Try.ntmps70
    go_wp2
    go_ret
    exact ⟨by simp [mayB, h0, k1], rfl⟩
  have e4 : (op == 4) = false := by simpa using h4
  by_cases h8 : op = 8
  · subst h8
    go_enter Try.func70, Try.ntmps70
    go_wp2
    go_ret
    exact ⟨by simp [mayB, h0, k1], rfl⟩
  have e8 : (op == 8) = false := by simpa using h8
  go_enter Try.func70, Try.ntmps70
  go_wp2
  go_ret
  exact ⟨by simp [mayB, h0, k1, e4, e8], rfl⟩
theorem wf_from (op hold : Int) (w : World) : Calls Try.prog 71 #[.int .i64 op, .int .i64 hold] w fun e w' => e = .returned (.int .i64 (fromA op hold)) ∧ w = w' := by
  by_cases h2 : op = 2
  · subst h2
    go_enter Try.func71, Try.ntmps71
    go_wp2
    go_ret
    exact ⟨by simp [fromA], rfl⟩
  have e2 : (op == 2) = false := by simpa using h2
  by_cases h4 : op = 4
  · subst h4
    go_enter Try.func71, Try.ntmps71
    go_wp2
    go_ret
    exact ⟨by simp [fromA], rfl⟩
  have e4 : (op == 4) = false := by simpa using h4
  by_cases h8 : op = 8
  · subst h8
    go_enter Try.func71, Try.ntmps71
    go_wp2
    go_ret
    exact ⟨by simp [fromA], rfl⟩
  have e8 : (op == 8) = false := by simpa using h8
  go_enter Try.func71, Try.ntmps71
  go_wp2
  go_ret
  exact ⟨by simp [fromA, h2, h4, h8], rfl⟩
theorem wf_behind (op ret hold : Int) (w : World) : Calls Try.prog 73 #[.int .i64 op, .int .i64 ret, .int .i64 hold] w fun e w' => e = .returned (.int .i64 (behindA op ret hold)) ∧ w = w' := by
  by_cases hr : ret = 2
  · subst hr
    by_cases h1 : op = 1
    · subst h1
      go_enter Try.func73, Try.ntmps73
      go_wp2
      go_ret
      exact ⟨by simp [behindA], rfl⟩
    have e1 : (op == 1) = false := by simpa using h1
    by_cases h5 : op = 5
    · subst h5
      go_enter Try.func73, Try.ntmps73
      go_wp2
      go_ret
      exact ⟨by simp [behindA], rfl⟩
    have e5 : (op == 5) = false := by simpa using h5
    by_cases h3 : op = 3
    · subst h3
      go_enter Try.func73, Try.ntmps73
      go_wp2
      go_ret
      exact ⟨by simp [behindA], rfl⟩
    have e3 : (op == 3) = false := by simpa using h3
    by_cases h6 : op = 6
    · subst h6
      go_enter Try.func73, Try.ntmps73
      go_wp2
      go_ret
      exact ⟨by simp [behindA], rfl⟩
    have e6 : (op == 6) = false := by simpa using h6
    by_cases h7 : op = 7
    · subst h7
      go_enter Try.func73, Try.ntmps73
      go_wp2
      go_ret
      exact ⟨by simp [behindA], rfl⟩
    have e7 : (op == 7) = false := by simpa using h7
    go_enter Try.func73, Try.ntmps73
    go_wp2
    go_ret
    exact ⟨by simp [behindA, h1, h5, h3, h6, h7], rfl⟩
  have er : (ret != 2) = true := by simpa using hr
  go_enter Try.func73, Try.ntmps73
  go_wp2
  go_ret
  exact ⟨by simp [behindA, hr], rfl⟩

end Go.Proofs.Ytmbbcgkfankiaaa.Z

/- Law 16: a pick. Written by genmat.py. -/
set_option linter.unusedVariables false
set_option linter.unusedSimpArgs false
namespace Go.Proofs.Ytmbbcgkfankiaaa.Z
open Go.RowKit

theorem getD_mem {α : Type} {l : List α} {i : Nat} {d : α} (h : i < l.length) : l.getD i d ∈ l := by
  simp [List.getD, h]
theorem set_getD {α : Type} {l : List α} {i : Nat} {d : α} (h : i < l.length) : l.set i (l.getD i d) = l := by
  simp [List.getD, h]
theorem i64s_set_at {l : List Int} {i : Nat} {v : Int} (h : i < l.length) : (i64s (l.set i v)).toArray[i]? = some (.int .i64 v) := by
  simp [i64s, h]
theorem i64s_set2 (l : List Int) (i : Nat) (v u : Int) : (i64s (l.set i v)).toArray.setIfInBounds i (.int .i64 u) = (i64s (l.set i u)).toArray := by
  simp [i64s, List.map_set]

set_option maxHeartbeats 3200000 in
set_option maxRecDepth 100000 in
theorem wf_play {S0 : List Nat} {w0 w : World} {m a x hb : Nat} {rs : List Res} {M : Mt} (H : MatchHas S0 w0 m a x hb rs M w) {i : Nat} (hi : i < M.fs.length) (op : Int) :
    Calls Try.prog 27 #[.pointer (some ⟨x, 0, none⟩), .int .i64 i, .int .i64 op] w fun e w' => e = .returned (.tuple #[]) ∧ MatchHas S0 w0 m a x hb rs (M.play wfA i op) w' := by
  obtain ⟨hf1, hf2, hf3, hf4⟩ := H.fit
  have hwd := H.words
  have hil : i < M.hold.length := by rw [hf1]; exact hi
  obtain ⟨r, b, off, cap, rest, s, e1, e2, e3, e4, e5, hO, hptr, hback⟩ := H.opened hi
  have HFOK : FrOk s.f := by rw [e1]; exact hf2 _ (getD_mem hi)
  have hO2 : Opn S0 w0 m a x hb r (.slice (some ⟨b, off, none⟩) M.fs.length cap) M.fs.length (M.hold.set i (M.hold.getD i 0)) rest s w := by rw [set_getD hil]; exact hO
  obtain ⟨p0, p1⟩ := hptr _ _ _ hO
  clear hptr hO
  have HH := Lib.hid H
  clear H
  generalize hk : M.fs.length = k at hi hO2 hf1 hf4 hback
  generalize hh : M.hold.getD i 0 = h0 at hO2
  obtain ⟨n, mode, task, ⟨o1, line, fa, fb, st, ⟨on, wc, wi, hit⟩, ret⟩, ⟨ak, ac, ax, ay, ao⟩, notes, L⟩ := s
  simp only at e1 e2 e3 e4 e5 HFOK
  subst e2 e3 e4 e5
  have hplay : M.play wfA i op = if o1 = 0 then if mayB op h0 = true then M.goes wfA i ⟨op, 0, 0, 0, 0, ⟨false, 0, 0, false⟩, 0⟩ (fromA op h0) else M else M.goes wfA i ⟨o1, line, fa, fb, st, ⟨on, wc, wi, hit⟩, ret⟩ h0 := by
    unfold Mt.play
    rw [← e1, hh]
    rfl
  have HPLAY := Lib.hid hplay
  have hi1 : (0 : Int) ≤ (i : Int) := Int.natCast_nonneg _
  have hi2 : (i : Int) < (k : Int) := by omega
  have HLEN := Lib.hid (show i < k ∧ i < M.hold.length ∧ I64 M.n ∧ Words M.L from ⟨hi, hil, hf3, hwd⟩)
  clear hplay e1 hh hk hf1 hf2 hf3 hf4 hwd hi hil
  have HBACK := Lib.hid hback
  clear hback
  by_cases ho : o1 = 0
  · subst ho
    obtain ⟨nv0, hO3⟩ := hO2
    simp only [rcells] at hO3
    obtain ⟨y0, y1, y2⟩ := hO3.blk1.own
    obtain ⟨z0, z1, z2⟩ := (hO3.at_ 3 rfl).own
    obtain ⟨u0, u1, u2⟩ := (hO3.at_ 4 rfl).own
    have v1 : w.cell? ⟨hb, i, none⟩ = some (.int .i64 h0) := (u1 i).trans (i64s_set_at HLEN.out.2.1)
    clear u1
    have HO := Lib.hid hO3
    clear hO3
    cases hm : mayB op h0 with
    | false =>
      have HM := Lib.hid hm
      clear hm
      go_enter Try.func27, Try.ntmps27
      go_wp2_with fail
      refine (wf_may _ _ _).mono ?_
      rintro e w1 ⟨rfl, rfl⟩
      rw [HM.out]
      go_wp2_with fail
      (try simp only [Exit.inBlock, Exit.then]); refine bodyPost_ret (results_none rfl _ _ _) rfl ?_
      refine ⟨rfl, ?_⟩
      rw [HPLAY.out, if_pos trivial, HM.out]
      exact HH.out
    | true =>
      have HM := Lib.hid hm
      clear hm
      go_enter Try.func27, Try.ntmps27
      go_wp2_with fail
      refine (wf_may _ _ _).mono ?_
      rintro e w1 ⟨rfl, rfl⟩
      rw [HM.out]
      go_wp2_with fail
      have d1 : w.drew.cell? ⟨x, 1, none⟩ = some (.slice (some ⟨hb, 0, none⟩) k k) := z1 1
      have d2 : w.drew.cell? ⟨hb, i, none⟩ = some (.int .i64 h0) := v1
      have d3 : w.cell? ⟨x, 1, none⟩ = some (.slice (some ⟨hb, 0, none⟩) k k) := z1 1
      refine region_flat_call 13 rfl (by kernel_rfl) (by kernel_rfl) ?_
      simp only [List.take_succ_cons, List.take_zero, List.drop_succ_cons, List.drop_zero, probed, probes, List.nil_append]
      go_wp2_with fail
      rw [only_normal]
      refine half_static (.int .i64 (fromA op h0)) rfl rfl (enters_of Try.func71 (by kernel_rfl) rfl) (by simp [Act.eval]) (wf_from _ _ _) ?_
      simp only [probed, probes, List.nil_append]
      go_wp2_with fail
      rw [only_normal]
      rename_i hK
      refine hK _ _ ?_
      clear hK
      have HO1 := (HO.out.set4 i (.int .i64 (fromA op h0))).drew
      rw [i64s_set2] at HO1
      refine wp_from (Facts := fun W => Has S0 w0 W (.mem m a M.L :: .blk r #[.pointer (some ⟨m, 0, none⟩), .int .i64 M.n, .int .i64 M.mode, .int .i64 i, .int .i64 0, .int .i64 line, .int .u32 fa, .int .u32 fb, .int .i64 st, .bool on, .int .i64 wc, .int .i64 wi, .bool hit, .int .i64 ret, .int .i64 ak, .int .i64 ac, .int .u32 ax, .int .u32 ay, .int .u32 ao, nv0] :: .own 115 4 nv0 notes.length (nts notes) :: .blk x #[.slice (some ⟨b, off, none⟩) k cap, .slice (some ⟨hb, 0, none⟩) k k] :: .blk hb (i64s (M.hold.set i (fromA op h0))).toArray :: rest)) ?_ HO1
      clear HO HO1 y0 y1 y2 z0 z1 z2 u0 u2 v1 d1 d2 d3 p0 p1
      intro W HW
      obtain ⟨y0, y1, y2⟩ := HW.blk1.own
      rename_i hK2 K0
      have HK2 := Lib.hid hK2
      clear hK2
      go_wp2_with fail
      refine HK2.out _ _ ?_
      clear HK2
      refine wp_from (Facts := fun W => Opn S0 w0 m a x hb r (.slice (some ⟨b, off, none⟩) k cap) k (M.hold.set i (fromA op h0)) rest ⟨M.n, M.mode, i, ⟨op, 0, 0, 0, 0, ⟨false, 0, 0, false⟩, 0⟩, ⟨ak, ac, ax, ay, ao⟩, notes, M.L⟩ W) ?_ ?_
      rotate_left
      · refine ⟨nv0, ?_⟩
        have H2 := ((((((((((HW.set1 4 (.int .i64 op)).set1 5 (.int .i64 0)).set1 6 (.int .u32 0)).set1 7 (.int .u32 0)).set1 8 (.int .i64 0)).set1 9 (.bool false)).set1 10 (.int .i64 0)).set1 11 (.int .i64 0)).set1 12 (.bool false)).set1 13 (.int .i64 0))
        simp only [List.setIfInBounds_toArray, List.set_cons_zero, List.set_cons_succ] at H2
        exact H2
      clear HW y0 y1 y2
      rename_i W0
      clear W0
      intro W HT
      have hstk := fun W rs (HX : Has S0 w0 W (.mem m a M.L :: rs)) nv => run_stuck (s := ⟨M.n, M.mode, i, ⟨op, 0, 0, 0, 0, ⟨false, 0, 0, false⟩, 0⟩, ⟨ak, ac, ax, ay, ao⟩, notes, M.L⟩) HX HLEN.out.2.2.1 nv
      have hok1 : FrOk ⟨op, 0, 0, 0, 0, ⟨false, 0, 0, false⟩, 0⟩ := ⟨by simp, by simp⟩
      have hstep := fun W rs (HX : RunHas S0 w0 m a r rs ⟨M.n, M.mode, i, ⟨op, 0, 0, 0, 0, ⟨false, 0, 0, false⟩, 0⟩, ⟨ak, ac, ax, ay, ao⟩, notes, M.L⟩ W) => wf_stepR HX ⟨HLEN.out.2.2.1, hok1⟩
      have hsok := (wf_stepok (s := ⟨M.n, M.mode, i, ⟨op, 0, 0, 0, 0, ⟨false, 0, 0, false⟩, 0⟩, ⟨ak, ac, ax, ay, ao⟩, notes, M.L⟩) HLEN.out.2.2.2 ⟨HLEN.out.2.2.1, hok1⟩).1
      have hsame := wf_step_same ⟨M.n, M.mode, i, ⟨op, 0, 0, 0, 0, ⟨false, 0, 0, false⟩, 0⟩, ⟨ak, ac, ax, ay, ao⟩, notes, M.L⟩
      generalize hS2 : stepR wfA ⟨M.n, M.mode, i, ⟨op, 0, 0, 0, 0, ⟨false, 0, 0, false⟩, 0⟩, ⟨ak, ac, ax, ay, ao⟩, notes, M.L⟩ = s2 at hstep hsok hsame
      have hgoes := goes_of (h := (fromA op h0)) (step_run wfA M i ⟨op, 0, 0, 0, 0, ⟨false, 0, 0, false⟩, 0⟩ ⟨ak, ac, ax, ay, ao⟩ notes hS2)
      clear hS2
      simp only at hgoes
      simp only [rcells] at hstk
      generalize hsb : (!false && stuckA M.L M.n M.mode i 0) = sb at hstk hgoes
      clear hsb hok1
      have HSTK := Lib.hid hstk
      have HSTEP := Lib.hid hstep
      have HGOES := Lib.hid hgoes
      have HSOK := Lib.hid hsok
      have HSAME := Lib.hid hsame
      clear hstk hstep hgoes hsok hsame
      obtain ⟨nv, HT⟩ := HT
      simp only [rcells] at HT
      obtain ⟨y0, y1, y2⟩ := HT.blk1.own
      have hld := rangeAt_list y1
      go_wp2_with (refine wpList_load_mid rfl 52 (.tmp 51) rfl r 0 rfl _ _ hld Try.underlying52 rfl (by kernel_rfl) ?_)
      refine (HSTK.out _ _ HT nv).mono ?_
      rintro e w2 ⟨rfl, HT2⟩
      clear y0 y1 y2 HT hld
      cases sb with
      | true =>
        go_wp2_with fail
        (try simp only [Exit.inBlock, Exit.then]); refine bodyPost_ret (results_none rfl _ _ _) rfl ?_
        refine ⟨rfl, ?_⟩
        rw [HPLAY.out, if_pos trivial, if_pos HM.out, HGOES.out, if_pos trivial]
        exact HBACK.out _ ⟨M.n, M.mode, i, ⟨op, 0, 0, 0, 0, ⟨false, 0, 0, false⟩, 0⟩, ⟨ak, ac, ax, ay, ao⟩, notes, M.L⟩ _ ⟨nv, HT2⟩ ⟨by simp, by simp⟩ rfl rfl rfl
      | false =>
        go_wp2_with fail
        refine (HSTEP.out _ _ ⟨nv, HT2⟩).mono ?_
        rintro e w3 ⟨rfl, HT3⟩
        clear HT2
        obtain ⟨n', mode', task', ⟨o2, line', fa', fb', st', ⟨on', wc', wi', hit'⟩, ret2⟩, ⟨ak', ac', ax', ay', ao'⟩, notes', L'⟩ := s2
        have hsm := HSAME.out
        simp only at hsm
        obtain ⟨q1, q2, q3⟩ := hsm
        subst q1 q2 q3
        have hg2 := HGOES.out
        rw [if_neg (by decide)] at hg2
        have HG2 := Lib.hid hg2
        clear hg2 HSTK HSTEP HGOES HSAME
        cases hov : (⟨M.n, M.mode, i, ⟨o2, line', fa', fb', st', ⟨on', wc', wi', hit'⟩, ret2⟩, ⟨ak', ac', ax', ay', ao'⟩, notes', L'⟩ : Rn).over with
        | false =>
          have HOV := Lib.hid hov
          clear hov
          go_wp2_with fail
          go_end0
          refine ⟨rfl, ?_⟩
          rw [HPLAY.out, if_pos trivial, if_pos HM.out, HG2.out, if_neg (by rw [HOV.out]; decide)]
          exact HBACK.out _ ⟨M.n, M.mode, i, ⟨o2, line', fa', fb', st', ⟨on', wc', wi', hit'⟩, ret2⟩, ⟨ak', ac', ax', ay', ao'⟩, notes', L'⟩ _ HT3 ⟨HSOK.out.2.1, HSOK.out.2.2⟩ rfl rfl rfl
        | true =>
          have HOV := Lib.hid hov
          clear hov
          obtain ⟨nv3, HT3⟩ := HT3
          simp only [rcells] at HT3
          obtain ⟨y0, y1, y2⟩ := HT3.blk1.own
          obtain ⟨z0, z1, z2⟩ := (HT3.at_ 3 rfl).own
          obtain ⟨u0, u1, u2⟩ := (HT3.at_ 4 rfl).own
          have v1 : w3.cell? ⟨hb, i, none⟩ = some (.int .i64 (fromA op h0)) := (u1 i).trans (i64s_set_at HLEN.out.2.1)
          clear u1
          go_wp2_with fail
          refine region_flat_call 22 rfl (by kernel_rfl) (by kernel_rfl) ?_
          simp only [List.take_succ_cons, List.take_zero, List.drop_succ_cons, List.drop_zero, probed, probes, List.nil_append]
          go_wp2_with fail
          rw [only_normal]
          refine half_static (.int .i64 (behindA o2 ret2 (fromA op h0))) rfl rfl (enters_of Try.func73 (by kernel_rfl) rfl) (by simp [Act.eval]) (wf_behind _ _ _ _) ?_
          simp only [probed, probes, List.nil_append]
          go_wp2_with fail
          rw [only_normal]
          rename_i hK
          refine hK _ _ ?_
          clear hK
          have HO1 := (HT3.set4 i (.int .i64 (behindA o2 ret2 (fromA op h0)))).drew
          rw [i64s_set2] at HO1
          refine wp_from (Facts := fun W => Has S0 w0 W (.mem m a L' :: .blk r #[.pointer (some ⟨m, 0, none⟩), .int .i64 M.n, .int .i64 M.mode, .int .i64 i, .int .i64 o2, .int .i64 line', .int .u32 fa', .int .u32 fb', .int .i64 st', .bool on', .int .i64 wc', .int .i64 wi', .bool hit', .int .i64 ret2, .int .i64 ak', .int .i64 ac', .int .u32 ax', .int .u32 ay', .int .u32 ao', nv3] :: .own 115 4 nv3 notes'.length (nts notes') :: .blk x #[.slice (some ⟨b, off, none⟩) k cap, .slice (some ⟨hb, 0, none⟩) k k] :: .blk hb (i64s (M.hold.set i (behindA o2 ret2 (fromA op h0)))).toArray :: rest)) ?_ HO1
          clear HT3 HO1 y0 y1 y2 z0 z1 z2 u0 u2 v1
          intro W2 HW
          obtain ⟨y0, y1, y2⟩ := HW.blk1.own
          go_wp2_with fail
          go_end0
          refine ⟨rfl, ?_⟩
          rw [HPLAY.out, if_pos trivial, if_pos HM.out, HG2.out, if_pos HOV.out]
          refine HBACK.out _ ⟨M.n, M.mode, i, ⟨0, 0, 0, 0, 0, ⟨false, 0, 0, false⟩, 0⟩, ⟨ak', ac', ax', ay', ao'⟩, notes', L'⟩ _ ⟨nv3, ?_⟩ ⟨by simp, by simp⟩ rfl rfl rfl
          have H2 := ((((((((((HW.set1 4 (.int .i64 0)).set1 5 (.int .i64 0)).set1 6 (.int .u32 0)).set1 7 (.int .u32 0)).set1 8 (.int .i64 0)).set1 9 (.bool false)).set1 10 (.int .i64 0)).set1 11 (.int .i64 0)).set1 12 (.bool false)).set1 13 (.int .i64 0))
          simp only [List.setIfInBounds_toArray, List.set_cons_zero, List.set_cons_succ] at H2
          exact H2
  · obtain ⟨nv0, hO3⟩ := hO2
    simp only [rcells] at hO3
    obtain ⟨y0, y1, y2⟩ := hO3.blk1.own
    obtain ⟨z0, z1, z2⟩ := (hO3.at_ 3 rfl).own
    have HO := Lib.hid hO3
    have ho1 : (o1 == 0) = false := by simpa using ho
    have HNO := Lib.hid ho
    clear hO3 ho
    go_enter Try.func27, Try.ntmps27
    refine wp_from (Facts := fun W => W = w) ?_ rfl
    rintro W rfl
    have HT : Opn S0 w0 m a x hb r (.slice (some ⟨b, off, none⟩) k cap) k (M.hold.set i h0) rest ⟨M.n, M.mode, i, ⟨o1, line, fa, fb, st, ⟨on, wc, wi, hit⟩, ret⟩, ⟨ak, ac, ax, ay, ao⟩, notes, M.L⟩ W := ⟨nv0, HO.out⟩
    clear y0 y1 y2
    have hstk := fun W rs (HX : Has S0 w0 W (.mem m a M.L :: rs)) nv => run_stuck (s := ⟨M.n, M.mode, i, ⟨o1, line, fa, fb, st, ⟨on, wc, wi, hit⟩, ret⟩, ⟨ak, ac, ax, ay, ao⟩, notes, M.L⟩) HX HLEN.out.2.2.1 nv
    have hok1 : FrOk ⟨o1, line, fa, fb, st, ⟨on, wc, wi, hit⟩, ret⟩ := HFOK
    have hstep := fun W rs (HX : RunHas S0 w0 m a r rs ⟨M.n, M.mode, i, ⟨o1, line, fa, fb, st, ⟨on, wc, wi, hit⟩, ret⟩, ⟨ak, ac, ax, ay, ao⟩, notes, M.L⟩ W) => wf_stepR HX ⟨HLEN.out.2.2.1, hok1⟩
    have hsok := (wf_stepok (s := ⟨M.n, M.mode, i, ⟨o1, line, fa, fb, st, ⟨on, wc, wi, hit⟩, ret⟩, ⟨ak, ac, ax, ay, ao⟩, notes, M.L⟩) HLEN.out.2.2.2 ⟨HLEN.out.2.2.1, hok1⟩).1
    have hsame := wf_step_same ⟨M.n, M.mode, i, ⟨o1, line, fa, fb, st, ⟨on, wc, wi, hit⟩, ret⟩, ⟨ak, ac, ax, ay, ao⟩, notes, M.L⟩
    generalize hS2 : stepR wfA ⟨M.n, M.mode, i, ⟨o1, line, fa, fb, st, ⟨on, wc, wi, hit⟩, ret⟩, ⟨ak, ac, ax, ay, ao⟩, notes, M.L⟩ = s2 at hstep hsok hsame
    have hgoes := goes_of (h := h0) (step_run wfA M i ⟨o1, line, fa, fb, st, ⟨on, wc, wi, hit⟩, ret⟩ ⟨ak, ac, ax, ay, ao⟩ notes hS2)
    clear hS2
    simp only at hgoes
    simp only [rcells] at hstk
    generalize hsb : (!on && stuckA M.L M.n M.mode i st) = sb at hstk hgoes
    clear hsb hok1
    have HSTK := Lib.hid hstk
    have HSTEP := Lib.hid hstep
    have HGOES := Lib.hid hgoes
    have HSOK := Lib.hid hsok
    have HSAME := Lib.hid hsame
    clear hstk hstep hgoes hsok hsame
    obtain ⟨nv, HT⟩ := HT
    simp only [rcells] at HT
    obtain ⟨y0, y1, y2⟩ := HT.blk1.own
    have hld := rangeAt_list y1
    go_wp2_with (refine wpList_load_mid rfl 52 (.tmp 51) rfl r 0 rfl _ _ hld Try.underlying52 rfl (by kernel_rfl) ?_)
    refine (HSTK.out _ _ HT nv).mono ?_
    rintro e w2 ⟨rfl, HT2⟩
    clear y0 y1 y2 HT hld
    cases sb with
    | true =>
      go_wp2_with fail
      (try simp only [Exit.inBlock, Exit.then]); refine bodyPost_ret (results_none rfl _ _ _) rfl ?_
      refine ⟨rfl, ?_⟩
      rw [HPLAY.out, if_neg HNO.out, HGOES.out, if_pos trivial]
      exact HBACK.out _ ⟨M.n, M.mode, i, ⟨o1, line, fa, fb, st, ⟨on, wc, wi, hit⟩, ret⟩, ⟨ak, ac, ax, ay, ao⟩, notes, M.L⟩ _ ⟨nv, HT2⟩ HFOK rfl rfl rfl
    | false =>
      go_wp2_with fail
      refine (HSTEP.out _ _ ⟨nv, HT2⟩).mono ?_
      rintro e w3 ⟨rfl, HT3⟩
      clear HT2
      obtain ⟨n', mode', task', ⟨o2, line', fa', fb', st', ⟨on', wc', wi', hit'⟩, ret2⟩, ⟨ak', ac', ax', ay', ao'⟩, notes', L'⟩ := s2
      have hsm := HSAME.out
      simp only at hsm
      obtain ⟨q1, q2, q3⟩ := hsm
      subst q1 q2 q3
      have hg2 := HGOES.out
      rw [if_neg (by decide)] at hg2
      have HG2 := Lib.hid hg2
      clear hg2 HSTK HSTEP HGOES HSAME
      cases hov : (⟨M.n, M.mode, i, ⟨o2, line', fa', fb', st', ⟨on', wc', wi', hit'⟩, ret2⟩, ⟨ak', ac', ax', ay', ao'⟩, notes', L'⟩ : Rn).over with
      | false =>
        have HOV := Lib.hid hov
        clear hov
        go_wp2_with fail
        go_end0
        refine ⟨rfl, ?_⟩
        rw [HPLAY.out, if_neg HNO.out, HG2.out, if_neg (by rw [HOV.out]; decide)]
        exact HBACK.out _ ⟨M.n, M.mode, i, ⟨o2, line', fa', fb', st', ⟨on', wc', wi', hit'⟩, ret2⟩, ⟨ak', ac', ax', ay', ao'⟩, notes', L'⟩ _ HT3 ⟨HSOK.out.2.1, HSOK.out.2.2⟩ rfl rfl rfl
      | true =>
        have HOV := Lib.hid hov
        clear hov
        obtain ⟨nv3, HT3⟩ := HT3
        simp only [rcells] at HT3
        obtain ⟨y0, y1, y2⟩ := HT3.blk1.own
        obtain ⟨z0, z1, z2⟩ := (HT3.at_ 3 rfl).own
        obtain ⟨u0, u1, u2⟩ := (HT3.at_ 4 rfl).own
        have v1 : w3.cell? ⟨hb, i, none⟩ = some (.int .i64 h0) := (u1 i).trans (i64s_set_at HLEN.out.2.1)
        clear u1
        go_wp2_with fail
        refine region_flat_call 22 rfl (by kernel_rfl) (by kernel_rfl) ?_
        simp only [List.take_succ_cons, List.take_zero, List.drop_succ_cons, List.drop_zero, probed, probes, List.nil_append]
        go_wp2_with fail
        rw [only_normal]
        refine half_static (.int .i64 (behindA o2 ret2 h0)) rfl rfl (enters_of Try.func73 (by kernel_rfl) rfl) (by simp [Act.eval]) (wf_behind _ _ _ _) ?_
        simp only [probed, probes, List.nil_append]
        go_wp2_with fail
        rw [only_normal]
        rename_i hK
        refine hK _ _ ?_
        clear hK
        have HO1 := (HT3.set4 i (.int .i64 (behindA o2 ret2 h0))).drew
        rw [i64s_set2] at HO1
        refine wp_from (Facts := fun W => Has S0 w0 W (.mem m a L' :: .blk r #[.pointer (some ⟨m, 0, none⟩), .int .i64 M.n, .int .i64 M.mode, .int .i64 i, .int .i64 o2, .int .i64 line', .int .u32 fa', .int .u32 fb', .int .i64 st', .bool on', .int .i64 wc', .int .i64 wi', .bool hit', .int .i64 ret2, .int .i64 ak', .int .i64 ac', .int .u32 ax', .int .u32 ay', .int .u32 ao', nv3] :: .own 115 4 nv3 notes'.length (nts notes') :: .blk x #[.slice (some ⟨b, off, none⟩) k cap, .slice (some ⟨hb, 0, none⟩) k k] :: .blk hb (i64s (M.hold.set i (behindA o2 ret2 h0))).toArray :: rest)) ?_ HO1
        clear HT3 HO1 y0 y1 y2 z0 z1 z2 u0 u2 v1
        intro W2 HW
        obtain ⟨y0, y1, y2⟩ := HW.blk1.own
        go_wp2_with fail
        go_end0
        refine ⟨rfl, ?_⟩
        rw [HPLAY.out, if_neg HNO.out, HG2.out, if_pos HOV.out]
        refine HBACK.out _ ⟨M.n, M.mode, i, ⟨0, 0, 0, 0, 0, ⟨false, 0, 0, false⟩, 0⟩, ⟨ak', ac', ax', ay', ao'⟩, notes', L'⟩ _ ⟨nv3, ?_⟩ ⟨by simp, by simp⟩ rfl rfl rfl
        have H2 := ((((((((((HW.set1 4 (.int .i64 0)).set1 5 (.int .i64 0)).set1 6 (.int .u32 0)).set1 7 (.int .u32 0)).set1 8 (.int .i64 0)).set1 9 (.bool false)).set1 10 (.int .i64 0)).set1 11 (.int .i64 0)).set1 12 (.bool false)).set1 13 (.int .i64 0))
        simp only [List.setIfInBounds_toArray, List.set_cons_zero, List.set_cons_succ] at H2
        exact H2

end Go.Proofs.Ytmbbcgkfankiaaa.Z

/- Law 16: the statement WfTogether: its walk. Written by genmat.py. -/
set_option linter.unusedVariables false
set_option linter.unusedSimpArgs false
namespace Go.Proofs.Ytmbbcgkfankiaaa.Z
open Go.RowKit

set_option maxHeartbeats 1600000 in
set_option maxRecDepth 100000 in
theorem wf_whole {S0 : List Nat} {w0 w : World} {m a x hb bx : Nat} {rs : List Res} {M : Mt} (H : MatchHas S0 w0 m a x hb (.blk bx #[.pointer (some ⟨x, 0, none⟩)] :: rs) M w) {i : Nat} (hi : i < M.fs.length) (op : Int) :
    Calls Try.prog 29 #[.int .i64 i, .int .i64 op, .pointer (some ⟨bx, 0, none⟩)] w fun e w' => e = .returned (.tuple #[]) ∧ MatchHas S0 w0 m a x hb (.blk bx #[.pointer (some ⟨x, 0, none⟩)] :: rs) (wholeA wfA M i op) w' := by
  have hB := H.behind 0 rfl
  obtain ⟨b0, b1, b2⟩ := hB.own
  generalize hR : wholeA wfA M i op = R
  have HR := Lib.hid hR
  have HH := Lib.hid H
  clear H hB hR
  go_enter Try.func29, Try.ntmps29
  go_wp2_with fail
  refine (wf_play HH.out hi op).mono ?_
  rintro e w1 ⟨rfl, H1⟩
  clear b0 b1 b2
  have HV := Lib.hid H1
  clear H1
  go_wp2_with fail
  go_loopw [5] (fun c wr => ∃ (j : Nat) (M' : Mt), j ≤ 200 ∧ c = .int .i64 j ∧ MatchHas S0 w0 m a x hb (.blk bx #[.pointer (some ⟨x, 0, none⟩)] :: rs) M' wr ∧ i < M'.fs.length ∧ whileA wfA i (200 - j) M' = R) (fun c _ => 200 - (intOf c).toNat)
  case atStart => exact ⟨0, _, by omega, rfl, HV.out, by rw [(play_same _ _ _ _).2.2.1]; exact hi, HR.out⟩
  case round =>
    obtain ⟨j, M', hj, rfl, hH, hi', hw⟩ := hrel
    clear HV HH HR
    have hi1 : (0 : Int) ≤ (j : Int) := Int.natCast_nonneg _
    by_cases hj2 : j < 200
    · obtain ⟨q, hq⟩ : ∃ q, 200 - j = q + 1 := ⟨200 - j - 1, by omega⟩
      rw [hq] at hw
      unfold whileA at hw
      have hB := hH.behind 0 rfl
      obtain ⟨b0, b1, b2⟩ := hB.own
      obtain ⟨r, b, off, cap, z0, z1, z2, z3, z4, z5⟩ := hH.look hi'
      have hi2 : (j : Int) < 200 := by omega
      have hi3 : (0 : Int) ≤ (i : Int) := Int.natCast_nonneg _
      have hi4 : (i : Int) < (M'.fs.length : Int) := by omega
      have HI := Lib.hid hi'
      have HH := Lib.hid hH
      generalize hk : M'.fs.length = k at z1 hi4
      clear hi' hH hB hk
      by_cases ho : (M'.fs.getD i Fr.zero).op = 0
      · rw [if_pos ho] at hw
        rw [ho] at z5
        have HW := Lib.hid hw
        clear hw ho
        go_wp2_with fail
        go_end0
        exact ⟨rfl, by rw [← HW.out]; exact HH.out⟩
      · rw [if_neg ho] at hw
        have hne : ((M'.fs.getD i Fr.zero).op != 0) = true := by simpa using ho
        generalize (M'.fs.getD i Fr.zero).op = oo at z5 hne
        have HW := Lib.hid hw
        clear hw ho
        go_wp2_with fail
        refine (wf_play HH.out HI.out 0).mono ?_
        rintro e w2 ⟨rfl, H2⟩
        go_wp2
        go_roundw
        case rel => exact ⟨j + 1, _, by omega, by go_num, H2, by rw [(play_same _ _ _ _).2.2.1]; exact HI.out, by rw [show 200 - (j + 1) = q from by omega]; exact HW.out⟩
        case measure => simp [intOf]; omega
    · have hj3 : j = 200 := by omega
      subst hj3
      rw [Nat.sub_self] at hw
      have hw2 : M' = R := hw
      subst hw2
      have HH := Lib.hid hH
      clear hH hw hi'
      have hi2 : ¬ (((200 : Nat) : Int) < 200) := by decide
      go_wp2_with fail
      go_end0
      exact ⟨rfl, HH.out⟩

set_option maxHeartbeats 3200000 in
set_option maxRecDepth 100000 in
theorem wf_together_walk (n mode base : Int) (try_ : Bool) (w : World) (hb : 0 ≤ base ∧ base < 4294967296) (hn : 0 ≤ n ∧ n < 256) (hm : 0 ≤ mode ∧ mode < 256) (op : Int) (hop : op = if try_ then 5 else 1)
    (hT : ∀ k : Nat, (k : Int) = 2 + n % 15 → TogetherOk wfA k op (Mt.start k (1 + mode % 2) (own6 base ++ List.replicate ((8 + 4 * (k : Int)).toNat - 1) 0))) :
    Calls Try.prog 7 #[.int .u8 n, .int .u8 mode, .int .u32 base, .bool try_] w fun e w' => e = .returned (.bool true) ∧ Touch [] w w' := by
  obtain ⟨q, hk⟩ : ∃ q : Nat, 2 + n % 15 = (q : Int) + 1 := ⟨(1 + n % 15).toNat, by omega⟩
  obtain ⟨d, hd⟩ : ∃ d : Int, 1 + mode % 2 = d := ⟨_, rfl⟩
  have hT := hT (q + 1) (by omega)
  have hbg := fun W rs (HX : Has [] w W rs) => wf_begun HX (q + 1) (by omega) (by omega) d base hb
  rw [hd] at hT
  generalize own6 base ++ List.replicate ((8 + 4 * ((q + 1 : Nat) : Int)).toNat - 1) 0 = Z at hT hbg
  rw [show ((q + 1 : Nat) : Int) = (q : Int) + 1 from by omega] at hbg
  have hk1 : 1 ≤ q := by omega
  have hk2 : q ≤ 15 := by omega
  have HT := Lib.hid hT
  have HBG := Lib.hid hbg
  have HK := Lib.hid hk
  have HD := Lib.hid hd
  have hq1 : (1 : Int) ≤ (q : Int) := by omega
  have hq2 : (q : Int) ≤ 15 := by omega
  clear hT hbg hk hd
  cases try_ with
  | false =>
    subst hop
    simp only [Bool.false_eq_true, if_false] at HT
    go_enter Try.func7, Try.ntmps7
    go_wp2_with fail
    rw [HK.out, HD.out]
    refine (HBG.out _ _ (Has.start [] _)).mono ?_
    rintro e1 w1 ⟨x, m, a, hbk, p, g, cap, rfl, H1⟩
    go_wp2_with fail
    have H2 := H1.box rfl #[.pointer (some ⟨x, 0, none⟩)] 65
    refine wp_from (Facts := fun W => MatchHas [] w m a x hbk (.blk w1.heap.size #[.pointer (some ⟨x, 0, none⟩)] :: .row p g cap Z :: []) (readsA wfA 1 (Mt.start (q + 1) d Z) 0) W) ?_ H2
    clear H1 H2
    intro W HW
    generalize w1.heap.size = bx at HW ⊢
    have HV := Lib.hid HW
    clear HW
    go_loopw [13] (fun c wr => ∃ j : Nat, j ≤ q ∧ c = .int .i64 j ∧ MatchHas [] w m a x hbk (.blk bx #[.pointer (some ⟨x, 0, none⟩)] :: .row p g cap Z :: []) (readsA wfA 1 (Mt.start (q + 1) d Z) j) wr) (fun c _ => q - (intOf c).toNat)
    case atStart => exact ⟨0, Nat.zero_le _, rfl, HV.out⟩
    case round =>
      obtain ⟨j, hj, rfl, hR⟩ := hrel
      clear HV
      have hi1 : (0 : Int) ≤ (j : Int) := Int.natCast_nonneg _
      have hlen := (reads_len wfA 1 (Mt.start (q + 1) d Z) j).trans (show (Mt.start (q + 1) d Z).fs.length = q + 1 by simp [Mt.start])
      by_cases hjq : j < q
      · have hi2 : (j : Int) < (q : Int) := by omega
        have hrd : (((wholeA wfA (readsA wfA 1 (Mt.start (q + 1) d Z) j) j 1).many 1 : Nat) : Int) = (j : Int) + 1 := by
          have := HT.out.reads j (by omega)
          unfold readsA at this
          omega
        obtain ⟨b0, b1, b2⟩ := (hR.behind 0 rfl).own
        have HRD := Lib.hid hrd
        have HR := Lib.hid hR
        have HLEN := Lib.hid hlen
        clear hrd hR hlen
        go_wp2_with fail
        refine (wf_whole HR.out (by rw [HLEN.out]; omega) 1).mono ?_
        rintro e2 w2 ⟨rfl, H2⟩
        clear b0 b1 b2
        obtain ⟨b0, b1, b2⟩ := (H2.behind 0 rfl).own
        have HR2 := Lib.hid H2
        clear H2
        go_wp2_with fail
        refine (wf_many HR2.out 1).mono ?_
        rintro e3 w3 ⟨rfl, rfl⟩
        rw [HRD.out]
        go_wp2
        go_roundw
        case rel => exact ⟨j + 1, by omega, by go_num, HR2.out⟩
        case measure => simp [intOf]; omega
      · have hjq2 : j = q := by omega
        subst hjq2
        have HR := Lib.hid hR
        clear hR hlen
        have hi2 : (j : Int) ≤ (j : Int) := Int.le_refl _
        go_wp2_with fail
        have HV := HR
        clear HR
        go_loopw [14] (fun c wr => ∃ i : Nat, i ≤ j ∧ c = .int .i64 i ∧ MatchHas [] w m a x hbk (.blk bx #[.pointer (some ⟨x, 0, none⟩)] :: .row p g cap Z :: []) (givesA wfA (j + 1) (readsA wfA 1 (Mt.start (j + 1) d Z) j) i) wr) (fun c _ => j - (intOf c).toNat)
        case atStart => exact ⟨0, Nat.zero_le _, rfl, HV.out⟩
        case round =>
          obtain ⟨i, hi, rfl, hR⟩ := hrel
          clear HV
          have hi1 : (0 : Int) ≤ (i : Int) := Int.natCast_nonneg _
          have hlen := (gives_len wfA (j + 1) (readsA wfA 1 (Mt.start (j + 1) d Z) j) i).trans ((reads_len wfA 1 (Mt.start (j + 1) d Z) j).trans (show (Mt.start (j + 1) d Z).fs.length = j + 1 by simp [Mt.start]))
          by_cases hij : i < j
          · have hi2 : (i : Int) < (j : Int) := by omega
            have htr := HT.out.tried i (by omega)
            obtain ⟨b0, b1, b2⟩ := (hR.behind 0 rfl).own
            have HTR := Lib.hid htr
            have HR := Lib.hid hR
            have HLEN := Lib.hid hlen
            clear htr hR hlen
            go_wp2_with fail
            refine (wf_whole HR.out (by rw [HLEN.out]; omega) 6).mono ?_
            rintro e2 w2 ⟨rfl, H2⟩
            clear b0 b1 b2
            obtain ⟨b0, b1, b2⟩ := (H2.behind 0 rfl).own
            obtain ⟨x0, x1, x2, x3⟩ := H2.held
            rw [whole_len, HLEN.out] at x1 x3
            have hh := x3 j (by omega)
            have e4 : (wholeA wfA (givesA wfA (j + 1) (readsA wfA 1 (Mt.start (j + 1) d Z) j) i) j 6).hold.getD j 0 = 0 := HTR.out
            rw [e4] at hh
            have HR2 := Lib.hid H2
            have hjk : (j : Int) < ((j + 1 : Nat) : Int) := by omega
            generalize j + 1 = kk at x1 hjk
            clear H2 x3 e4
            go_wp2_with fail
            clear x0 x1 x2 hh b0 b1 b2 hjk
            refine (wf_whole HR2.out (by rw [whole_len, HLEN.out]; omega) 2).mono ?_
            rintro e3 w3 ⟨rfl, H3⟩
            go_wp2
            go_roundw
            case rel => exact ⟨i + 1, by omega, by go_num, H3⟩
            case measure => simp [intOf]; omega
          · have hij2 : i = j := by omega
            subst hij2
            have hl := HT.out.last
            obtain ⟨b0, b1, b2⟩ := (hR.behind 0 rfl).own
            have HLA := Lib.hid hl
            have HR := Lib.hid hR
            have HLEN := Lib.hid hlen
            clear hl hR hlen
            have hi2 : (i : Int) ≤ (i : Int) := Int.le_refl _
            go_wp2_with fail
            refine (wf_whole HR.out (by rw [HLEN.out]; omega) 6).mono ?_
            rintro e2 w2 ⟨rfl, H2⟩
            clear b0 b1 b2
            obtain ⟨b0, b1, b2⟩ := (H2.behind 0 rfl).own
            obtain ⟨x0, x1, x2, x3⟩ := H2.held
            rw [whole_len, HLEN.out] at x1 x3
            have hh := x3 i (by omega)
            have e4 : (wholeA wfA (givesA wfA (i + 1) (readsA wfA 1 (Mt.start (i + 1) d Z) i) i) i 6).hold.getD i 0 = 2 := HLA.out.1
            have e5 : (((wholeA wfA (givesA wfA (i + 1) (readsA wfA 1 (Mt.start (i + 1) d Z) i) i) i 6).many 1 : Nat) : Int) = 0 := by have := HLA.out.2; simp only [Nat.add_sub_cancel] at this; omega
            rw [e4] at hh
            have HE5 := Lib.hid e5
            have HR2 := Lib.hid H2
            have hjk : (i : Int) < ((i + 1 : Nat) : Int) := by omega
            generalize i + 1 = kk at x1 hjk
            clear H2 x3 e4 e5
            go_wp2_with fail
            refine (wf_many HR2.out 1).mono ?_
            rintro e3 w3 ⟨rfl, rfl⟩
            rw [HE5.out]
            go_wp2_with fail
            refine (wf_awake _).mono ?_
            rintro e4 w4 ⟨rfl, t4⟩
            go_wp2
            go_ret
            exact ⟨rfl, (HR2.out.grow t4).touch⟩
  | true =>
    subst hop
    simp only [if_true] at HT
    go_enter Try.func7, Try.ntmps7
    go_wp2_with fail
    rw [HK.out, HD.out]
    refine (HBG.out _ _ (Has.start [] _)).mono ?_
    rintro e1 w1 ⟨x, m, a, hbk, p, g, cap, rfl, H1⟩
    go_wp2_with fail
    have H2 := H1.box rfl #[.pointer (some ⟨x, 0, none⟩)] 65
    refine wp_from (Facts := fun W => MatchHas [] w m a x hbk (.blk w1.heap.size #[.pointer (some ⟨x, 0, none⟩)] :: .row p g cap Z :: []) (readsA wfA 5 (Mt.start (q + 1) d Z) 0) W) ?_ H2
    clear H1 H2
    intro W HW
    generalize w1.heap.size = bx at HW ⊢
    have HV := Lib.hid HW
    clear HW
    go_loopw [13] (fun c wr => ∃ j : Nat, j ≤ q ∧ c = .int .i64 j ∧ MatchHas [] w m a x hbk (.blk bx #[.pointer (some ⟨x, 0, none⟩)] :: .row p g cap Z :: []) (readsA wfA 5 (Mt.start (q + 1) d Z) j) wr) (fun c _ => q - (intOf c).toNat)
    case atStart => exact ⟨0, Nat.zero_le _, rfl, HV.out⟩
    case round =>
      obtain ⟨j, hj, rfl, hR⟩ := hrel
      clear HV
      have hi1 : (0 : Int) ≤ (j : Int) := Int.natCast_nonneg _
      have hlen := (reads_len wfA 5 (Mt.start (q + 1) d Z) j).trans (show (Mt.start (q + 1) d Z).fs.length = q + 1 by simp [Mt.start])
      by_cases hjq : j < q
      · have hi2 : (j : Int) < (q : Int) := by omega
        have hrd : (((wholeA wfA (readsA wfA 5 (Mt.start (q + 1) d Z) j) j 5).many 1 : Nat) : Int) = (j : Int) + 1 := by
          have := HT.out.reads j (by omega)
          unfold readsA at this
          omega
        obtain ⟨b0, b1, b2⟩ := (hR.behind 0 rfl).own
        have HRD := Lib.hid hrd
        have HR := Lib.hid hR
        have HLEN := Lib.hid hlen
        clear hrd hR hlen
        go_wp2_with fail
        refine (wf_whole HR.out (by rw [HLEN.out]; omega) 5).mono ?_
        rintro e2 w2 ⟨rfl, H2⟩
        clear b0 b1 b2
        obtain ⟨b0, b1, b2⟩ := (H2.behind 0 rfl).own
        have HR2 := Lib.hid H2
        clear H2
        go_wp2_with fail
        refine (wf_many HR2.out 1).mono ?_
        rintro e3 w3 ⟨rfl, rfl⟩
        rw [HRD.out]
        go_wp2
        go_roundw
        case rel => exact ⟨j + 1, by omega, by go_num, HR2.out⟩
        case measure => simp [intOf]; omega
      · have hjq2 : j = q := by omega
        subst hjq2
        have HR := Lib.hid hR
        clear hR hlen
        have hi2 : (j : Int) ≤ (j : Int) := Int.le_refl _
        go_wp2_with fail
        have HV := HR
        clear HR
        go_loopw [14] (fun c wr => ∃ i : Nat, i ≤ j ∧ c = .int .i64 i ∧ MatchHas [] w m a x hbk (.blk bx #[.pointer (some ⟨x, 0, none⟩)] :: .row p g cap Z :: []) (givesA wfA (j + 1) (readsA wfA 5 (Mt.start (j + 1) d Z) j) i) wr) (fun c _ => j - (intOf c).toNat)
        case atStart => exact ⟨0, Nat.zero_le _, rfl, HV.out⟩
        case round =>
          obtain ⟨i, hi, rfl, hR⟩ := hrel
          clear HV
          have hi1 : (0 : Int) ≤ (i : Int) := Int.natCast_nonneg _
          have hlen := (gives_len wfA (j + 1) (readsA wfA 5 (Mt.start (j + 1) d Z) j) i).trans ((reads_len wfA 5 (Mt.start (j + 1) d Z) j).trans (show (Mt.start (j + 1) d Z).fs.length = j + 1 by simp [Mt.start]))
          by_cases hij : i < j
          · have hi2 : (i : Int) < (j : Int) := by omega
            have htr := HT.out.tried i (by omega)
            obtain ⟨b0, b1, b2⟩ := (hR.behind 0 rfl).own
            have HTR := Lib.hid htr
            have HR := Lib.hid hR
            have HLEN := Lib.hid hlen
            clear htr hR hlen
            go_wp2_with fail
            refine (wf_whole HR.out (by rw [HLEN.out]; omega) 6).mono ?_
            rintro e2 w2 ⟨rfl, H2⟩
            clear b0 b1 b2
            obtain ⟨b0, b1, b2⟩ := (H2.behind 0 rfl).own
            obtain ⟨x0, x1, x2, x3⟩ := H2.held
            rw [whole_len, HLEN.out] at x1 x3
            have hh := x3 j (by omega)
            have e4 : (wholeA wfA (givesA wfA (j + 1) (readsA wfA 5 (Mt.start (j + 1) d Z) j) i) j 6).hold.getD j 0 = 0 := HTR.out
            rw [e4] at hh
            have HR2 := Lib.hid H2
            have hjk : (j : Int) < ((j + 1 : Nat) : Int) := by omega
            generalize j + 1 = kk at x1 hjk
            clear H2 x3 e4
            go_wp2_with fail
            clear x0 x1 x2 hh b0 b1 b2 hjk
            refine (wf_whole HR2.out (by rw [whole_len, HLEN.out]; omega) 2).mono ?_
            rintro e3 w3 ⟨rfl, H3⟩
            go_wp2
            go_roundw
            case rel => exact ⟨i + 1, by omega, by go_num, H3⟩
            case measure => simp [intOf]; omega
          · have hij2 : i = j := by omega
            subst hij2
            have hl := HT.out.last
            obtain ⟨b0, b1, b2⟩ := (hR.behind 0 rfl).own
            have HLA := Lib.hid hl
            have HR := Lib.hid hR
            have HLEN := Lib.hid hlen
            clear hl hR hlen
            have hi2 : (i : Int) ≤ (i : Int) := Int.le_refl _
            go_wp2_with fail
            refine (wf_whole HR.out (by rw [HLEN.out]; omega) 6).mono ?_
            rintro e2 w2 ⟨rfl, H2⟩
            clear b0 b1 b2
            obtain ⟨b0, b1, b2⟩ := (H2.behind 0 rfl).own
            obtain ⟨x0, x1, x2, x3⟩ := H2.held
            rw [whole_len, HLEN.out] at x1 x3
            have hh := x3 i (by omega)
            have e4 : (wholeA wfA (givesA wfA (i + 1) (readsA wfA 5 (Mt.start (i + 1) d Z) i) i) i 6).hold.getD i 0 = 2 := HLA.out.1
            have e5 : (((wholeA wfA (givesA wfA (i + 1) (readsA wfA 5 (Mt.start (i + 1) d Z) i) i) i 6).many 1 : Nat) : Int) = 0 := by have := HLA.out.2; simp only [Nat.add_sub_cancel] at this; omega
            rw [e4] at hh
            have HE5 := Lib.hid e5
            have HR2 := Lib.hid H2
            have hjk : (i : Int) < ((i + 1 : Nat) : Int) := by omega
            generalize i + 1 = kk at x1 hjk
            clear H2 x3 e4 e5
            go_wp2_with fail
            refine (wf_many HR2.out 1).mono ?_
            rintro e3 w3 ⟨rfl, rfl⟩
            rw [HE5.out]
            go_wp2_with fail
            refine (wf_awake _).mono ?_
            rintro e4 w4 ⟨rfl, t4⟩
            go_wp2
            go_ret
            exact ⟨rfl, (HR2.out.grow t4).touch⟩

end Go.Proofs.Ytmbbcgkfankiaaa.Z

/- One word, and nothing besides: what accesses do to it. No lock in sight. -/
set_option linter.unusedVariables false
set_option linter.unusedSimpArgs false
namespace Go.Proofs.Ytmbbcgkfankiaaa.Z
open Go.RowKit

/-- The word, and nothing besides. -/
def Wd (N : Nat) (x : Int) : List Int := x :: List.replicate N 0
theorem wd_len (N : Nat) (x : Int) : (Wd N x).length = N + 1 := by simp [Wd]
theorem wd_load (N : Nat) (x : Int) : doA (Wd N x) ⟨1, 0, 0, 0, 0⟩ = (⟨1, 0, 0, 0, x⟩, true, Wd N x) := by
  unfold doA
  rw [if_pos (by rw [wd_len]; simp)]
  simp [Wd]
theorem wd_add (N : Nat) (x y : Int) : doA (Wd N x) ⟨3, 0, y, 0, 0⟩ = (⟨3, 0, y, 0, x⟩, true, Wd N ((x + y) % 4294967296)) := by
  unfold doA
  rw [if_pos (by rw [wd_len]; simp)]
  simp [Wd]
theorem wd_cas (N : Nat) (x u v : Int) : doA (Wd N x) ⟨5, 0, u, v, 0⟩ = (⟨5, 0, u, v, x⟩, true, if x = u then Wd N v else Wd N x) := by
  unfold doA
  rw [if_pos (by rw [wd_len]; simp)]
  by_cases h : x = u
  · simp [Wd, h]
  · simp [Wd, h]
theorem wd_casB (N : Nat) (x u v : Int) : casB (Wd N x) 0 u v = (x == u) := by
  unfold casB
  rw [wd_cas]
  simp
theorem wd_nowatch (n : Int) (h1 : 1 ≤ n) (h2 : n ≤ 64) (x : Int) : NoWatch n 0 (Wd ((8 + 4 * n).toNat - 1) x) := by
  intro i h0 hi
  have hc : cellP n 2 i = 8 + 2 * n + i := by unfold cellP; rw [if_pos (by omega)]
  have hlt : 0 ≤ 8 + 2 * n + i ∧ 8 + 2 * n + i < ((Wd ((8 + 4 * n).toNat - 1) x).length : Int) := by rw [wd_len]; omega
  obtain ⟨j, hj⟩ : ∃ j : Nat, (8 + 2 * n + i).toNat = j + 1 := ⟨(8 + 2 * n + i).toNat - 1, by omega⟩
  have hg : (Wd ((8 + 4 * n).toNat - 1) x).getD (8 + 2 * n + i).toNat 0 = 0 := by
    rw [hj]
    show (List.replicate _ (0 : Int)).getD j 0 = 0
    rw [List.getD_eq_getElem?_getD, List.getElem?_replicate]
    split <;> rfl
  rw [hc]
  unfold doA
  rw [if_pos hlt]
  refine ⟨by simp, ?_⟩
  simp only [if_true]
  rw [hg]
  decide

/-- A step that ends an operation with true, and begins a wake-up: behind the wake-up the operation is over. -/
theorem alone_ends (g : Rn → Rn) (s0 s1 : Rn) (most : Nat) (hs : stepR g s0 = s1) (hr : s1.f.ret = 2) (hk : s1.f.wk = beginA s1.mode 0) (h1 : 1 ≤ s1.n) (hc : NoWatch s1.n 0 s1.L) (hm : s1.n.toNat + 1 ≤ most) :
    ∃ s, aloneA g most s0 = (2, s) ∧ s.L = s1.L := by
  obtain ⟨most, rfl⟩ : ∃ j, most = j + 1 := ⟨most - 1, by omega⟩
  have hgo : aloneA g (most + 1) s0 = if s1.over then (s1.f.ret, s1) else aloneA g most s1 := by rw [← hs]; rfl
  by_cases h2 : s1.mode = 2
  · have hk2 : s1.f.wk = ⟨true, 0, 0, false⟩ := by rw [hk]; unfold beginA; rw [if_pos h2]
    obtain ⟨s', _, _, k3, _, k5, _⟩ := alone_wakes g 0 s1.n.toNat s1 0 most hk2 (Int.le_refl _) (by omega) (by omega) hc (by omega)
    refine ⟨s', ?_, k3⟩
    rw [hgo, if_neg (by unfold Rn.over; rw [hk2]; simp), k5 (by rw [hr]; decide), hr]
  · have hk2 : s1.f.wk = Wk.zero := by rw [hk]; unfold beginA; rw [if_neg h2]
    refine ⟨s1, ?_, rfl⟩
    rw [hgo, if_pos (by unfold Rn.over; rw [hk2, hr]; rfl), hr]

end Go.Proofs.Ytmbbcgkfankiaaa.Z

/- A lock's operation by itself, line by line. No program is in sight but the model's words. -/
set_option linter.unusedVariables false
set_option linter.unusedSimpArgs false
namespace Go.Proofs.Ytmbbcgkfankiaaa.Z
open Go.RowKit

/-- A run at a line, afresh. -/
def RnF (n mode op line a b : Int) (L : List Int) : Rn := ⟨n, mode, 0, ⟨op, line, a, b, 0, Wk.zero, 0⟩, Acc.zero, [], L⟩
def At (n mode : Int) (s : Rn) (op line a b : Int) (L : List Int) : Prop := s.fresh = RnF n mode op line a b L

section
variable {n mode : Int} {s s1 : Rn} {op line a b line' a' b' : Int} {L L' : List Int} {g : Rn → Rn}
theorem At.wk (h : At n mode s op line a b L) : s.f.wk = Wk.zero := congrArg (fun x => x.f.wk) h
theorem At.ret (h : At n mode s op line a b L) : s.f.ret = 0 := congrArg (fun x => x.f.ret) h
theorem At.over (h : At n mode s op line a b L) : s.over = false := by unfold Rn.over; rw [h.ret]; rfl
theorem At.step (h : At n mode s op line a b L) : stepR g s = g (RnF n mode op line a b L) := by
  unfold stepR
  rw [h.wk]
  show g s.fresh = _
  rw [show s.fresh = _ from h]
theorem start_at : At n mode (start n mode op L) op 0 0 0 L := rfl

/-- A line, and on. -/
theorem At.go (h : At n mode s op line a b L) (hg : g (RnF n mode op line a b L) = s1) (h1 : At n mode s1 op line' a' b' L') (q : Nat) : aloneA g (q + 1) s = aloneA g q s1 := by
  show (if (stepR g s).over then ((stepR g s).f.ret, stepR g s) else aloneA g q (stepR g s)) = _
  rw [h.step, hg, h1.over]
  rfl
/-- A line that ends the operation. -/
theorem At.fin (h : At n mode s op line a b L) (hg : g (RnF n mode op line a b L) = s1) (hr : s1.f.ret ≠ 0) (hk : s1.f.wk = Wk.zero) (q : Nat) : aloneA g (q + 1) s = (s1.f.ret, s1) := by
  show (if (stepR g s).over then ((stepR g s).f.ret, stepR g s) else aloneA g q (stepR g s)) = _
  rw [h.step, hg, if_pos (by unfold Rn.over; rw [hk]; simpa [Wk.zero] using hr)]
theorem At.fin2 (h : At n mode s op line a b L) (hg : g (RnF n mode op line a b L) = s1) (hr : s1.f.ret ≠ 0) (hk : s1.f.wk = Wk.zero) (q : Nat) : ∃ s', aloneA g (q + 1) s = (s1.f.ret, s') ∧ s'.L = s1.L := ⟨s1, h.fin hg hr hk q, rfl⟩
/-- A line that ends the operation, and begins a wake-up. -/
theorem At.ends (h : At n mode s op line a b L) (c : Int) (hg : g (RnF n mode op line a b L) = s1) (hr : s1.f.ret ≠ 0) (hk : s1.f.wk = beginA mode c) (hn : s1.n = n) (h1 : 1 ≤ n) (hc : NoWatch n c s1.L) (q : Nat) :
    ∃ s', aloneA g (q + n.toNat + 1) s = (s1.f.ret, s') ∧ s'.L = s1.L := by
  have hgo : aloneA g (q + n.toNat + 1) s = if s1.over then (s1.f.ret, s1) else aloneA g (q + n.toNat) s1 := by
    show (if (stepR g s).over then ((stepR g s).f.ret, stepR g s) else aloneA g (q + n.toNat) (stepR g s)) = _
    rw [h.step, hg]
  by_cases h2 : mode = 2
  · have hk2 : s1.f.wk = ⟨true, c, 0, false⟩ := by rw [hk]; unfold beginA; rw [if_pos h2]
    obtain ⟨s', _, _, k3, _, k5, _⟩ := alone_wakes g c n.toNat s1 0 (q + n.toNat) hk2 (Int.le_refl _) (by omega) (by omega) (by rw [hn]; exact hc) (by omega)
    refine ⟨s', ?_, k3⟩
    rw [hgo, if_neg (by unfold Rn.over; rw [hk2]; simp), k5 hr]
  · have hk2 : s1.f.wk = Wk.zero := by rw [hk]; unfold beginA; rw [if_neg h2]
    refine ⟨s1, ?_, rfl⟩
    rw [hgo, if_pos (by unfold Rn.over; rw [hk2]; simpa [Wk.zero] using hr)]
/-- A line that begins a wake-up, behind which the operation goes on. -/
theorem At.wakes (h : At n mode s op line a b L) (c : Int) (hg : g (RnF n mode op line a b L) = s1) (hr : s1.rests = RnF n mode op line' a' b' L') (hk : s1.f.wk = beginA mode c) (h1 : 1 ≤ n) (hc : NoWatch n c L') (q : Nat) :
    ∃ s' q', At n mode s' op line' a' b' L' ∧ q ≤ q' ∧ aloneA g (q + n.toNat + 1) s = aloneA g q' s' := by
  have hL : s1.L = L' := congrArg (fun x => x.L) hr
  have hn : s1.n = n := congrArg (fun x => x.n) hr
  have hret : s1.f.ret = 0 := congrArg (fun x => x.f.ret) hr
  have hgo : aloneA g (q + n.toNat + 1) s = if s1.over then (s1.f.ret, s1) else aloneA g (q + n.toNat) s1 := by
    show (if (stepR g s).over then ((stepR g s).f.ret, stepR g s) else aloneA g (q + n.toNat) (stepR g s)) = _
    rw [h.step, hg]
  have hov : s1.over = false := by unfold Rn.over; rw [hret]; rfl
  rw [hov] at hgo
  by_cases h2 : mode = 2
  · have hk2 : s1.f.wk = ⟨true, c, 0, false⟩ := by rw [hk]; unfold beginA; rw [if_pos h2]
    obtain ⟨s', k1, _, _, _, _, k6⟩ := alone_wakes g c n.toNat s1 0 (q + n.toNat) hk2 (Int.le_refl _) (by omega) (by omega) (by rw [hn, hL]; exact hc) (by omega)
    refine ⟨s', q, k1.trans hr, Nat.le_refl _, ?_⟩
    rw [hgo]
    have := k6 hret
    rw [Nat.add_sub_cancel] at this
    exact this
  · have hk2 : s1.f.wk = Wk.zero := by rw [hk]; unfold beginA; rw [if_neg h2]
    refine ⟨s1, q + n.toNat, ?_, by omega, hgo⟩
    unfold At
    rw [← hr]
    unfold Rn.fresh Rn.rests
    rw [← hk2]
end

theorem stageA_0 (mode : Int) : stageA mode 0 = 0 := by unfold stageA; split <;> rfl
/-- What is waited for holds. -/
theorem wait_hit {L : List Int} {n mode task c : Int} {p : Int → Bool} (h : p (doA L ⟨1, c, 0, 0, 0⟩).1.old = true) : waitA L n mode task 0 c p = ⟨0, (doA L ⟨1, c, 0, 0, 0⟩).1, true, true, L⟩ := by
  rw [waitA0 (stageA_0 mode), h]
  rfl

end Go.Proofs.Ytmbbcgkfankiaaa.Z

/- A task that is let go on alone, from its operation's beginning to its end; many that read. No lock in sight. -/
set_option linter.unusedVariables false
set_option linter.unusedSimpArgs false
namespace Go.Proofs.Ytmbbcgkfankiaaa.Z
open Go.RowKit

/-- A run that waits for no permit here. -/
def Free (s : Rn) : Prop := s.f.wk.on = true ∨ s.f.st = 0
theorem free_stuck {s : Rn} (h : Free s) (L : List Int) (n mode task : Int) : (!s.f.wk.on && stuckA L n mode task s.f.st) = false := by
  rcases h with h | h
  · rw [h]; rfl
  · rw [h]
    unfold stuckA
    rw [stageA_0]
    simp

/-- In so many steps an operation ends. -/
inductive Does (g : Rn → Rn) : Nat → Rn → Rn → Prop
  | last {s s' : Rn} : Free s → stepR g s = s' → s'.over = true → Does g 1 s s'
  | more {n : Nat} {s s1 s' : Rn} : Free s → stepR g s = s1 → s1.over = false → s1.f.op ≠ 0 → Does g n s1 s' → Does g (n + 1) s s'

def Same (g : Rn → Rn) : Prop := ∀ s, (stepR g s).n = s.n ∧ (stepR g s).mode = s.mode ∧ (stepR g s).task = s.task

theorem run_fresh {s : Rn} {M : Mt} {i : Nat} {f : Fr} (h1 : s.n = M.n) (h2 : s.mode = M.mode) (h3 : s.task = i) (h4 : s.f = f) (h5 : s.L = M.L) : s.fresh = M.run i f := by
  obtain ⟨n, mode, task, f', acc, notes, L⟩ := s
  simp only at h1 h2 h3 h4 h5
  subst h1 h2 h3 h4 h5
  rfl
theorem step_of_fresh {g : Rn → Rn} {s : Rn} {M : Mt} {i : Nat} {f : Fr} (h : s.fresh = M.run i f) {s1 : Rn} (hs : stepR g s = s1) : stepR g (M.run i f) = s1 := by
  rw [← h, ← stepR_fresh, hs]

theorem put_put (M : Mt) (i : Nat) (f f' : Fr) (h h' : Int) (L L' : List Int) : (M.put i f h L).put i f' h' L' = M.put i f' h' L' := by
  unfold Mt.put
  simp [List.set_set]

theorem getD_set_self {α : Type} {l : List α} {i : Nat} {v d : α} (h : i < l.length) : (l.set i v).getD i d = v := by
  simp [List.getD, h]

/-- Of a task that is with an operation: let go on, it ends it. -/
theorem while_does {g : Rn → Rn} (hg : Same g) : ∀ {n : Nat} {s s' : Rn}, Does g n s s' → ∀ {M : Mt} {i m : Nat}, i < M.fs.length → M.hold.length = M.fs.length → s.fresh = M.run i s.f → M.fs.getD i Fr.zero = s.f → s.f.op ≠ 0 → n ≤ m →
    whileA g i m M = M.put i Fr.zero (behindA s'.f.op s'.f.ret (M.hold.getD i 0)) s'.L := by
  intro n s s' h
  induction h with
  | @last s s' hf hs ho =>
    intro M i m hi hh hr hM hop hm
    obtain ⟨m, rfl⟩ : ∃ j, m = j + 1 := ⟨m - 1, by omega⟩
    have hst := goes_of (h := M.hold.getD i 0) (step_of_fresh hr hs)
    rw [if_neg (by rw [free_stuck hf]; decide), if_pos ho] at hst
    unfold whileA
    rw [hM, if_neg hop]
    have hp : M.play g i 0 = M.put i Fr.zero (behindA s'.f.op s'.f.ret (M.hold.getD i 0)) s'.L := by
      unfold Mt.play
      rw [hM, if_neg hop, hst]
    rw [hp]
    cases m with
    | zero => rfl
    | succ m =>
      unfold whileA
      rw [if_pos]
      show ((M.fs.set i Fr.zero).getD i Fr.zero).op = 0
      rw [getD_set_self hi]
      rfl
  | @more n s s1 s' hf hs ho hop1 hd ih =>
    intro M i m hi hh hr hM hop hm
    obtain ⟨m, rfl⟩ : ∃ j, m = j + 1 := ⟨m - 1, by omega⟩
    have hst := goes_of (h := M.hold.getD i 0) (step_of_fresh hr hs)
    rw [if_neg (by rw [free_stuck hf]; decide), if_neg (by rw [ho]; decide)] at hst
    unfold whileA
    rw [hM, if_neg hop]
    have hp : M.play g i 0 = M.put i s1.f (M.hold.getD i 0) s1.L := by
      unfold Mt.play
      rw [hM, if_neg hop, hst]
    rw [hp]
    have hsm := hg s
    rw [hs] at hsm
    have hn : s.n = M.n ∧ s.mode = M.mode ∧ s.task = i := ⟨congrArg Rn.n hr, congrArg Rn.mode hr, congrArg Rn.task hr⟩
    have := ih (M := M.put i s1.f (M.hold.getD i 0) s1.L) (i := i) (m := m) (by simp [Mt.put]; exact hi) (by simp [Mt.put]; exact hh)
      (run_fresh (hsm.1.trans hn.1) (hsm.2.1.trans hn.2.1) (hsm.2.2.trans hn.2.2) rfl rfl) (getD_set_self hi) hop1 (by omega)
    rw [this, put_put]
    congr 2
    exact getD_set_self (by rw [hh]; exact hi)

/-- AN OPERATION, WHOLE. -/
theorem whole_does {g : Rn → Rn} (hg : Same g) {n : Nat} {s s' : Rn} (hd : Does g n s s') {M : Mt} {i : Nat} {op : Int} (hi : i < M.fs.length) (hh : M.hold.length = M.fs.length) (hM : M.fs.getD i Fr.zero = Fr.zero) (hmay : mayB op (M.hold.getD i 0) = true)
    (hr : s.fresh = M.run i (frOp op)) (hn : n ≤ 201) : wholeA g M i op = M.put i Fr.zero (behindA s'.f.op s'.f.ret (fromA op (M.hold.getD i 0))) s'.L := by
  have hsf : s.f = frOp op := congrArg Rn.f hr
  have hplay : M.play g i op = M.goes g i (frOp op) (fromA op (M.hold.getD i 0)) := by
    unfold Mt.play
    rw [hM, if_pos (show Fr.zero.op = 0 from rfl), if_pos hmay]
  unfold wholeA
  rw [hplay]
  cases hd with
  | last hf hs ho =>
    have hst := goes_of (h := fromA op (M.hold.getD i 0)) (step_of_fresh hr hs)
    rw [← hsf, if_neg (by rw [free_stuck hf]; decide), if_pos ho, hsf] at hst
    rw [hst]
    show whileA g i (199 + 1) _ = _
    unfold whileA
    rw [if_pos]
    show ((M.fs.set i Fr.zero).getD i Fr.zero).op = 0
    rw [getD_set_self hi]
    rfl
  | @more n _ s1 _ hf hs ho hop1 hd2 =>
    have hst := goes_of (h := fromA op (M.hold.getD i 0)) (step_of_fresh hr hs)
    rw [← hsf, if_neg (by rw [free_stuck hf]; decide), if_neg (by rw [ho]; decide), hsf] at hst
    rw [hst]
    have hsm := hg s
    rw [hs] at hsm
    have hn1 : s.n = M.n ∧ s.mode = M.mode ∧ s.task = i := ⟨congrArg Rn.n hr, congrArg Rn.mode hr, congrArg Rn.task hr⟩
    have := while_does hg hd2 (M := M.put i s1.f (fromA op (M.hold.getD i 0)) s1.L) (i := i) (m := 200) (by simp [Mt.put]; exact hi) (by simp [Mt.put]; exact hh)
      (run_fresh (hsm.1.trans hn1.1) (hsm.2.1.trans hn1.2.1) (hsm.2.2.trans hn1.2.2) rfl rfl) (getD_set_self hi) hop1 (by omega)
    rw [this, put_put]
    congr 2
    exact getD_set_self (by rw [hh]; exact hi)

/-- An operation of a task, from its beginning. -/
def startT (n mode : Int) (t : Nat) (op : Int) (L : List Int) : Rn := ⟨n, mode, t, frOp op, Acc.zero, [], L⟩

/-- Tasks that are idle. -/
structure Idle (M : Mt) (k : Nat) (d : Int) (f : Nat → Int) (L : List Int) : Prop where
  n : M.n = k
  mode : M.mode = d
  fs : M.fs = List.replicate k Fr.zero
  hold : M.hold = (List.range k).map f
  words : M.L = L

theorem range_set (k : Nat) (f : Nat → Int) (i : Nat) (v : Int) : ((List.range k).map f).set i v = (List.range k).map (fun x => if x = i then v else f x) := by
  refine List.ext_getElem? fun j => ?_
  rw [List.getElem?_set]
  by_cases hj : j < k
  · by_cases hij : i = j
    · subst hij
      simp [hj]
    · simp [hj, hij, Ne.symm hij]
  · by_cases hij : i = j
    · subst hij
      simp [hj]
    · simp [hj, hij]
theorem range_get {k : Nat} {f : Nat → Int} {i : Nat} (h : i < k) : ((List.range k).map f).getD i 0 = f i := by
  simp [List.getD, h]
theorem range_count (f : Nat → Int) (what : Int) (j : Nat) : ∀ k, (∀ i, i < k → (f i = what ↔ i < j)) → ((List.range k).map f).countP (· == what) = min j k := by
  intro k
  induction k with
  | zero => intro _; simp
  | succ k ih =>
    intro h
    rw [List.range_succ, List.map_append, List.countP_append, ih (fun i hi => h i (by omega))]
    have hk := h k (by omega)
    by_cases h1 : k < j
    · simp [hk.2 h1]; omega
    · have : ¬ f k = what := fun e => h1 (hk.1 e)
      simp [this]; omega

theorem Idle.whole {g : Rn → Rn} (hg : Same g) {M : Mt} {k : Nat} {d : Int} {f : Nat → Int} {L : List Int} (h : Idle M k d f L) {i : Nat} (hi : i < k) {op : Int} (hmay : mayB op (f i) = true) {n : Nat} {s' : Rn} (hn : n ≤ 201) (hd : Does g n (startT k d i op L) s') :
    Idle (wholeA g M i op) k d (fun x => if x = i then behindA s'.f.op s'.f.ret (fromA op (f i)) else f x) s'.L := by
  have hlen : M.fs.length = k := by rw [h.fs]; simp
  have hhl : M.hold.length = M.fs.length := by rw [h.hold, h.fs]; simp
  have hget : M.hold.getD i 0 = f i := by rw [h.hold]; exact range_get hi
  have hz : M.fs.getD i Fr.zero = Fr.zero := by rw [h.fs]; simp [List.getD, hi]
  have := whole_does hg hd (M := M) (i := i) (op := op) (by omega) hhl hz (by rw [hget]; exact hmay) (run_fresh h.n.symm h.mode.symm rfl rfl h.words.symm) hn
  rw [this, hget]
  refine ⟨h.n, h.mode, ?_, ?_, rfl⟩
  · show M.fs.set i Fr.zero = _
    rw [h.fs]
    refine List.ext_getElem? fun j => ?_
    rw [List.getElem?_set]
    split
    · rename_i hij
      subst hij
      simp [hi]
    · rfl
  · show M.hold.set i _ = _
    rw [h.hold, range_set]

/-- What is asked of a lock: of words at which so many read. -/
structure Together (g : Rn → Rn) (k : Nat) (d op : Int) (P : Nat → List Int → Prop) : Prop where
  same : Same g
  read : ∀ i j L, i < k → j + 1 < k → P j L → ∃ n s', n ≤ 201 ∧ Does g n (startT k d i op L) s' ∧ s'.f.ret = 2 ∧ (s'.f.op = 1 ∨ s'.f.op = 5) ∧ P (j + 1) s'.L
  refused : ∀ i j L, i < k → j + 1 < k → P (j + 1) L → ∃ n s', n ≤ 201 ∧ Does g n (startT k d i 6 L) s' ∧ s'.f.ret ≠ 2 ∧ P (j + 1) s'.L
  give : ∀ i j L, i < k → j + 1 < k → P (j + 1) L → ∃ n s', n ≤ 201 ∧ Does g n (startT k d i 2 L) s' ∧ s'.f.op = 2 ∧ P j s'.L
  take : ∀ i L, i < k → P 0 L → ∃ n s', n ≤ 201 ∧ Does g n (startT k d i 6 L) s' ∧ s'.f.ret = 2 ∧ s'.f.op = 6

theorem together_ok {g : Rn → Rn} {k : Nat} {d op : Int} {P : Nat → List Int → Prop} (hop : op = 1 ∨ op = 5) (T : Together g k d op P) {Z : List Int} (hZ : P 0 Z) (hk : 2 ≤ k) : TogetherOk g k op (Mt.start k d Z) := by
  have h0 : Idle (Mt.start k d Z) k d (fun _ => 0) Z := ⟨rfl, rfl, rfl, by simp [Mt.start, List.map_const'], rfl⟩
  have hmay : mayB op 0 = true := by rcases hop with rfl | rfl <;> decide
  have hR : ∀ j, j ≤ k - 1 → ∃ L, P j L ∧ Idle (readsA g op (Mt.start k d Z) j) k d (fun i => if i < j then 1 else 0) L := by
    intro j
    induction j with
    | zero => intro _; exact ⟨Z, hZ, by show Idle (Mt.start k d Z) _ _ _ _; simpa using h0⟩
    | succ j ih =>
      intro hj
      obtain ⟨L, hP, hI⟩ := ih (by omega)
      obtain ⟨n, s', hn, hd, hr, ho, hP'⟩ := T.read j j L (by omega) (by omega) hP
      refine ⟨s'.L, hP', ?_⟩
      have := hI.whole T.same (i := j) (by omega) (op := op) (by simpa using hmay) hn hd
      have e : (fun x => if x = j then behindA s'.f.op s'.f.ret (fromA op (if j < j then 1 else 0)) else if x < j then (1 : Int) else 0) = fun i => if i < j + 1 then 1 else 0 := by
        funext x
        by_cases h1 : x = j
        · subst h1
          have : behindA s'.f.op 2 (fromA op (if x < x then 1 else 0)) = 1 := by
            unfold behindA
            rcases ho with ho | ho <;> simp [ho]
          rw [if_pos rfl, hr, this, if_pos (Nat.lt_succ_self _)]
        · by_cases h2 : x < j
          · simp [h1, h2, Nat.lt_succ_of_lt h2]
          · have : ¬ x < j + 1 := by omega
            simp [h1, h2, this]
      rw [e] at this
      exact this
  have hG : ∀ j, j ≤ k - 1 → ∃ L, P (k - 1 - j) L ∧ Idle (givesA g k (readsA g op (Mt.start k d Z) (k - 1)) j) k d (fun i => if i < k - 1 then (if i < j then 0 else 1) else 0) L ∧
      (j < k - 1 → (wholeA g (givesA g k (readsA g op (Mt.start k d Z) (k - 1)) j) (k - 1) 6).hold.getD (k - 1) 0 = 0) := by
    have hno : ∀ j M L, j < k - 1 → P (k - 1 - j) L → Idle M k d (fun i => if i < k - 1 then (if i < j then 0 else 1) else 0) L →
        ∃ L', P (k - 1 - j) L' ∧ Idle (wholeA g M (k - 1) 6) k d (fun i => if i < k - 1 then (if i < j then 0 else 1) else 0) L' := by
      intro j M L hj hP hI
      obtain ⟨c, hc⟩ : ∃ c, k - 1 - j = c + 1 := ⟨k - 1 - j - 1, by omega⟩
      rw [hc] at hP ⊢
      obtain ⟨n, s', hn, hd, hr, hP'⟩ := T.refused (k - 1) c L (by omega) (by omega) hP
      refine ⟨s'.L, hP', ?_⟩
      have := hI.whole T.same (i := k - 1) (by omega) (op := 6) (by simp; decide) hn hd
      have e : (fun x => if x = k - 1 then behindA s'.f.op s'.f.ret (fromA 6 (if k - 1 < k - 1 then (if k - 1 < j then 0 else 1) else 0)) else if x < k - 1 then (if x < j then (0 : Int) else 1) else 0) = fun i => if i < k - 1 then (if i < j then 0 else 1) else 0 := by
        funext x
        by_cases h1 : x = k - 1
        · subst h1
          have : ∀ h, behindA s'.f.op s'.f.ret (fromA 6 h) = h := by
            intro h
            unfold behindA
            rw [if_pos hr]
            rfl
          rw [if_pos rfl, this]
        · simp [h1]
      rw [e] at this
      exact this
    intro j
    induction j with
    | zero =>
      intro _
      obtain ⟨L, hP, hI⟩ := hR (k - 1) (by omega)
      have hI' : Idle (givesA g k (readsA g op (Mt.start k d Z) (k - 1)) 0) k d (fun i => if i < k - 1 then (if i < 0 then 0 else 1) else 0) L := by
        have e : (fun i : Nat => if i < k - 1 then (if i < 0 then (0 : Int) else 1) else 0) = fun i => if i < k - 1 then 1 else 0 := by funext i; simp
        rw [e]
        exact hI
      refine ⟨L, hP, hI', fun hj => ?_⟩
      obtain ⟨L', _, h2⟩ := hno 0 _ L hj (by simpa using hP) hI'
      rw [h2.hold, range_get (by omega)]
      simp
    | succ j ih =>
      intro hj
      obtain ⟨L, hP, hI, _⟩ := ih (by omega)
      obtain ⟨L1, hP1, hI1⟩ := hno j _ L (by omega) hP hI
      obtain ⟨c, hc⟩ : ∃ c, k - 1 - j = c + 1 := ⟨k - 1 - j - 1, by omega⟩
      rw [hc] at hP1
      obtain ⟨n, s', hn, hd, ho, hP'⟩ := T.give j c L1 (by omega) (by omega) hP1
      have h3 := hI1.whole T.same (i := j) (by omega) (op := 2) (by rw [if_pos (by omega)]; simp; decide) hn hd
      have e : (fun x => if x = j then behindA s'.f.op s'.f.ret (fromA 2 (if j < k - 1 then (if j < j then 0 else 1) else 0)) else if x < k - 1 then (if x < j then (0 : Int) else 1) else 0) = fun i => if i < k - 1 then (if i < j + 1 then 0 else 1) else 0 := by
        funext x
        by_cases h1 : x = j
        · subst h1
          have : ∀ h, behindA s'.f.op s'.f.ret (fromA 2 h) = 0 := by
            intro h
            unfold behindA fromA
            rw [ho]
            split <;> simp
          rw [if_pos rfl, this, if_pos (by omega), if_pos (by omega)]
        · by_cases h2 : x < k - 1
          · by_cases h4 : x < j
            · simp [h1, h2, h4, Nat.lt_succ_of_lt h4]
            · have : ¬ x < j + 1 := by omega
              simp [h1, h2, h4, this]
          · simp [h1, h2]
      rw [e] at h3
      refine ⟨s'.L, by rw [show k - 1 - (j + 1) = c from by omega]; exact hP', h3, fun hj2 => ?_⟩
      obtain ⟨L', _, h2⟩ := hno (j + 1) _ s'.L hj2 (by rw [show k - 1 - (j + 1) = c from by omega]; exact hP') h3
      rw [show givesA g k (readsA g op (Mt.start k d Z) (k - 1)) (j + 1) = wholeA g (wholeA g (givesA g k (readsA g op (Mt.start k d Z) (k - 1)) j) (k - 1) 6) j 2 from rfl, h2.hold, range_get (by omega)]
      simp
  refine ⟨fun j hj => ?_, fun j hj => (hG j (by omega)).choose_spec.2.2 hj, ?_⟩
  · obtain ⟨L, _, hI⟩ := hR (j + 1) (by omega)
    unfold Mt.many
    rw [hI.hold, range_count _ 1 (j + 1) k (fun i hi => by by_cases h : i < j + 1 <;> simp [h])]
    omega
  · obtain ⟨L, hP, hI, _⟩ := hG (k - 1) (Nat.le_refl _)
    rw [Nat.sub_self] at hP
    obtain ⟨n, s', hn, hd, hr, ho⟩ := T.take (k - 1) L (by omega) hP
    have h3 := hI.whole T.same (i := k - 1) (by omega) (op := 6) (by simp; decide) hn hd
    have hb : ∀ h, behindA s'.f.op s'.f.ret h = 2 := by
      intro h
      unfold behindA
      rw [ho, hr]
      simp
    refine ⟨?_, ?_⟩
    · rw [h3.hold, range_get (by omega), if_pos rfl, hb]
    · unfold Mt.many
      rw [h3.hold, range_count _ 1 0 k (fun i hi => ?_)]
      · omega
      · by_cases h1 : i = k - 1
        · simp [h1, hb]
        · simp [h1]
          intro h2
          omega

/-- A wake-up that finds nobody, at an operation's end. -/
theorem does_wakes (g : Rn → Rn) (c : Int) : ∀ (d : Nat) (s : Rn) (i : Int), s.f.wk = ⟨true, c, i, false⟩ → 0 ≤ i → i + d = s.n → 1 ≤ d → NoWatch s.n c s.L → s.f.ret ≠ 0 → s.f.op ≠ 0 →
    ∃ s', Does g d s s' ∧ s'.L = s.L ∧ s'.f.ret = s.f.ret ∧ s'.f.op = s.f.op := by
  intro d
  induction d with
  | zero => intro s i hw h0 h1 h2; omega
  | succ d ih =>
    intro s i hw h0 h1 _ hc hr ho
    obtain ⟨e1, e2, e3, e4, e5, e6⟩ := woke_calm hw h0 (by omega) hc
    have hst : stepR g s = s.woke := by unfold stepR; rw [hw]; rfl
    have hf : Free s := Or.inl (by rw [hw])
    by_cases hd : d = 0
    · subst hd
      rw [if_pos (by omega)] at e2
      exact ⟨s.woke, Does.last hf hst (by unfold Rn.over; rw [e2]; simpa [Wk.zero] using hr), e1, by rw [e2], by rw [e2]⟩
    · rw [if_neg (by omega)] at e2
      obtain ⟨s', k1, k2, k3, k4⟩ := ih s.woke (i + 1) (by rw [e2]) (by omega) (by rw [e4]; omega) (by omega) (by rw [e4, e1]; exact hc) (by rw [e2]; exact hr) (by rw [e2]; exact ho)
      exact ⟨s', Does.more hf hst (by unfold Rn.over; rw [e2]; simp) (by rw [e2]; exact ho) k1, k2.trans e1, by rw [k3, e2], by rw [k4, e2]⟩

theorem does_ends {g : Rn → Rn} {s s1 : Rn} (c : Int) (hf : Free s) (hs : stepR g s = s1) (hk : s1.f.wk = beginA s1.mode c) (hr : s1.f.ret ≠ 0) (ho : s1.f.op ≠ 0) (h1 : 1 ≤ s1.n) (hc : NoWatch s1.n c s1.L) :
    ∃ n s', n ≤ s1.n.toNat + 1 ∧ Does g n s s' ∧ s'.L = s1.L ∧ s'.f.ret = s1.f.ret ∧ s'.f.op = s1.f.op := by
  unfold beginA at hk
  split at hk
  · obtain ⟨s', k1, k2, k3, k4⟩ := does_wakes g c s1.n.toNat s1 0 hk (Int.le_refl _) (by omega) (by omega) hc hr ho
    exact ⟨_, s', Nat.le_refl _, Does.more hf hs (by unfold Rn.over; rw [hk]; simp) ho k1, k2, k3, k4⟩
  · exact ⟨1, s1, by omega, Does.last hf hs (by unfold Rn.over; rw [hk]; simpa [Wk.zero] using hr), rfl, rfl, rfl⟩

/-- A task's run at a line, afresh. -/
def RnT (n mode : Int) (t : Nat) (op line a b : Int) (L : List Int) : Rn := ⟨n, mode, t, ⟨op, line, a, b, 0, Wk.zero, 0⟩, Acc.zero, [], L⟩
def AtT (n mode : Int) (t : Nat) (s : Rn) (op line a b : Int) (L : List Int) : Prop := s.fresh = RnT n mode t op line a b L
theorem startT_at (n mode : Int) (t : Nat) (op : Int) (L : List Int) : AtT n mode t (startT n mode t op L) op 0 0 0 L := rfl
section
variable {n mode : Int} {t : Nat} {s : Rn} {op line a b line' a' b' : Int} {L L' : List Int} {g : Rn → Rn}
theorem AtT.wk (h : AtT n mode t s op line a b L) : s.f.wk = Wk.zero := congrArg (fun x => x.f.wk) h
theorem AtT.free (h : AtT n mode t s op line a b L) : Free s := Or.inr (congrArg (fun x => x.f.st) h)
theorem AtT.step (h : AtT n mode t s op line a b L) : stepR g s = g (RnT n mode t op line a b L) := by
  unfold stepR
  rw [h.wk]
  show g s.fresh = _
  rw [show s.fresh = _ from h]
theorem AtT.over (h : AtT n mode t s op line a b L) : s.over = false := by unfold Rn.over; rw [show s.f.ret = 0 from congrArg (fun x => x.f.ret) h]; rfl
theorem AtT.op_ (h : AtT n mode t s op line a b L) : s.f.op = op := congrArg (fun x => x.f.op) h
/-- A line, and on. -/
theorem AtT.go {q : Nat} {s' : Rn} (h : AtT n mode t s op line a b L) (h1 : AtT n mode t (g (RnT n mode t op line a b L)) op line' a' b' L') (ho : op ≠ 0) (hd : Does g q (g (RnT n mode t op line a b L)) s') : Does g (q + 1) s s' :=
  Does.more h.free h.step h1.over (by rw [h1.op_]; exact ho) hd
/-- A line that ends the operation. -/
theorem AtT.fin (h : AtT n mode t s op line a b L) (hr : (g (RnT n mode t op line a b L)).f.ret ≠ 0) (hk : (g (RnT n mode t op line a b L)).f.wk = Wk.zero) : Does g 1 s (g (RnT n mode t op line a b L)) :=
  Does.last h.free h.step (by unfold Rn.over; rw [hk]; simpa [Wk.zero] using hr)
/-- A line that ends the operation, and begins a wake-up that finds nobody. -/
theorem AtT.ends {s1 : Rn} (h : AtT n mode t s op line a b L) (c : Int) (hg : g (RnT n mode t op line a b L) = s1) (hr : s1.f.ret ≠ 0) (ho : s1.f.op ≠ 0) (hk : s1.f.wk = beginA s1.mode c) (h1 : 1 ≤ s1.n) (hc : NoWatch s1.n c s1.L) :
    ∃ q s', q ≤ s1.n.toNat + 1 ∧ Does g q s s' ∧ s'.L = s1.L ∧ s'.f.ret = s1.f.ret ∧ s'.f.op = s1.f.op := does_ends c h.free (h.step.trans hg) hk hr ho h1 hc
end

end Go.Proofs.Ytmbbcgkfankiaaa.Z
