/- 6 texts of this claim, joined: what each shows stands at its own head. -/
import Derived.Test.YtbcppehpfckgoaaZMatch
import Derived.Test.YtbcppehpfckgoaaZPlace
import Derived.Test.YtbcppehpfckgoaaZMat
import Derived.Test.YtbcppehpfckgoaaZFlat5
import Derived.Test.YtbcppehpfckgoaaZM02PqTogether
/- Law 14: may, from, behind. Written by genmatch.py. -/
set_option linter.unusedVariables false
set_option linter.unusedSimpArgs false
namespace Go.Proofs.Ytbcppehpfckgoaa.Z
open Go.RowKit

theorem pq_may (op hold : Int) (w : World) : Calls Try.prog 65 #[.int .i64 op, .int .i64 hold] w fun e w' => e = .returned (.bool (mayB op hold)) ∧ w = w' := by
  by_cases h0 : hold = 0
  · subst h0
    by_cases h1 : op = 1
    · subst h1
      go_enter Try.func65, Try.ntmps65
      go_wp2
      go_ret
      exact ⟨rfl, rfl⟩
    have e1 : (op == 1) = false := by simpa using h1
    by_cases h3 : op = 3
    · subst h3
      go_enter Try.func65, Try.ntmps65
      go_wp2
      go_ret
      exact ⟨rfl, rfl⟩
    have e3 : (op == 3) = false := by simpa using h3
    by_cases h5 : op = 5
    · subst h5
      go_enter Try.func65, Try.ntmps65
      go_wp2
      go_ret
      exact ⟨rfl, rfl⟩
    have e5 : (op == 5) = false := by simpa using h5
    by_cases h6 : op = 6
    · subst h6
      go_enter Try.func65, Try.ntmps65
      go_wp2
      go_ret
      exact ⟨rfl, rfl⟩
    have e6 : (op == 6) = false := by simpa using h6
    go_enter Try.func65, Try.ntmps65
    go_wp2
    go_ret
    exact ⟨by simp [mayB, e1, e3, e5, e6], rfl⟩
  by_cases k1 : hold = 1
  · subst k1
    by_cases h2 : op = 2
    · subst h2
      go_enter Try.func65, Try.ntmps65
      go_wp2
      go_ret
      exact ⟨rfl, rfl⟩
    have e2 : (op == 2) = false := by simpa using h2
    by_cases h7 : op = 7
    · subst h7
      go_enter Try.func65, Try.ntmps65
      go_wp2
      go_ret
      exact ⟨rfl, rfl⟩
    have e7 : (op == 7) = false := by simpa using h7
    go_enter Try.func65, Try.ntmps65
    go_wp2
    go_ret
    exact ⟨by simp [mayB, e2, e7], rfl⟩
  have f0 : (hold == 0) = false := by simpa using h0
  have f1 : (hold == 1) = false := by simpa using k1
  by_cases h4 : op = 4
  · subst h4
    go_enter Try.func65, Try.ntmps65
    go_wp2
    go_ret
    exact ⟨by simp [mayB, h0, k1], rfl⟩
  have e4 : (op == 4) = false := by simpa using h4
  by_cases h8 : op = 8
  · subst h8
    go_enter Try.func65, Try.ntmps65
    go_wp2
    go_ret
    exact ⟨by simp [mayB, h0, k1], rfl⟩
  have e8 : (op == 8) = false := by simpa using h8
  go_enter Try.func65, Try.ntmps65
  go_wp2
  go_ret
  exact ⟨by simp [mayB, h0, k1, e4, e8], rfl⟩
theorem pq_from (op hold : Int) (w : World) : Calls Try.prog 66 #[.int .i64 op, .int .i64 hold] w fun e w' => e = .returned (.int .i64 (fromA op hold)) ∧ w = w' := by
  by_cases h2 : op = 2
  · subst h2
    go_enter Try.func66, Try.ntmps66
    go_wp2
    go_ret
    exact ⟨by simp [fromA], rfl⟩
  have e2 : (op == 2) = false := by simpa using h2
  by_cases h4 : op = 4
  · subst h4
    go_enter Try.func66, Try.ntmps66
    go_wp2
    go_ret
    exact ⟨by simp [fromA], rfl⟩
  have e4 : (op == 4) = false := by simpa using h4
  by_cases h8 : op = 8
  · subst h8
    go_enter Try.func66, Try.ntmps66
    go_wp2
    go_ret
    exact ⟨by simp [fromA], rfl⟩
  have e8 : (op == 8) = false := by simpa using h8
  go_enter Try.func66, Try.ntmps66
  go_wp2
  go_ret
  exact ⟨by simp [fromA, h2, h4, h8], rfl⟩
theorem pq_behind (op ret hold : Int) (w : World) : Calls Try.prog 67 #[.int .i64 op, .int .i64 ret, .int .i64 hold] w fun e w' => e = .returned (.int .i64 (behindA op ret hold)) ∧ w = w' := by
  by_cases hr : ret = 2
  · subst hr
    by_cases h1 : op = 1
    · subst h1
      go_enter Try.func67, Try.ntmps67
      go_wp2
      go_ret
      exact ⟨by simp [behindA], rfl⟩
    have e1 : (op == 1) = false := by simpa using h1
    by_cases h5 : op = 5
    · subst h5
      go_enter Try.func67, Try.ntmps67
      go_wp2
      go_ret
      exact ⟨by simp [behindA], rfl⟩
    have e5 : (op == 5) = false := by simpa using h5
    by_cases h3 : op = 3
    · subst h3
      go_enter Try.func67, Try.ntmps67
      go_wp2
      go_ret
      exact ⟨by simp [behindA], rfl⟩
    have e3 : (op == 3) = false := by simpa using h3
    by_cases h6 : op = 6
    · subst h6
      go_enter Try.func67, Try.ntmps67
      go_wp2
      go_ret
      exact ⟨by simp [behindA], rfl⟩
    have e6 : (op == 6) = false := by simpa using h6
    by_cases h7 : op = 7
    · subst h7
      go_enter Try.func67, Try.ntmps67
      go_wp2
      go_ret
      exact ⟨by simp [behindA], rfl⟩
    have e7 : (op == 7) = false := by simpa using h7
    go_enter Try.func67, Try.ntmps67
    go_wp2
    go_ret
    exact ⟨by simp [behindA, h1, h5, h3, h6, h7], rfl⟩
  have er : (ret != 2) = true := by simpa using hr
  go_enter Try.func67, Try.ntmps67
  go_wp2
  go_ret
  exact ⟨by simp [behindA, hr], rfl⟩

end Go.Proofs.Ytbcppehpfckgoaa.Z

/- Law 14: a pick. Written by genmat.py. -/
set_option linter.unusedVariables false
set_option linter.unusedSimpArgs false
namespace Go.Proofs.Ytbcppehpfckgoaa.Z
open Go.RowKit

theorem getD_mem {α : Type} {l : List α} {i : Nat} {d : α} (h : i < l.length) : l.getD i d ∈ l := by
  simp [List.getD, h]
theorem set_getD {α : Type} {l : List α} {i : Nat} {d : α} (h : i < l.length) : l.set i (l.getD i d) = l := by
  simp [List.getD, h]
theorem i64s_set_at {l : List Int} {i : Nat} {v : Int} (h : i < l.length) : (i64s (l.set i v)).toArray[i]? = some (.int .i64 v) := by
  simp [i64s, h]
theorem i64s_set2 (l : List Int) (i : Nat) (v u : Int) : (i64s (l.set i v)).toArray.setIfInBounds i (.int .i64 u) = (i64s (l.set i u)).toArray := by
  simp [i64s, List.map_set]

set_option maxHeartbeats 3200000 in
set_option maxRecDepth 100000 in
theorem pq_play {S0 : List Nat} {w0 w : World} {m a x hb : Nat} {rs : List Res} {M : Mt} (H : MatchHas S0 w0 m a x hb rs M w) {i : Nat} (hi : i < M.fs.length) (op : Int) :
    Calls Try.prog 33 #[.pointer (some ⟨x, 0, none⟩), .int .i64 i, .int .i64 op] w fun e w' => e = .returned (.tuple #[]) ∧ MatchHas S0 w0 m a x hb rs (M.play pqA i op) w' := by
  obtain ⟨hf1, hf2, hf3, hf4⟩ := H.fit
  have hwd := H.words
  have hil : i < M.hold.length := by rw [hf1]; exact hi
  obtain ⟨r, b, off, cap, rest, s, e1, e2, e3, e4, e5, hO, hptr, hback⟩ := H.opened hi
  have HFOK : FrOk s.f := by rw [e1]; exact hf2 _ (getD_mem hi)
  have hO2 : Opn S0 w0 m a x hb r (.slice (some ⟨b, off, none⟩) M.fs.length cap) M.fs.length (M.hold.set i (M.hold.getD i 0)) rest s w := by rw [set_getD hil]; exact hO
  obtain ⟨p0, p1⟩ := hptr _ _ _ hO
  clear hptr hO
  have HH := Lib.hid H
  clear H
  generalize hk : M.fs.length = k at hi hO2 hf1 hf4 hback
  generalize hh : M.hold.getD i 0 = h0 at hO2
  obtain ⟨n, mode, task, ⟨o1, line, fa, fb, st, ⟨on, wc, wi, hit⟩, ret⟩, ⟨ak, ac, ax, ay, ao⟩, notes, L⟩ := s
  simp only at e1 e2 e3 e4 e5 HFOK
  subst e2 e3 e4 e5
  have hplay : M.play pqA i op = if o1 = 0 then if mayB op h0 = true then M.goes pqA i ⟨op, 0, 0, 0, 0, ⟨false, 0, 0, false⟩, 0⟩ (fromA op h0) else M else M.goes pqA i ⟨o1, line, fa, fb, st, ⟨on, wc, wi, hit⟩, ret⟩ h0 := by
    unfold Mt.play
    rw [← e1, hh]
    rfl
  have HPLAY := Lib.hid hplay
  have hi1 : (0 : Int) ≤ (i : Int) := Int.natCast_nonneg _
  have hi2 : (i : Int) < (k : Int) := by omega
  have HLEN := Lib.hid (show i < k ∧ i < M.hold.length ∧ I64 M.n ∧ Words M.L from ⟨hi, hil, hf3, hwd⟩)
  clear hplay e1 hh hk hf1 hf2 hf3 hf4 hwd hi hil
  have HBACK := Lib.hid hback
  clear hback
  by_cases ho : o1 = 0
  · subst ho
    obtain ⟨nv0, hO3⟩ := hO2
    simp only [rcells] at hO3
    obtain ⟨y0, y1, y2⟩ := hO3.blk1.own
    obtain ⟨z0, z1, z2⟩ := (hO3.at_ 3 rfl).own
    obtain ⟨u0, u1, u2⟩ := (hO3.at_ 4 rfl).own
    have v1 : w.cell? ⟨hb, i, none⟩ = some (.int .i64 h0) := (u1 i).trans (i64s_set_at HLEN.out.2.1)
    clear u1
    have HO := Lib.hid hO3
    clear hO3
    cases hm : mayB op h0 with
    | false =>
      have HM := Lib.hid hm
      clear hm
      go_enter Try.func33, Try.ntmps33
      go_wp2_with fail
      refine (pq_may _ _ _).mono ?_
      rintro e w1 ⟨rfl, rfl⟩
      rw [HM.out]
      go_wp2_with fail
      (try simp only [Exit.inBlock, Exit.then]); refine bodyPost_ret (results_none rfl _ _ _) rfl ?_
      refine ⟨rfl, ?_⟩
      rw [HPLAY.out, if_pos trivial, HM.out]
      exact HH.out
    | true =>
      have HM := Lib.hid hm
      clear hm
      go_enter Try.func33, Try.ntmps33
      go_wp2_with fail
      refine (pq_may _ _ _).mono ?_
      rintro e w1 ⟨rfl, rfl⟩
      rw [HM.out]
      go_wp2_with fail
      have d1 : w.drew.cell? ⟨x, 1, none⟩ = some (.slice (some ⟨hb, 0, none⟩) k k) := z1 1
      have d2 : w.drew.cell? ⟨hb, i, none⟩ = some (.int .i64 h0) := v1
      have d3 : w.cell? ⟨x, 1, none⟩ = some (.slice (some ⟨hb, 0, none⟩) k k) := z1 1
      refine region_flat_call 13 rfl (by kernel_rfl) (by kernel_rfl) ?_
      simp only [List.take_succ_cons, List.take_zero, List.drop_succ_cons, List.drop_zero, probed, probes, List.nil_append]
      go_wp2_with fail
      rw [only_normal]
      refine half_static (.int .i64 (fromA op h0)) rfl rfl (enters_of Try.func66 (by kernel_rfl) rfl) (by simp [Act.eval]) (fun W _ => pq_from _ _ W) ?_
      simp only [probed, probes, List.nil_append]
      go_wp2_with fail
      rw [only_normal]
      rename_i hK
      refine hK _ _ ?_
      clear hK
      have HO1 := (HO.out.set4 i (.int .i64 (fromA op h0))).drew
      rw [i64s_set2] at HO1
      refine wp_from (Facts := fun W => Has S0 w0 W (.mem m a M.L :: .blk r #[.pointer (some ⟨m, 0, none⟩), .int .i64 M.n, .int .i64 M.mode, .int .i64 i, .int .i64 0, .int .i64 line, .int .u32 fa, .int .u32 fb, .int .i64 st, .bool on, .int .i64 wc, .int .i64 wi, .bool hit, .int .i64 ret, .int .i64 ak, .int .i64 ac, .int .u32 ax, .int .u32 ay, .int .u32 ao, nv0] :: .own 112 4 nv0 notes.length (nts notes) :: .blk x #[.slice (some ⟨b, off, none⟩) k cap, .slice (some ⟨hb, 0, none⟩) k k] :: .blk hb (i64s (M.hold.set i (fromA op h0))).toArray :: rest)) ?_ HO1
      clear HO HO1 y0 y1 y2 z0 z1 z2 u0 u2 v1 d1 d2 d3 p0 p1
      intro W HW
      obtain ⟨y0, y1, y2⟩ := HW.blk1.own
      rename_i hK2 K0
      have HK2 := Lib.hid hK2
      clear hK2
      go_wp2_with fail
      refine HK2.out _ _ ?_
      clear HK2
      refine wp_from (Facts := fun W => Opn S0 w0 m a x hb r (.slice (some ⟨b, off, none⟩) k cap) k (M.hold.set i (fromA op h0)) rest ⟨M.n, M.mode, i, ⟨op, 0, 0, 0, 0, ⟨false, 0, 0, false⟩, 0⟩, ⟨ak, ac, ax, ay, ao⟩, notes, M.L⟩ W) ?_ ?_
      rotate_left
      · refine ⟨nv0, ?_⟩
        have H2 := ((((((((((HW.set1 4 (.int .i64 op)).set1 5 (.int .i64 0)).set1 6 (.int .u32 0)).set1 7 (.int .u32 0)).set1 8 (.int .i64 0)).set1 9 (.bool false)).set1 10 (.int .i64 0)).set1 11 (.int .i64 0)).set1 12 (.bool false)).set1 13 (.int .i64 0))
        simp only [List.setIfInBounds_toArray, List.set_cons_zero, List.set_cons_succ] at H2
        exact H2
      clear HW y0 y1 y2
      rename_i W0
      clear W0
      intro W HT
      have hstk := fun W rs (HX : Has S0 w0 W (.mem m a M.L :: rs)) nv => run_stuck (s := ⟨M.n, M.mode, i, ⟨op, 0, 0, 0, 0, ⟨false, 0, 0, false⟩, 0⟩, ⟨ak, ac, ax, ay, ao⟩, notes, M.L⟩) HX HLEN.out.2.2.1 nv
      have hok1 : FrOk ⟨op, 0, 0, 0, 0, ⟨false, 0, 0, false⟩, 0⟩ := ⟨by simp, by simp⟩
      have hstep := fun W rs (HX : RunHas S0 w0 m a r rs ⟨M.n, M.mode, i, ⟨op, 0, 0, 0, 0, ⟨false, 0, 0, false⟩, 0⟩, ⟨ak, ac, ax, ay, ao⟩, notes, M.L⟩ W) => pq_stepR HX ⟨HLEN.out.2.2.1, hok1⟩
      have hsok := (pq_stepok (s := ⟨M.n, M.mode, i, ⟨op, 0, 0, 0, 0, ⟨false, 0, 0, false⟩, 0⟩, ⟨ak, ac, ax, ay, ao⟩, notes, M.L⟩) HLEN.out.2.2.2 ⟨HLEN.out.2.2.1, hok1⟩).1
      have hsame := pq_step_same ⟨M.n, M.mode, i, ⟨op, 0, 0, 0, 0, ⟨false, 0, 0, false⟩, 0⟩, ⟨ak, ac, ax, ay, ao⟩, notes, M.L⟩
      generalize hS2 : stepR pqA ⟨M.n, M.mode, i, ⟨op, 0, 0, 0, 0, ⟨false, 0, 0, false⟩, 0⟩, ⟨ak, ac, ax, ay, ao⟩, notes, M.L⟩ = s2 at hstep hsok hsame
      have hgoes := goes_of (h := (fromA op h0)) (step_run pqA M i ⟨op, 0, 0, 0, 0, ⟨false, 0, 0, false⟩, 0⟩ ⟨ak, ac, ax, ay, ao⟩ notes hS2)
      clear hS2
      simp only at hgoes
      simp only [rcells] at hstk
      generalize hsb : (!false && stuckA M.L M.n M.mode i 0) = sb at hstk hgoes
      clear hsb hok1
      have HSTK := Lib.hid hstk
      have HSTEP := Lib.hid hstep
      have HGOES := Lib.hid hgoes
      have HSOK := Lib.hid hsok
      have HSAME := Lib.hid hsame
      clear hstk hstep hgoes hsok hsame
      obtain ⟨nv, HT⟩ := HT
      simp only [rcells] at HT
      obtain ⟨y0, y1, y2⟩ := HT.blk1.own
      have hld := rangeAt_list y1
      go_wp2_with (refine wpList_load_mid rfl 52 (.tmp 51) rfl r 0 rfl _ _ hld Try.underlying52 rfl (by kernel_rfl) ?_)
      refine (HSTK.out _ _ HT nv).mono ?_
      rintro e w2 ⟨rfl, HT2⟩
      clear y0 y1 y2 HT hld
      cases sb with
      | true =>
        go_wp2_with fail
        (try simp only [Exit.inBlock, Exit.then]); refine bodyPost_ret (results_none rfl _ _ _) rfl ?_
        refine ⟨rfl, ?_⟩
        rw [HPLAY.out, if_pos trivial, if_pos HM.out, HGOES.out, if_pos trivial]
        exact HBACK.out _ ⟨M.n, M.mode, i, ⟨op, 0, 0, 0, 0, ⟨false, 0, 0, false⟩, 0⟩, ⟨ak, ac, ax, ay, ao⟩, notes, M.L⟩ _ ⟨nv, HT2⟩ ⟨by simp, by simp⟩ rfl rfl rfl
      | false =>
        go_wp2_with fail
        refine (HSTEP.out _ _ ⟨nv, HT2⟩).mono ?_
        rintro e w3 ⟨rfl, HT3⟩
        clear HT2
        obtain ⟨n', mode', task', ⟨o2, line', fa', fb', st', ⟨on', wc', wi', hit'⟩, ret2⟩, ⟨ak', ac', ax', ay', ao'⟩, notes', L'⟩ := s2
        have hsm := HSAME.out
        simp only at hsm
        obtain ⟨q1, q2, q3⟩ := hsm
        subst q1 q2 q3
        have hg2 := HGOES.out
        rw [if_neg (by decide)] at hg2
        have HG2 := Lib.hid hg2
        clear hg2 HSTK HSTEP HGOES HSAME
        cases hov : (⟨M.n, M.mode, i, ⟨o2, line', fa', fb', st', ⟨on', wc', wi', hit'⟩, ret2⟩, ⟨ak', ac', ax', ay', ao'⟩, notes', L'⟩ : Rn).over with
        | false =>
          have HOV := Lib.hid hov
          clear hov
          go_wp2_with fail
          go_end0
          refine ⟨rfl, ?_⟩
          rw [HPLAY.out, if_pos trivial, if_pos HM.out, HG2.out, if_neg (by rw [HOV.out]; decide)]
          exact HBACK.out _ ⟨M.n, M.mode, i, ⟨o2, line', fa', fb', st', ⟨on', wc', wi', hit'⟩, ret2⟩, ⟨ak', ac', ax', ay', ao'⟩, notes', L'⟩ _ HT3 ⟨HSOK.out.2.1, HSOK.out.2.2⟩ rfl rfl rfl
        | true =>
          have HOV := Lib.hid hov
          clear hov
          obtain ⟨nv3, HT3⟩ := HT3
          simp only [rcells] at HT3
          obtain ⟨y0, y1, y2⟩ := HT3.blk1.own
          obtain ⟨z0, z1, z2⟩ := (HT3.at_ 3 rfl).own
          obtain ⟨u0, u1, u2⟩ := (HT3.at_ 4 rfl).own
          have v1 : w3.cell? ⟨hb, i, none⟩ = some (.int .i64 (fromA op h0)) := (u1 i).trans (i64s_set_at HLEN.out.2.1)
          clear u1
          go_wp2_with fail
          refine region_flat_call 22 rfl (by kernel_rfl) (by kernel_rfl) ?_
          simp only [List.take_succ_cons, List.take_zero, List.drop_succ_cons, List.drop_zero, probed, probes, List.nil_append]
          go_wp2_with fail
          rw [only_normal]
          refine half_static (.int .i64 (behindA o2 ret2 (fromA op h0))) rfl rfl (enters_of Try.func67 (by kernel_rfl) rfl) (by simp [Act.eval]) (fun W _ => pq_behind _ _ _ W) ?_
          simp only [probed, probes, List.nil_append]
          go_wp2_with fail
          rw [only_normal]
          rename_i hK
          refine hK _ _ ?_
          clear hK
          have HO1 := (HT3.set4 i (.int .i64 (behindA o2 ret2 (fromA op h0)))).drew
          rw [i64s_set2] at HO1
          refine wp_from (Facts := fun W => Has S0 w0 W (.mem m a L' :: .blk r #[.pointer (some ⟨m, 0, none⟩), .int .i64 M.n, .int .i64 M.mode, .int .i64 i, .int .i64 o2, .int .i64 line', .int .u32 fa', .int .u32 fb', .int .i64 st', .bool on', .int .i64 wc', .int .i64 wi', .bool hit', .int .i64 ret2, .int .i64 ak', .int .i64 ac', .int .u32 ax', .int .u32 ay', .int .u32 ao', nv3] :: .own 112 4 nv3 notes'.length (nts notes') :: .blk x #[.slice (some ⟨b, off, none⟩) k cap, .slice (some ⟨hb, 0, none⟩) k k] :: .blk hb (i64s (M.hold.set i (behindA o2 ret2 (fromA op h0)))).toArray :: rest)) ?_ HO1
          clear HT3 HO1 y0 y1 y2 z0 z1 z2 u0 u2 v1
          intro W2 HW
          obtain ⟨y0, y1, y2⟩ := HW.blk1.own
          go_wp2_with fail
          go_end0
          refine ⟨rfl, ?_⟩
          rw [HPLAY.out, if_pos trivial, if_pos HM.out, HG2.out, if_pos HOV.out]
          refine HBACK.out _ ⟨M.n, M.mode, i, ⟨0, 0, 0, 0, 0, ⟨false, 0, 0, false⟩, 0⟩, ⟨ak', ac', ax', ay', ao'⟩, notes', L'⟩ _ ⟨nv3, ?_⟩ ⟨by simp, by simp⟩ rfl rfl rfl
          have H2 := ((((((((((HW.set1 4 (.int .i64 0)).set1 5 (.int .i64 0)).set1 6 (.int .u32 0)).set1 7 (.int .u32 0)).set1 8 (.int .i64 0)).set1 9 (.bool false)).set1 10 (.int .i64 0)).set1 11 (.int .i64 0)).set1 12 (.bool false)).set1 13 (.int .i64 0))
          simp only [List.setIfInBounds_toArray, List.set_cons_zero, List.set_cons_succ] at H2
          exact H2
  · obtain ⟨nv0, hO3⟩ := hO2
    simp only [rcells] at hO3
    obtain ⟨y0, y1, y2⟩ := hO3.blk1.own
    obtain ⟨z0, z1, z2⟩ := (hO3.at_ 3 rfl).own
    have HO := Lib.hid hO3
    have ho1 : (o1 == 0) = false := by simpa using ho
    have HNO := Lib.hid ho
    clear hO3 ho
    go_enter Try.func33, Try.ntmps33
    refine wp_from (Facts := fun W => W = w) ?_ rfl
    rintro W rfl
    have HT : Opn S0 w0 m a x hb r (.slice (some ⟨b, off, none⟩) k cap) k (M.hold.set i h0) rest ⟨M.n, M.mode, i, ⟨o1, line, fa, fb, st, ⟨on, wc, wi, hit⟩, ret⟩, ⟨ak, ac, ax, ay, ao⟩, notes, M.L⟩ W := ⟨nv0, HO.out⟩
    clear y0 y1 y2
    have hstk := fun W rs (HX : Has S0 w0 W (.mem m a M.L :: rs)) nv => run_stuck (s := ⟨M.n, M.mode, i, ⟨o1, line, fa, fb, st, ⟨on, wc, wi, hit⟩, ret⟩, ⟨ak, ac, ax, ay, ao⟩, notes, M.L⟩) HX HLEN.out.2.2.1 nv
    have hok1 : FrOk ⟨o1, line, fa, fb, st, ⟨on, wc, wi, hit⟩, ret⟩ := HFOK
    have hstep := fun W rs (HX : RunHas S0 w0 m a r rs ⟨M.n, M.mode, i, ⟨o1, line, fa, fb, st, ⟨on, wc, wi, hit⟩, ret⟩, ⟨ak, ac, ax, ay, ao⟩, notes, M.L⟩ W) => pq_stepR HX ⟨HLEN.out.2.2.1, hok1⟩
    have hsok := (pq_stepok (s := ⟨M.n, M.mode, i, ⟨o1, line, fa, fb, st, ⟨on, wc, wi, hit⟩, ret⟩, ⟨ak, ac, ax, ay, ao⟩, notes, M.L⟩) HLEN.out.2.2.2 ⟨HLEN.out.2.2.1, hok1⟩).1
    have hsame := pq_step_same ⟨M.n, M.mode, i, ⟨o1, line, fa, fb, st, ⟨on, wc, wi, hit⟩, ret⟩, ⟨ak, ac, ax, ay, ao⟩, notes, M.L⟩
    generalize hS2 : stepR pqA ⟨M.n, M.mode, i, ⟨o1, line, fa, fb, st, ⟨on, wc, wi, hit⟩, ret⟩, ⟨ak, ac, ax, ay, ao⟩, notes, M.L⟩ = s2 at hstep hsok hsame
    have hgoes := goes_of (h := h0) (step_run pqA M i ⟨o1, line, fa, fb, st, ⟨on, wc, wi, hit⟩, ret⟩ ⟨ak, ac, ax, ay, ao⟩ notes hS2)
    clear hS2
    simp only at hgoes
    simp only [rcells] at hstk
    generalize hsb : (!on && stuckA M.L M.n M.mode i st) = sb at hstk hgoes
    clear hsb hok1
    have HSTK := Lib.hid hstk
    have HSTEP := Lib.hid hstep
    have HGOES := Lib.hid hgoes
    have HSOK := Lib.hid hsok
    have HSAME := Lib.hid hsame
    clear hstk hstep hgoes hsok hsame
    obtain ⟨nv, HT⟩ := HT
    simp only [rcells] at HT
    obtain ⟨y0, y1, y2⟩ := HT.blk1.own
    have hld := rangeAt_list y1
    go_wp2_with (refine wpList_load_mid rfl 52 (.tmp 51) rfl r 0 rfl _ _ hld Try.underlying52 rfl (by kernel_rfl) ?_)
    refine (HSTK.out _ _ HT nv).mono ?_
    rintro e w2 ⟨rfl, HT2⟩
    clear y0 y1 y2 HT hld
    cases sb with
    | true =>
      go_wp2_with fail
      (try simp only [Exit.inBlock, Exit.then]); refine bodyPost_ret (results_none rfl _ _ _) rfl ?_
      refine ⟨rfl, ?_⟩
      rw [HPLAY.out, if_neg HNO.out, HGOES.out, if_pos trivial]
      exact HBACK.out _ ⟨M.n, M.mode, i, ⟨o1, line, fa, fb, st, ⟨on, wc, wi, hit⟩, ret⟩, ⟨ak, ac, ax, ay, ao⟩, notes, M.L⟩ _ ⟨nv, HT2⟩ HFOK rfl rfl rfl
    | false =>
      go_wp2_with fail
      refine (HSTEP.out _ _ ⟨nv, HT2⟩).mono ?_
      rintro e w3 ⟨rfl, HT3⟩
      clear HT2
      obtain ⟨n', mode', task', ⟨o2, line', fa', fb', st', ⟨on', wc', wi', hit'⟩, ret2⟩, ⟨ak', ac', ax', ay', ao'⟩, notes', L'⟩ := s2
      have hsm := HSAME.out
      simp only at hsm
      obtain ⟨q1, q2, q3⟩ := hsm
      subst q1 q2 q3
      have hg2 := HGOES.out
      rw [if_neg (by decide)] at hg2
      have HG2 := Lib.hid hg2
      clear hg2 HSTK HSTEP HGOES HSAME
      cases hov : (⟨M.n, M.mode, i, ⟨o2, line', fa', fb', st', ⟨on', wc', wi', hit'⟩, ret2⟩, ⟨ak', ac', ax', ay', ao'⟩, notes', L'⟩ : Rn).over with
      | false =>
        have HOV := Lib.hid hov
        clear hov
        go_wp2_with fail
        go_end0
        refine ⟨rfl, ?_⟩
        rw [HPLAY.out, if_neg HNO.out, HG2.out, if_neg (by rw [HOV.out]; decide)]
        exact HBACK.out _ ⟨M.n, M.mode, i, ⟨o2, line', fa', fb', st', ⟨on', wc', wi', hit'⟩, ret2⟩, ⟨ak', ac', ax', ay', ao'⟩, notes', L'⟩ _ HT3 ⟨HSOK.out.2.1, HSOK.out.2.2⟩ rfl rfl rfl
      | true =>
        have HOV := Lib.hid hov
        clear hov
        obtain ⟨nv3, HT3⟩ := HT3
        simp only [rcells] at HT3
        obtain ⟨y0, y1, y2⟩ := HT3.blk1.own
        obtain ⟨z0, z1, z2⟩ := (HT3.at_ 3 rfl).own
        obtain ⟨u0, u1, u2⟩ := (HT3.at_ 4 rfl).own
        have v1 : w3.cell? ⟨hb, i, none⟩ = some (.int .i64 h0) := (u1 i).trans (i64s_set_at HLEN.out.2.1)
        clear u1
        go_wp2_with fail
        refine region_flat_call 22 rfl (by kernel_rfl) (by kernel_rfl) ?_
        simp only [List.take_succ_cons, List.take_zero, List.drop_succ_cons, List.drop_zero, probed, probes, List.nil_append]
        go_wp2_with fail
        rw [only_normal]
        refine half_static (.int .i64 (behindA o2 ret2 h0)) rfl rfl (enters_of Try.func67 (by kernel_rfl) rfl) (by simp [Act.eval]) (fun W _ => pq_behind _ _ _ W) ?_
        simp only [probed, probes, List.nil_append]
        go_wp2_with fail
        rw [only_normal]
        rename_i hK
        refine hK _ _ ?_
        clear hK
        have HO1 := (HT3.set4 i (.int .i64 (behindA o2 ret2 h0))).drew
        rw [i64s_set2] at HO1
        refine wp_from (Facts := fun W => Has S0 w0 W (.mem m a L' :: .blk r #[.pointer (some ⟨m, 0, none⟩), .int .i64 M.n, .int .i64 M.mode, .int .i64 i, .int .i64 o2, .int .i64 line', .int .u32 fa', .int .u32 fb', .int .i64 st', .bool on', .int .i64 wc', .int .i64 wi', .bool hit', .int .i64 ret2, .int .i64 ak', .int .i64 ac', .int .u32 ax', .int .u32 ay', .int .u32 ao', nv3] :: .own 112 4 nv3 notes'.length (nts notes') :: .blk x #[.slice (some ⟨b, off, none⟩) k cap, .slice (some ⟨hb, 0, none⟩) k k] :: .blk hb (i64s (M.hold.set i (behindA o2 ret2 h0))).toArray :: rest)) ?_ HO1
        clear HT3 HO1 y0 y1 y2 z0 z1 z2 u0 u2 v1
        intro W2 HW
        obtain ⟨y0, y1, y2⟩ := HW.blk1.own
        go_wp2_with fail
        go_end0
        refine ⟨rfl, ?_⟩
        rw [HPLAY.out, if_neg HNO.out, HG2.out, if_pos HOV.out]
        refine HBACK.out _ ⟨M.n, M.mode, i, ⟨0, 0, 0, 0, 0, ⟨false, 0, 0, false⟩, 0⟩, ⟨ak', ac', ax', ay', ao'⟩, notes', L'⟩ _ ⟨nv3, ?_⟩ ⟨by simp, by simp⟩ rfl rfl rfl
        have H2 := ((((((((((HW.set1 4 (.int .i64 0)).set1 5 (.int .i64 0)).set1 6 (.int .u32 0)).set1 7 (.int .u32 0)).set1 8 (.int .i64 0)).set1 9 (.bool false)).set1 10 (.int .i64 0)).set1 11 (.int .i64 0)).set1 12 (.bool false)).set1 13 (.int .i64 0))
        simp only [List.setIfInBounds_toArray, List.set_cons_zero, List.set_cons_succ] at H2
        exact H2

end Go.Proofs.Ytbcppehpfckgoaa.Z

/- Law 14: the statement PqTogether: its walk. Written by genmat.py. -/
set_option linter.unusedVariables false
set_option linter.unusedSimpArgs false
namespace Go.Proofs.Ytbcppehpfckgoaa.Z
open Go.RowKit

set_option maxHeartbeats 1600000 in
set_option maxRecDepth 100000 in
theorem pq_whole {S0 : List Nat} {w0 w : World} {m a x hb bx : Nat} {rs : List Res} {M : Mt} (H : MatchHas S0 w0 m a x hb (.blk bx #[.pointer (some ⟨x, 0, none⟩)] :: rs) M w) {i : Nat} (hi : i < M.fs.length) (op : Int) :
    Calls Try.prog 35 #[.int .i64 i, .int .i64 op, .pointer (some ⟨bx, 0, none⟩)] w fun e w' => e = .returned (.tuple #[]) ∧ MatchHas S0 w0 m a x hb (.blk bx #[.pointer (some ⟨x, 0, none⟩)] :: rs) (wholeA pqA M i op) w' := by
  have hB := H.behind 0 rfl
  obtain ⟨b0, b1, b2⟩ := hB.own
  generalize hR : wholeA pqA M i op = R
  have HR := Lib.hid hR
  have HH := Lib.hid H
  clear H hB hR
  go_enter Try.func35, Try.ntmps35
  go_wp2_with fail
  refine (pq_play HH.out hi op).mono ?_
  rintro e w1 ⟨rfl, H1⟩
  clear b0 b1 b2
  have HV := Lib.hid H1
  clear H1
  go_wp2_with fail
  go_loopw [5] (fun c wr => ∃ (j : Nat) (M' : Mt), j ≤ 200 ∧ c = .int .i64 j ∧ MatchHas S0 w0 m a x hb (.blk bx #[.pointer (some ⟨x, 0, none⟩)] :: rs) M' wr ∧ i < M'.fs.length ∧ whileA pqA i (200 - j) M' = R) (fun c _ => 200 - (intOf c).toNat)
  case atStart => exact ⟨0, _, by omega, rfl, HV.out, by rw [(play_same _ _ _ _).2.2.1]; exact hi, HR.out⟩
  case round =>
    obtain ⟨j, M', hj, rfl, hH, hi', hw⟩ := hrel
    clear HV HH HR
    have hi1 : (0 : Int) ≤ (j : Int) := Int.natCast_nonneg _
    by_cases hj2 : j < 200
    · obtain ⟨q, hq⟩ : ∃ q, 200 - j = q + 1 := ⟨200 - j - 1, by omega⟩
      rw [hq] at hw
      unfold whileA at hw
      have hB := hH.behind 0 rfl
      obtain ⟨b0, b1, b2⟩ := hB.own
      obtain ⟨r, b, off, cap, z0, z1, z2, z3, z4, z5⟩ := hH.look hi'
      have hi2 : (j : Int) < 200 := by omega
      have hi3 : (0 : Int) ≤ (i : Int) := Int.natCast_nonneg _
      have hi4 : (i : Int) < (M'.fs.length : Int) := by omega
      have HI := Lib.hid hi'
      have HH := Lib.hid hH
      generalize hk : M'.fs.length = k at z1 hi4
      clear hi' hH hB hk
      by_cases ho : (M'.fs.getD i Fr.zero).op = 0
      · rw [if_pos ho] at hw
        rw [ho] at z5
        have HW := Lib.hid hw
        clear hw ho
        go_wp2_with fail
        go_end0
        exact ⟨rfl, by rw [← HW.out]; exact HH.out⟩
      · rw [if_neg ho] at hw
        have hne : ((M'.fs.getD i Fr.zero).op != 0) = true := by simpa using ho
        generalize (M'.fs.getD i Fr.zero).op = oo at z5 hne
        have HW := Lib.hid hw
        clear hw ho
        go_wp2_with fail
        refine (pq_play HH.out HI.out 0).mono ?_
        rintro e w2 ⟨rfl, H2⟩
        go_wp2
        go_roundw
        case rel => exact ⟨j + 1, _, by omega, by go_num, H2, by rw [(play_same _ _ _ _).2.2.1]; exact HI.out, by rw [show 200 - (j + 1) = q from by omega]; exact HW.out⟩
        case measure => simp [intOf]; omega
    · have hj3 : j = 200 := by omega
      subst hj3
      rw [Nat.sub_self] at hw
      have hw2 : M' = R := hw
      subst hw2
      have HH := Lib.hid hH
      clear hH hw hi'
      have hi2 : ¬ (((200 : Nat) : Int) < 200) := by decide
      go_wp2_with fail
      go_end0
      exact ⟨rfl, HH.out⟩

set_option maxHeartbeats 3200000 in
set_option maxRecDepth 100000 in
theorem pq_together_walk (n mode base : Int) (try_ : Bool) (w : World) (hb : 0 ≤ base ∧ base < 4294967296) (hn : 0 ≤ n ∧ n < 256) (hm : 0 ≤ mode ∧ mode < 256) (op : Int) (hop : op = if try_ then 5 else 1)
    (hT : ∀ k : Nat, (k : Int) = 2 + n % 15 → TogetherOk pqA k op (Mt.start k (1 + mode % 2) (own3 base ++ List.replicate ((8 + 4 * (k : Int)).toNat - 4) 0))) :
    Calls Try.prog 11 #[.int .u8 n, .int .u8 mode, .int .u32 base, .bool try_] w fun e w' => e = .returned (.bool true) ∧ Touch [] w w' := by
  obtain ⟨q, hk⟩ : ∃ q : Nat, 2 + n % 15 = (q : Int) + 1 := ⟨(1 + n % 15).toNat, by omega⟩
  obtain ⟨d, hd⟩ : ∃ d : Int, 1 + mode % 2 = d := ⟨_, rfl⟩
  have hT := hT (q + 1) (by omega)
  have hbg := fun W rs (HX : Has [] w W rs) => pq_begun HX (q + 1) (by omega) (by omega) d base hb
  rw [hd] at hT
  generalize own3 base ++ List.replicate ((8 + 4 * ((q + 1 : Nat) : Int)).toNat - 4) 0 = Z at hT hbg
  rw [show ((q + 1 : Nat) : Int) = (q : Int) + 1 from by omega] at hbg
  have hk1 : 1 ≤ q := by omega
  have hk2 : q ≤ 15 := by omega
  have HT := Lib.hid hT
  have HBG := Lib.hid hbg
  have HK := Lib.hid hk
  have HD := Lib.hid hd
  have hq1 : (1 : Int) ≤ (q : Int) := by omega
  have hq2 : (q : Int) ≤ 15 := by omega
  clear hT hbg hk hd
  cases try_ with
  | false =>
    subst hop
    simp only [Bool.false_eq_true, if_false] at HT
    go_enter Try.func11, Try.ntmps11
    go_wp2_with fail
    rw [HK.out, HD.out]
    refine (HBG.out _ _ (Has.start [] _)).mono ?_
    rintro e1 w1 ⟨x, m, a, hbk, p, g, cap, rfl, H1⟩
    go_wp2_with fail
    have H2 := H1.box rfl #[.pointer (some ⟨x, 0, none⟩)] 77
    refine wp_from (Facts := fun W => MatchHas [] w m a x hbk (.blk w1.heap.size #[.pointer (some ⟨x, 0, none⟩)] :: .row p g cap Z :: []) (readsA pqA 1 (Mt.start (q + 1) d Z) 0) W) ?_ H2
    clear H1 H2
    intro W HW
    generalize w1.heap.size = bx at HW ⊢
    have HV := Lib.hid HW
    clear HW
    go_loopw [13] (fun c wr => ∃ j : Nat, j ≤ q ∧ c = .int .i64 j ∧ MatchHas [] w m a x hbk (.blk bx #[.pointer (some ⟨x, 0, none⟩)] :: .row p g cap Z :: []) (readsA pqA 1 (Mt.start (q + 1) d Z) j) wr) (fun c _ => q - (intOf c).toNat)
    case atStart => exact ⟨0, Nat.zero_le _, rfl, HV.out⟩
    case round =>
      obtain ⟨j, hj, rfl, hR⟩ := hrel
      clear HV
      have hi1 : (0 : Int) ≤ (j : Int) := Int.natCast_nonneg _
      have hlen := (reads_len pqA 1 (Mt.start (q + 1) d Z) j).trans (show (Mt.start (q + 1) d Z).fs.length = q + 1 by simp [Mt.start])
      by_cases hjq : j < q
      · have hi2 : (j : Int) < (q : Int) := by omega
        have hrd : (((wholeA pqA (readsA pqA 1 (Mt.start (q + 1) d Z) j) j 1).many 1 : Nat) : Int) = (j : Int) + 1 := by
          have := HT.out.reads j (by omega)
          unfold readsA at this
          omega
        obtain ⟨b0, b1, b2⟩ := (hR.behind 0 rfl).own
        have HRD := Lib.hid hrd
        have HR := Lib.hid hR
        have HLEN := Lib.hid hlen
        clear hrd hR hlen
        go_wp2_with fail
        refine (pq_whole HR.out (by rw [HLEN.out]; omega) 1).mono ?_
        rintro e2 w2 ⟨rfl, H2⟩
        clear b0 b1 b2
        obtain ⟨b0, b1, b2⟩ := (H2.behind 0 rfl).own
        have HR2 := Lib.hid H2
        clear H2
        go_wp2_with fail
        refine (pq_many HR2.out 1).mono ?_
        rintro e3 w3 ⟨rfl, rfl⟩
        rw [HRD.out]
        go_wp2
        go_roundw
        case rel => exact ⟨j + 1, by omega, by go_num, HR2.out⟩
        case measure => simp [intOf]; omega
      · have hjq2 : j = q := by omega
        subst hjq2
        have HR := Lib.hid hR
        clear hR hlen
        have hi2 : (j : Int) ≤ (j : Int) := Int.le_refl _
        go_wp2_with fail
        have HV := HR
        clear HR
        go_loopw [14] (fun c wr => ∃ i : Nat, i ≤ j ∧ c = .int .i64 i ∧ MatchHas [] w m a x hbk (.blk bx #[.pointer (some ⟨x, 0, none⟩)] :: .row p g cap Z :: []) (givesA pqA (j + 1) (readsA pqA 1 (Mt.start (j + 1) d Z) j) i) wr) (fun c _ => j - (intOf c).toNat)
        case atStart => exact ⟨0, Nat.zero_le _, rfl, HV.out⟩
        case round =>
          obtain ⟨i, hi, rfl, hR⟩ := hrel
          clear HV
          have hi1 : (0 : Int) ≤ (i : Int) := Int.natCast_nonneg _
          have hlen := (gives_len pqA (j + 1) (readsA pqA 1 (Mt.start (j + 1) d Z) j) i).trans ((reads_len pqA 1 (Mt.start (j + 1) d Z) j).trans (show (Mt.start (j + 1) d Z).fs.length = j + 1 by simp [Mt.start]))
          by_cases hij : i < j
          · have hi2 : (i : Int) < (j : Int) := by omega
            have htr := HT.out.tried i (by omega)
            obtain ⟨b0, b1, b2⟩ := (hR.behind 0 rfl).own
            have HTR := Lib.hid htr
            have HR := Lib.hid hR
            have HLEN := Lib.hid hlen
            clear htr hR hlen
            go_wp2_with fail
            refine (pq_whole HR.out (by rw [HLEN.out]; omega) 6).mono ?_
            rintro e2 w2 ⟨rfl, H2⟩
            clear b0 b1 b2
            obtain ⟨b0, b1, b2⟩ := (H2.behind 0 rfl).own
            obtain ⟨x0, x1, x2, x3⟩ := H2.held
            rw [whole_len, HLEN.out] at x1 x3
            have hh := x3 j (by omega)
            have e4 : (wholeA pqA (givesA pqA (j + 1) (readsA pqA 1 (Mt.start (j + 1) d Z) j) i) j 6).hold.getD j 0 = 0 := HTR.out
            rw [e4] at hh
            have HR2 := Lib.hid H2
            have hjk : (j : Int) < ((j + 1 : Nat) : Int) := by omega
            generalize j + 1 = kk at x1 hjk
            clear H2 x3 e4
            go_wp2_with fail
            clear x0 x1 x2 hh b0 b1 b2 hjk
            refine (pq_whole HR2.out (by rw [whole_len, HLEN.out]; omega) 2).mono ?_
            rintro e3 w3 ⟨rfl, H3⟩
            go_wp2
            go_roundw
            case rel => exact ⟨i + 1, by omega, by go_num, H3⟩
            case measure => simp [intOf]; omega
          · have hij2 : i = j := by omega
            subst hij2
            have hl := HT.out.last
            obtain ⟨b0, b1, b2⟩ := (hR.behind 0 rfl).own
            have HLA := Lib.hid hl
            have HR := Lib.hid hR
            have HLEN := Lib.hid hlen
            clear hl hR hlen
            have hi2 : (i : Int) ≤ (i : Int) := Int.le_refl _
            go_wp2_with fail
            refine (pq_whole HR.out (by rw [HLEN.out]; omega) 6).mono ?_
            rintro e2 w2 ⟨rfl, H2⟩
            clear b0 b1 b2
            obtain ⟨b0, b1, b2⟩ := (H2.behind 0 rfl).own
            obtain ⟨x0, x1, x2, x3⟩ := H2.held
            rw [whole_len, HLEN.out] at x1 x3
            have hh := x3 i (by omega)
            have e4 : (wholeA pqA (givesA pqA (i + 1) (readsA pqA 1 (Mt.start (i + 1) d Z) i) i) i 6).hold.getD i 0 = 2 := HLA.out.1
            have e5 : (((wholeA pqA (givesA pqA (i + 1) (readsA pqA 1 (Mt.start (i + 1) d Z) i) i) i 6).many 1 : Nat) : Int) = 0 := by have := HLA.out.2; simp only [Nat.add_sub_cancel] at this; omega
            rw [e4] at hh
            have HE5 := Lib.hid e5
            have HR2 := Lib.hid H2
            have hjk : (i : Int) < ((i + 1 : Nat) : Int) := by omega
            generalize i + 1 = kk at x1 hjk
            clear H2 x3 e4 e5
            go_wp2_with fail
            refine (pq_many HR2.out 1).mono ?_
            rintro e3 w3 ⟨rfl, rfl⟩
            rw [HE5.out]
            go_wp2_with fail
            refine (pq_awake _).mono ?_
            rintro e4 w4 ⟨rfl, t4⟩
            go_wp2
            go_ret
            exact ⟨rfl, (HR2.out.grow t4).touch⟩
  | true =>
    subst hop
    simp only [if_true] at HT
    go_enter Try.func11, Try.ntmps11
    go_wp2_with fail
    rw [HK.out, HD.out]
    refine (HBG.out _ _ (Has.start [] _)).mono ?_
    rintro e1 w1 ⟨x, m, a, hbk, p, g, cap, rfl, H1⟩
    go_wp2_with fail
    have H2 := H1.box rfl #[.pointer (some ⟨x, 0, none⟩)] 77
    refine wp_from (Facts := fun W => MatchHas [] w m a x hbk (.blk w1.heap.size #[.pointer (some ⟨x, 0, none⟩)] :: .row p g cap Z :: []) (readsA pqA 5 (Mt.start (q + 1) d Z) 0) W) ?_ H2
    clear H1 H2
    intro W HW
    generalize w1.heap.size = bx at HW ⊢
    have HV := Lib.hid HW
    clear HW
    go_loopw [13] (fun c wr => ∃ j : Nat, j ≤ q ∧ c = .int .i64 j ∧ MatchHas [] w m a x hbk (.blk bx #[.pointer (some ⟨x, 0, none⟩)] :: .row p g cap Z :: []) (readsA pqA 5 (Mt.start (q + 1) d Z) j) wr) (fun c _ => q - (intOf c).toNat)
    case atStart => exact ⟨0, Nat.zero_le _, rfl, HV.out⟩
    case round =>
      obtain ⟨j, hj, rfl, hR⟩ := hrel
      clear HV
      have hi1 : (0 : Int) ≤ (j : Int) := Int.natCast_nonneg _
      have hlen := (reads_len pqA 5 (Mt.start (q + 1) d Z) j).trans (show (Mt.start (q + 1) d Z).fs.length = q + 1 by simp [Mt.start])
      by_cases hjq : j < q
      · have hi2 : (j : Int) < (q : Int) := by omega
        have hrd : (((wholeA pqA (readsA pqA 5 (Mt.start (q + 1) d Z) j) j 5).many 1 : Nat) : Int) = (j : Int) + 1 := by
          have := HT.out.reads j (by omega)
          unfold readsA at this
          omega
        obtain ⟨b0, b1, b2⟩ := (hR.behind 0 rfl).own
        have HRD := Lib.hid hrd
        have HR := Lib.hid hR
        have HLEN := Lib.hid hlen
        clear hrd hR hlen
        go_wp2_with fail
        refine (pq_whole HR.out (by rw [HLEN.out]; omega) 5).mono ?_
        rintro e2 w2 ⟨rfl, H2⟩
        clear b0 b1 b2
        obtain ⟨b0, b1, b2⟩ := (H2.behind 0 rfl).own
        have HR2 := Lib.hid H2
        clear H2
        go_wp2_with fail
        refine (pq_many HR2.out 1).mono ?_
        rintro e3 w3 ⟨rfl, rfl⟩
        rw [HRD.out]
        go_wp2
        go_roundw
        case rel => exact ⟨j + 1, by omega, by go_num, HR2.out⟩
        case measure => simp [intOf]; omega
      · have hjq2 : j = q := by omega
        subst hjq2
        have HR := Lib.hid hR
        clear hR hlen
        have hi2 : (j : Int) ≤ (j : Int) := Int.le_refl _
        go_wp2_with fail
        have HV := HR
        clear HR
        go_loopw [14] (fun c wr => ∃ i : Nat, i ≤ j ∧ c = .int .i64 i ∧ MatchHas [] w m a x hbk (.blk bx #[.pointer (some ⟨x, 0, none⟩)] :: .row p g cap Z :: []) (givesA pqA (j + 1) (readsA pqA 5 (Mt.start (j + 1) d Z) j) i) wr) (fun c _ => j - (intOf c).toNat)
        case atStart => exact ⟨0, Nat.zero_le _, rfl, HV.out⟩
        case round =>
          obtain ⟨i, hi, rfl, hR⟩ := hrel
          clear HV
          have hi1 : (0 : Int) ≤ (i : Int) := Int.natCast_nonneg _
          have hlen := (gives_len pqA (j + 1) (readsA pqA 5 (Mt.start (j + 1) d Z) j) i).trans ((reads_len pqA 5 (Mt.start (j + 1) d Z) j).trans (show (Mt.start (j + 1) d Z).fs.length = j + 1 by simp [Mt.start]))
          by_cases hij : i < j
          · have hi2 : (i : Int) < (j : Int) := by omega
            have htr := HT.out.tried i (by omega)
            obtain ⟨b0, b1, b2⟩ := (hR.behind 0 rfl).own
            have HTR := Lib.hid htr
            have HR := Lib.hid hR
            have HLEN := Lib.hid hlen
            clear htr hR hlen
            go_wp2_with fail
            refine (pq_whole HR.out (by rw [HLEN.out]; omega) 6).mono ?_
            rintro e2 w2 ⟨rfl, H2⟩
            clear b0 b1 b2
            obtain ⟨b0, b1, b2⟩ := (H2.behind 0 rfl).own
            obtain ⟨x0, x1, x2, x3⟩ := H2.held
            rw [whole_len, HLEN.out] at x1 x3
            have hh := x3 j (by omega)
            have e4 : (wholeA pqA (givesA pqA (j + 1) (readsA pqA 5 (Mt.start (j + 1) d Z) j) i) j 6).hold.getD j 0 = 0 := HTR.out
            rw [e4] at hh
            have HR2 := Lib.hid H2
            have hjk : (j : Int) < ((j + 1 : Nat) : Int) := by omega
            generalize j + 1 = kk at x1 hjk
            clear H2 x3 e4
            go_wp2_with fail
            clear x0 x1 x2 hh b0 b1 b2 hjk
            refine (pq_whole HR2.out (by rw [whole_len, HLEN.out]; omega) 2).mono ?_
            rintro e3 w3 ⟨rfl, H3⟩
            go_wp2
            go_roundw
            case rel => exact ⟨i + 1, by omega, by go_num, H3⟩
            case measure => simp [intOf]; omega
          · have hij2 : i = j := by omega
            subst hij2
            have hl := HT.out.last
            obtain ⟨b0, b1, b2⟩ := (hR.behind 0 rfl).own
            have HLA := Lib.hid hl
            have HR := Lib.hid hR
            have HLEN := Lib.hid hlen
            clear hl hR hlen
            have hi2 : (i : Int) ≤ (i : Int) := Int.le_refl _
            go_wp2_with fail
            refine (pq_whole HR.out (by rw [HLEN.out]; omega) 6).mono ?_
            rintro e2 w2 ⟨rfl, H2⟩
            clear b0 b1 b2
            obtain ⟨b0, b1, b2⟩ := (H2.behind 0 rfl).own
            obtain ⟨x0, x1, x2, x3⟩ := H2.held
            rw [whole_len, HLEN.out] at x1 x3
            have hh := x3 i (by omega)
            have e4 : (wholeA pqA (givesA pqA (i + 1) (readsA pqA 5 (Mt.start (i + 1) d Z) i) i) i 6).hold.getD i 0 = 2 := HLA.out.1
            have e5 : (((wholeA pqA (givesA pqA (i + 1) (readsA pqA 5 (Mt.start (i + 1) d Z) i) i) i 6).many 1 : Nat) : Int) = 0 := by have := HLA.out.2; simp only [Nat.add_sub_cancel] at this; omega
            rw [e4] at hh
            have HE5 := Lib.hid e5
            have HR2 := Lib.hid H2
            have hjk : (i : Int) < ((i + 1 : Nat) : Int) := by omega
            generalize i + 1 = kk at x1 hjk
            clear H2 x3 e4 e5
            go_wp2_with fail
            refine (pq_many HR2.out 1).mono ?_
            rintro e3 w3 ⟨rfl, rfl⟩
            rw [HE5.out]
            go_wp2_with fail
            refine (pq_awake _).mono ?_
            rintro e4 w4 ⟨rfl, t4⟩
            go_wp2
            go_ret
            exact ⟨rfl, (HR2.out.grow t4).touch⟩

end Go.Proofs.Ytbcppehpfckgoaa.Z

/- A lock's operations, each whole, from words to words: by itself, tried, many that read. No lock in sight. -/
set_option linter.unusedVariables false
set_option linter.unusedSimpArgs false
namespace Go.Proofs.Ytbcppehpfckgoaa.Z
open Go.RowKit

theorem alone_does {g : Rn → Rn} : ∀ {n : Nat} {s s' : Rn}, Does g n s s' → ∀ {m : Nat}, n ≤ m → aloneA g m s = (s'.f.ret, s') := by
  intro n s s' h
  induction h with
  | @last s s' hf hs ho =>
    intro m hm
    obtain ⟨m, rfl⟩ : ∃ j, m = j + 1 := ⟨m - 1, by omega⟩
    show (if (stepR g s).over then ((stepR g s).f.ret, stepR g s) else aloneA g m (stepR g s)) = _
    rw [hs, if_pos ho]
  | @more n s s1 s' hf hs ho hop hd ih =>
    intro m hm
    obtain ⟨m, rfl⟩ : ∃ j, m = j + 1 := ⟨m - 1, by omega⟩
    show (if (stepR g s).over then ((stepR g s).f.ret, stepR g s) else aloneA g m (stepR g s)) = _
    rw [hs, if_neg (by rw [ho]; decide)]
    exact ih (by omega)

/-- An operation of a task: from these words it ends so, and leaves those. -/
def OpDoes (g : Rn → Rn) (k : Nat) (d : Int) (t : Nat) (op ret : Int) (P Q : List Int → Prop) : Prop :=
  ∀ L, P L → ∃ n s', n ≤ 40 + 8 * k ∧ Does g n (startT k d t op L) s' ∧ s'.f.ret = ret ∧ s'.f.op = op ∧ Q s'.L

/-- What a lock's operations do: so many read; one writes. -/
structure Ops (g : Rn → Rn) (k : Nat) (d : Int) (P : Nat → List Int → Prop) (W : List Int → Prop) : Prop where
  same : Same g
  read : ∀ t j op, t < k → j ≤ 15 → (op = 1 ∨ op = 5) → OpDoes g k d t op 2 (P j) (P (j + 1))
  give : ∀ t j, t < k → j ≤ 15 → OpDoes g k d t 2 2 (P (j + 1)) (P j)
  lock : ∀ t, t < k → OpDoes g k d t 3 2 (P 0) W
  unlock : ∀ t, t < k → OpDoes g k d t 4 2 W (P 0)
  tryw : ∀ t, t < k → OpDoes g k d t 6 2 (P 0) W
  no : ∀ t j, t < k → j ≤ 15 → OpDoes g k d t 6 1 (P (j + 1)) (P (j + 1))
  noW : ∀ t, t < k → OpDoes g k d t 6 1 W W
  norW : ∀ t, t < k → OpDoes g k d t 5 1 W W
  down : ∀ t, t < k → OpDoes g k d t 8 2 W (P 1)
  up : ∀ t, t < k → OpDoes g k d t 7 2 (P 1) W

theorem Ops.together {g : Rn → Rn} {k : Nat} {d op : Int} {P : Nat → List Int → Prop} {W : List Int → Prop} (O : Ops g k d P W) (h1 : 2 ≤ k) (h2 : k ≤ 16) (hop : op = 1 ∨ op = 5) : Together g k d op P := by
  refine ⟨O.same, fun i j L hi hj hP => ?_, fun i j L hi hj hP => ?_, fun i j L hi hj hP => ?_, fun i L hi hP => ?_⟩
  · obtain ⟨n, s', h3, h4, h5, h6, h7⟩ := O.read i j op hi (by omega) hop L hP
    exact ⟨n, s', by omega, h4, h5, by rw [h6]; exact hop, h7⟩
  · obtain ⟨n, s', h3, h4, h5, h6, h7⟩ := O.no i j hi (by omega) L hP
    exact ⟨n, s', by omega, h4, by rw [h5]; decide, h7⟩
  · obtain ⟨n, s', h3, h4, h5, h6, h7⟩ := O.give i j hi (by omega) L hP
    exact ⟨n, s', by omega, h4, h6, h7⟩
  · obtain ⟨n, s', h3, h4, h5, h6, h7⟩ := O.tryw i hi L hP
    exact ⟨n, s', by omega, h4, h5, h6⟩

theorem OpDoes.alone {g : Rn → Rn} {k : Nat} {d op ret : Int} {P Q : List Int → Prop} (h : OpDoes g k d 0 op ret P Q) {most : Nat} (hm : 40 + 8 * k ≤ most) {L : List Int} (hP : P L) : ∃ s, aloneA g most (start k d op L) = (ret, s) ∧ Q s.L := by
  obtain ⟨n, s', h3, h4, h5, h6, h7⟩ := h L hP
  refine ⟨s', ?_, h7⟩
  rw [← h5]
  exact alone_does h4 (by omega)

theorem runs_nil {g : Rn → Rn} {n d : Int} {most : Nat} {Q R : List Int → Prop} (h : ∀ L, Q L → R L) : ∀ L, Q L → ∃ E, Runs g n d most [] L E ∧ R E := fun L hL => ⟨L, rfl, h L hL⟩
theorem runs_cons {g : Rn → Rn} {k : Nat} {d op : Int} {most : Nat} {P Q R : List Int → Prop} {os : List Int} (h : OpDoes g k d 0 op 2 P Q) (hm : 40 + 8 * k ≤ most) (hr : ∀ L, Q L → ∃ E, Runs g k d most os L E ∧ R E) : ∀ L, P L → ∃ E, Runs g k d most (op :: os) L E ∧ R E := by
  intro L hL
  obtain ⟨s, h1, h2⟩ := h.alone hm hL
  obtain ⟨E, h3, h4⟩ := hr s.L h2
  exact ⟨E, ⟨s, h1, h3⟩, h4⟩

/-- The lists of operations that the statements ask. -/
def opLists : List (List Int) := [[1, 2], [3, 4], [5, 2], [6, 4], [3, 8, 2], [1, 7, 4], [6, 8, 7, 4]]
theorem Ops.runs {g : Rn → Rn} {k : Nat} {d : Int} {P : Nat → List Int → Prop} {W R : List Int → Prop} (O : Ops g k d P W) (h1 : 1 ≤ k) {most : Nat} (hm : 40 + 8 * k ≤ most) (hR : ∀ L, P 0 L → R L) {Z : List Int} (hZ : P 0 Z) :
    ∀ l, l ∈ opLists → ∃ E, Runs g k d most l Z E ∧ R E := by
  have hk : 0 < k := h1
  have e := runs_nil (g := g) (n := k) (d := d) (most := most) hR
  have rd := fun op h => O.read 0 0 op hk (by omega) h
  intro l hl
  simp only [opLists, List.mem_cons, List.not_mem_nil, or_false] at hl
  rcases hl with rfl | rfl | rfl | rfl | rfl | rfl | rfl
  · exact runs_cons (rd 1 (Or.inl rfl)) hm (runs_cons (O.give 0 0 hk (by omega)) hm e) Z hZ
  · exact runs_cons (O.lock 0 hk) hm (runs_cons (O.unlock 0 hk) hm e) Z hZ
  · exact runs_cons (rd 5 (Or.inr rfl)) hm (runs_cons (O.give 0 0 hk (by omega)) hm e) Z hZ
  · exact runs_cons (O.tryw 0 hk) hm (runs_cons (O.unlock 0 hk) hm e) Z hZ
  · exact runs_cons (O.lock 0 hk) hm (runs_cons (O.down 0 hk) hm (runs_cons (O.give 0 0 hk (by omega)) hm e)) Z hZ
  · exact runs_cons (rd 1 (Or.inl rfl)) hm (runs_cons (O.up 0 hk) hm (runs_cons (O.unlock 0 hk) hm e)) Z hZ
  · exact runs_cons (O.tryw 0 hk) hm (runs_cons (O.down 0 hk) hm (runs_cons (O.up 0 hk) hm (runs_cons (O.unlock 0 hk) hm e))) Z hZ

/-- What one holds, what is tried, what that tells, what gives back. -/
def opTry : List (Int × Int × Int × Int) := [(3, 5, 1, 4), (3, 6, 1, 4), (1, 6, 1, 2), (1, 5, 2, 2)]
theorem Ops.tries {g : Rn → Rn} {k : Nat} {d : Int} {P : Nat → List Int → Prop} {W : List Int → Prop} (O : Ops g k d P W) (h1 : 1 ≤ k) {most : Nat} (hm : 40 + 8 * k ≤ most) {Z : List Int} (hZ : P 0 Z) :
    ∀ x0 x1 x2 x3, (x0, x1, x2, x3) ∈ opTry → ∃ s1 s2 s3, aloneA g most (start k d x0 Z) = (2, s1) ∧ aloneA g most (start k d x1 s1.L) = (x2, s2) ∧
      aloneA g most (start k d x3 s2.L) = (2, s3) ∧ (x2 = 1 → ∃ s4, aloneA g most (start k d 6 s3.L) = (2, s4)) := by
  have hk : 0 < k := h1
  intro x0 x1 x2 x3 hx
  simp only [opTry, List.mem_cons, List.not_mem_nil, or_false, Prod.mk.injEq] at hx
  rcases hx with ⟨rfl, rfl, rfl, rfl⟩ | ⟨rfl, rfl, rfl, rfl⟩ | ⟨rfl, rfl, rfl, rfl⟩ | ⟨rfl, rfl, rfl, rfl⟩
  · obtain ⟨s1, a1, b1⟩ := (O.lock 0 hk).alone hm hZ
    obtain ⟨s2, a2, b2⟩ := (O.norW 0 hk).alone hm b1
    obtain ⟨s3, a3, b3⟩ := (O.unlock 0 hk).alone hm b2
    obtain ⟨s4, a4, b4⟩ := (O.tryw 0 hk).alone hm b3
    exact ⟨s1, s2, s3, a1, a2, a3, fun _ => ⟨s4, a4⟩⟩
  · obtain ⟨s1, a1, b1⟩ := (O.lock 0 hk).alone hm hZ
    obtain ⟨s2, a2, b2⟩ := (O.noW 0 hk).alone hm b1
    obtain ⟨s3, a3, b3⟩ := (O.unlock 0 hk).alone hm b2
    obtain ⟨s4, a4, b4⟩ := (O.tryw 0 hk).alone hm b3
    exact ⟨s1, s2, s3, a1, a2, a3, fun _ => ⟨s4, a4⟩⟩
  · obtain ⟨s1, a1, b1⟩ := (O.read 0 0 1 hk (by omega) (Or.inl rfl)).alone hm hZ
    obtain ⟨s2, a2, b2⟩ := (O.no 0 0 hk (by omega)).alone hm b1
    obtain ⟨s3, a3, b3⟩ := (O.give 0 0 hk (by omega)).alone hm b2
    obtain ⟨s4, a4, b4⟩ := (O.tryw 0 hk).alone hm b3
    exact ⟨s1, s2, s3, a1, a2, a3, fun _ => ⟨s4, a4⟩⟩
  · obtain ⟨s1, a1, b1⟩ := (O.read 0 0 1 hk (by omega) (Or.inl rfl)).alone hm hZ
    obtain ⟨s2, a2, b2⟩ := (O.read 0 1 5 hk (by omega) (Or.inr rfl)).alone hm b1
    obtain ⟨s3, a3, b3⟩ := (O.give 0 1 hk (by omega)).alone hm b2
    exact ⟨s1, s2, s3, a1, a2, a3, fun h => absurd h (by decide)⟩

end Go.Proofs.Ytbcppehpfckgoaa.Z

/- A lock's operations, each whole, where the words tell who writes. No lock in sight. -/
set_option linter.unusedVariables false
set_option linter.unusedSimpArgs false
namespace Go.Proofs.Ytbcppehpfckgoaa.Z
open Go.RowKit

/-- What a lock's operations do: so many read; one writes. -/
structure OpsT (g : Rn → Rn) (k : Nat) (d : Int) (P : Nat → List Int → Prop) (W : Nat → List Int → Prop) : Prop where
  same : Same g
  read : ∀ t j op, t < k → j ≤ 15 → (op = 1 ∨ op = 5) → OpDoes g k d t op 2 (P j) (P (j + 1))
  give : ∀ t j, t < k → j ≤ 15 → OpDoes g k d t 2 2 (P (j + 1)) (P j)
  lock : ∀ t, t < k → OpDoes g k d t 3 2 (P 0) (W t)
  unlock : ∀ t, t < k → OpDoes g k d t 4 2 (W t) (P 0)
  tryw : ∀ t, t < k → OpDoes g k d t 6 2 (P 0) (W t)
  no : ∀ t j, t < k → j ≤ 15 → OpDoes g k d t 6 1 (P (j + 1)) (P (j + 1))
  noW : ∀ t i, t < k → i < k → OpDoes g k d t 6 1 (W i) (W i)
  norW : ∀ t i, t < k → i < k → OpDoes g k d t 5 1 (W i) (W i)
  down : ∀ t, t < k → OpDoes g k d t 8 2 (W t) (P 1)
  up : ∀ t, t < k → OpDoes g k d t 7 2 (P 1) (W t)

theorem OpsT.together {g : Rn → Rn} {k : Nat} {d op : Int} {P : Nat → List Int → Prop} {W : Nat → List Int → Prop} (O : OpsT g k d P W) (h1 : 2 ≤ k) (h2 : k ≤ 16) (hop : op = 1 ∨ op = 5) : Together g k d op P := by
  refine ⟨O.same, fun i j L hi hj hP => ?_, fun i j L hi hj hP => ?_, fun i j L hi hj hP => ?_, fun i L hi hP => ?_⟩
  · obtain ⟨n, s', h3, h4, h5, h6, h7⟩ := O.read i j op hi (by omega) hop L hP
    exact ⟨n, s', by omega, h4, h5, by rw [h6]; exact hop, h7⟩
  · obtain ⟨n, s', h3, h4, h5, h6, h7⟩ := O.no i j hi (by omega) L hP
    exact ⟨n, s', by omega, h4, by rw [h5]; decide, h7⟩
  · obtain ⟨n, s', h3, h4, h5, h6, h7⟩ := O.give i j hi (by omega) L hP
    exact ⟨n, s', by omega, h4, h6, h7⟩
  · obtain ⟨n, s', h3, h4, h5, h6, h7⟩ := O.tryw i hi L hP
    exact ⟨n, s', by omega, h4, h5, h6⟩

theorem OpsT.runs {g : Rn → Rn} {k : Nat} {d : Int} {P : Nat → List Int → Prop} {W : Nat → List Int → Prop} {R : List Int → Prop} (O : OpsT g k d P W) (h1 : 1 ≤ k) {most : Nat} (hm : 40 + 8 * k ≤ most) (hR : ∀ L, P 0 L → R L) {Z : List Int} (hZ : P 0 Z) :
    ∀ l, l ∈ opLists → ∃ E, Runs g k d most l Z E ∧ R E := by
  have hk : 0 < k := h1
  have e := runs_nil (g := g) (n := k) (d := d) (most := most) hR
  have rd := fun op h => O.read 0 0 op hk (by omega) h
  intro l hl
  simp only [opLists, List.mem_cons, List.not_mem_nil, or_false] at hl
  rcases hl with rfl | rfl | rfl | rfl | rfl | rfl | rfl
  · exact runs_cons (rd 1 (Or.inl rfl)) hm (runs_cons (O.give 0 0 hk (by omega)) hm e) Z hZ
  · exact runs_cons (O.lock 0 hk) hm (runs_cons (O.unlock 0 hk) hm e) Z hZ
  · exact runs_cons (rd 5 (Or.inr rfl)) hm (runs_cons (O.give 0 0 hk (by omega)) hm e) Z hZ
  · exact runs_cons (O.tryw 0 hk) hm (runs_cons (O.unlock 0 hk) hm e) Z hZ
  · exact runs_cons (O.lock 0 hk) hm (runs_cons (O.down 0 hk) hm (runs_cons (O.give 0 0 hk (by omega)) hm e)) Z hZ
  · exact runs_cons (rd 1 (Or.inl rfl)) hm (runs_cons (O.up 0 hk) hm (runs_cons (O.unlock 0 hk) hm e)) Z hZ
  · exact runs_cons (O.tryw 0 hk) hm (runs_cons (O.down 0 hk) hm (runs_cons (O.up 0 hk) hm (runs_cons (O.unlock 0 hk) hm e))) Z hZ

theorem OpsT.tries {g : Rn → Rn} {k : Nat} {d : Int} {P : Nat → List Int → Prop} {W : Nat → List Int → Prop} (O : OpsT g k d P W) (h1 : 1 ≤ k) {most : Nat} (hm : 40 + 8 * k ≤ most) {Z : List Int} (hZ : P 0 Z) :
    ∀ x0 x1 x2 x3, (x0, x1, x2, x3) ∈ opTry → ∃ s1 s2 s3, aloneA g most (start k d x0 Z) = (2, s1) ∧ aloneA g most (start k d x1 s1.L) = (x2, s2) ∧
      aloneA g most (start k d x3 s2.L) = (2, s3) ∧ (x2 = 1 → ∃ s4, aloneA g most (start k d 6 s3.L) = (2, s4)) := by
  have hk : 0 < k := h1
  intro x0 x1 x2 x3 hx
  simp only [opTry, List.mem_cons, List.not_mem_nil, or_false, Prod.mk.injEq] at hx
  rcases hx with ⟨rfl, rfl, rfl, rfl⟩ | ⟨rfl, rfl, rfl, rfl⟩ | ⟨rfl, rfl, rfl, rfl⟩ | ⟨rfl, rfl, rfl, rfl⟩
  · obtain ⟨s1, a1, b1⟩ := (O.lock 0 hk).alone hm hZ
    obtain ⟨s2, a2, b2⟩ := (O.norW 0 0 hk hk).alone hm b1
    obtain ⟨s3, a3, b3⟩ := (O.unlock 0 hk).alone hm b2
    obtain ⟨s4, a4, b4⟩ := (O.tryw 0 hk).alone hm b3
    exact ⟨s1, s2, s3, a1, a2, a3, fun _ => ⟨s4, a4⟩⟩
  · obtain ⟨s1, a1, b1⟩ := (O.lock 0 hk).alone hm hZ
    obtain ⟨s2, a2, b2⟩ := (O.noW 0 0 hk hk).alone hm b1
    obtain ⟨s3, a3, b3⟩ := (O.unlock 0 hk).alone hm b2
    obtain ⟨s4, a4, b4⟩ := (O.tryw 0 hk).alone hm b3
    exact ⟨s1, s2, s3, a1, a2, a3, fun _ => ⟨s4, a4⟩⟩
  · obtain ⟨s1, a1, b1⟩ := (O.read 0 0 1 hk (by omega) (Or.inl rfl)).alone hm hZ
    obtain ⟨s2, a2, b2⟩ := (O.no 0 0 hk (by omega)).alone hm b1
    obtain ⟨s3, a3, b3⟩ := (O.give 0 0 hk (by omega)).alone hm b2
    obtain ⟨s4, a4, b4⟩ := (O.tryw 0 hk).alone hm b3
    exact ⟨s1, s2, s3, a1, a2, a3, fun _ => ⟨s4, a4⟩⟩
  · obtain ⟨s1, a1, b1⟩ := (O.read 0 0 1 hk (by omega) (Or.inl rfl)).alone hm hZ
    obtain ⟨s2, a2, b2⟩ := (O.read 0 1 5 hk (by omega) (Or.inr rfl)).alone hm b1
    obtain ⟨s3, a3, b3⟩ := (O.give 0 1 hk (by omega)).alone hm b2
    exact ⟨s1, s2, s3, a1, a2, a3, fun h => absurd h (by decide)⟩

end Go.Proofs.Ytbcppehpfckgoaa.Z

/- A wake-up that finds nobody, in the middle of an operation. No lock in sight. -/
set_option linter.unusedVariables false
set_option linter.unusedSimpArgs false
namespace Go.Proofs.Ytbcppehpfckgoaa.Z
open Go.RowKit

theorem does_wakes_mid (g : Rn → Rn) (c : Int) : ∀ (d : Nat) (s : Rn) (i : Int), s.f.wk = ⟨true, c, i, false⟩ → 0 ≤ i → i + d = s.n → 1 ≤ d → NoWatch s.n c s.L → s.f.ret = 0 → s.f.op ≠ 0 →
    ∃ s2, s2.fresh = s.rests ∧ ∀ n s', Does g n s2 s' → Does g (n + d) s s' := by
  intro d
  induction d with
  | zero => intro s i hw h0 h1 h2; omega
  | succ d ih =>
    intro s i hw h0 h1 _ hc hr ho
    obtain ⟨e1, e2, e3, e4, e5, e6⟩ := woke_calm hw h0 (by omega) hc
    have hst : stepR g s = s.woke := by unfold stepR; rw [hw]; rfl
    have hf : Free s := Or.inl (by rw [hw])
    have hov : s.woke.over = false := by unfold Rn.over; rw [show s.woke.f.ret = 0 from by rw [e2]; exact hr]; rfl
    have hop : s.woke.f.op ≠ 0 := by rw [e2]; exact ho
    by_cases hd : d = 0
    · subst hd
      rw [if_pos (by omega)] at e2
      refine ⟨s.woke, ?_, fun n s' h => Does.more hf hst hov hop h⟩
      unfold Rn.fresh Rn.rests
      rw [e1, e2, e4, e5, e6]
    · rw [if_neg (by omega)] at e2
      obtain ⟨s2, k1, k2⟩ := ih s.woke (i + 1) (by rw [e2]) (by omega) (by rw [e4]; omega) (by omega) (by rw [e4, e1]; exact hc) (by rw [e2]; exact hr) hop
      refine ⟨s2, ?_, fun n s' h => Does.more hf hst hov hop (k2 n s' h)⟩
      rw [k1]
      unfold Rn.rests
      rw [e1, e2, e4, e5, e6]

theorem AtT.mid {n mode : Int} {t : Nat} {s s1 : Rn} {op line a b line' a' b' : Int} {L L' : List Int} {g : Rn → Rn} (h : AtT n mode t s op line a b L) (c : Int) (hg : g (RnT n mode t op line a b L) = s1) (hr : s1.rests = RnT n mode t op line' a' b' L') (ho : op ≠ 0) (hk : s1.f.wk = beginA mode c) (h1 : 1 ≤ n) (hc : NoWatch n c L') :
    ∃ q s2, q ≤ n.toNat + 1 ∧ AtT n mode t s2 op line' a' b' L' ∧ ∀ m s', Does g m s2 s' → Does g (m + q) s s' := by
  have hL : s1.L = L' := congrArg (fun x => x.L) hr
  have hn : s1.n = n := congrArg (fun x => x.n) hr
  have hret : s1.f.ret = 0 := congrArg (fun x => x.f.ret) hr
  have hop : s1.f.op = op := congrArg (fun x => x.f.op) hr
  have hov : s1.over = false := by unfold Rn.over; rw [hret]; rfl
  have hst : stepR g s = s1 := h.step.trans hg
  unfold beginA at hk
  split at hk
  · obtain ⟨s2, k1, k2⟩ := does_wakes_mid g c n.toNat s1 0 hk (Int.le_refl _) (by omega) (by omega) (by rw [hn, hL]; exact hc) hret (by rw [hop]; exact ho)
    exact ⟨n.toNat + 1, s2, Nat.le_refl _, k1.trans hr, fun m s' hd => Does.more h.free hst hov (by rw [hop]; exact ho) (k2 m s' hd)⟩
  · refine ⟨1, s1, by omega, ?_, fun m s' hd => Does.more h.free hst hov (by rw [hop]; exact ho) hd⟩
    unfold AtT
    rw [← hr]
    unfold Rn.fresh Rn.rests
    rw [← hk]

end Go.Proofs.Ytbcppehpfckgoaa.Z
