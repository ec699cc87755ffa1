/- Law 15: a step; an operation by itself. Written by genlaw.py. -/
import Derived.Test.YtdffdppkdbbdoaaZRfFine
import Derived.Test.YtdffdppkdbbdoaaZAlone
set_option linter.unusedVariables false
set_option linter.unusedSimpArgs false
namespace Go.Proofs.Ytdffdppkdbbdoaa.Z
open Go.RowKit

theorem rf_stepR {S0 : List Nat} {w0 w : World} {m a r : Nat} {rs : List Res} {s : Rn} (H : RunHas S0 w0 m a r rs s w) (hok : s.ok) :
    Calls Try.prog 19 #[.pointer (some ⟨r, 0, none⟩), .func (.func 20) #[] #[]] w fun e w' => e = .returned (.bool (stepR rfA s).over) ∧ RunHas S0 w0 m a r rs (stepR rfA s) w' := by
  cases hw : s.f.wk.on with
  | true =>
    have e : stepR rfA s = s.woke := by unfold stepR; rw [hw]; rfl
    rw [e]
    exact run_step_wake H hw hok.1 _
  | false =>
    have e : stepR rfA s = rfA s.fresh := by unfold stepR; rw [hw]; rfl
    rw [e]
    exact run_step_lines H hw 20 #[] #[] (enters_of Try.func20 (by kernel_rfl) rfl) (fun W HW => rf_lines HW hok.1 hok.2.1 (by simp [Rn.fresh]))

theorem rf_stepok {s : Rn} (hw : Words s.L) (h : s.ok) : (stepR rfA s).ok ∧ (stepR rfA s).notes.length ≤ 10 := by
  unfold stepR
  split
  · exact ⟨woke_ok h, by simp [Rn.woke]⟩
  · have := rfA_fine s.fresh hw (fresh_ok h)
    exact ⟨this.1, by simpa [Rn.fresh] using this.2⟩

set_option maxHeartbeats 3200000 in
set_option maxRecDepth 100000 in
theorem rf_alone {S0 : List Nat} {w0 w : World} {m a : Nat} {L : List Int} {rs : List Res} (H : Has S0 w0 w (.mem m a L :: rs)) (n mode op : Int) (hn : I64 n) (most : Nat) (hm : most ≤ 2000) :
    Calls Try.prog 15 #[.pointer (some ⟨m, 0, none⟩), .int .i64 n, .int .i64 mode, .int .i64 op, .int .i64 most] w
      (AloneEnd S0 w0 m a rs (aloneA rfA most (start n mode op L))) := by
  have hnew := RunHas.fresh_ (rs := .own 115 4 (.slice none 0 0) 0 [] :: rs) (start n mode op L) (H.ownNil 115 4).swap rfl 52
  obtain ⟨i0, hi0, hz0, hz1, hz2⟩ := info_parts note_info
  have HI := Lib.hid (show _ ∧ _ ∧ _ ∧ _ from ⟨hi0, hz0, hz1, hz2⟩)
  have hok0 := start_ok hn mode op L
  generalize hR : aloneA rfA most (start n mode op L) = R
  have HN := Lib.hid hnew
  have HR := Lib.hid hR
  have HOK := Lib.hid hok0
  clear H hnew hi0 hz0 hz1 hz2 hR hok0 hn
  go_enter Try.func15, Try.ntmps15
  go_wp2_with fail
  refine wp_from (Facts := fun W => RunHas S0 w0 m a w.heap.size (.own 115 4 (.slice none 0 0) 0 [] :: rs) (start n mode op L) W) ?_ HN.out
  intro W HW
  clear HN
  generalize w.heap.size = B at HW ⊢
  have HV := Lib.hid HW
  clear HW
  go_loopw [13, 14] (fun nt i wr => ∃ (k : Nat) (s : Rn) (nn : Nat) (xs : List Value), k ≤ most ∧ i = .int .i64 k ∧ RunHas S0 w0 m a B (.own 115 4 nt nn xs :: rs) s wr ∧ s.ok ∧ nn ≤ 10 * k ∧ aloneA rfA (most - k) s = R) (fun _ i _ => most - (intOf i).toNat)
  case atStart => exact ⟨0, _, 0, [], Nat.zero_le _, rfl, HV.out, HOK.out, by simp, HR.out⟩
  case round =>
    obtain ⟨k, s, nn, xs, hk, rfl, hH, hok, hnn, hal⟩ := hrel
    clear HV HR HOK
    by_cases hlt : k < most
    · obtain ⟨q, hq⟩ : ∃ q, most - k = q + 1 := ⟨most - k - 1, by omega⟩
      rw [hq] at hal
      have hal2 : (if (stepR rfA s).over then ((stepR rfA s).f.ret, stepR rfA s) else aloneA rfA q (stepR rfA s)) = R := hal
      have hso := rf_stepok hH.words hok
      have hst := rf_stepR hH hok
      cases hov : (stepR rfA s).over with
      | true =>
        rw [hov] at hst hal2
        simp only [if_true] at hal2
        subst hal2
        generalize stepR rfA s = s2 at hst hso
        have HST := Lib.hid hst
        have HSO := Lib.hid hso
        have HNN := Lib.hid hnn
        clear hst hso hH hok hnn hal hov
        have hi : (k : Int) < (most : Int) := by omega
        go_wp2_with fail
        refine HST.out.mono ?_
        rintro e w1 ⟨rfl, nv, H3⟩
        obtain ⟨pn, cn, rfl⟩ := owns_slice H3.own3
        have c19 : w1.cell? ⟨B, 19, none⟩ = some (.slice pn s2.notes.length cn) := H3.blk1.cell 19
        go_wp2_with (at_builtin; refine wpList_append_rd (P := Try.prog) _ rfl (.tmp 31) (.tmp 35) _ rfl 0 115 i0 _ 4 32 Try.underlying32 HI.out.1 HI.out.2.1 HI.out.2.2.1 HI.out.2.2.2 rfl (by omega) _ nn xs rfl (Has.ownAt H3 3 rfl) pn s2.notes.length cn (nts s2.notes) rfl (Rd.own H3.own3) (nts_one _) (by have h1 := HSO.out.2; have h2 := HNN.out; simp only [maxLen]; omega) (by have h1 := HSO.out.2; have h2 := HNN.out; omega) (by omega) ?_; intro v' w' hown hg hat; have H4 := H3.grown4 hown hg hat; clear H3 hown hg hat c19; have c13 : w'.cell? ⟨B, 13, none⟩ = some (.int .i64 s2.f.ret) := H4.blk1.cell 13)
        go_wp2
        go_ret2
        exact ⟨_, rfl, H4.cut3⟩
      | false =>
        rw [hov] at hst hal2
        simp only [Bool.false_eq_true, if_false] at hal2
        generalize stepR rfA s = s2 at hst hso hal2
        have HST := Lib.hid hst
        have HSO := Lib.hid hso
        have HNN := Lib.hid hnn
        have HAL := Lib.hid hal2
        clear hst hso hH hok hnn hal hov hal2
        have hi : (k : Int) < (most : Int) := by omega
        go_wp2_with fail
        refine HST.out.mono ?_
        rintro e w1 ⟨rfl, nv, H3⟩
        obtain ⟨pn, cn, rfl⟩ := owns_slice H3.own3
        have c19 : w1.cell? ⟨B, 19, none⟩ = some (.slice pn s2.notes.length cn) := H3.blk1.cell 19
        go_wp2_with (at_builtin; refine wpList_append_rd (P := Try.prog) _ rfl (.tmp 31) (.tmp 35) _ rfl 0 115 i0 _ 4 32 Try.underlying32 HI.out.1 HI.out.2.1 HI.out.2.2.1 HI.out.2.2.2 rfl (by omega) _ nn xs rfl (Has.ownAt H3 3 rfl) pn s2.notes.length cn (nts s2.notes) rfl (Rd.own H3.own3) (nts_one _) (by have h1 := HSO.out.2; have h2 := HNN.out; simp only [maxLen]; omega) (by have h1 := HSO.out.2; have h2 := HNN.out; omega) (by omega) ?_; intro v' w' hown hg hat; have H4 := H3.grown4 hown hg hat; clear H3 hown hg hat c19)
        go_wp2
        go_roundw
        case rel => exact ⟨k + 1, s2, nn + s2.notes.length, xs ++ nts s2.notes, by omega, by go_num, ⟨_, H4⟩, HSO.out.1, by have h1 := HSO.out.2; have h2 := HNN.out; omega, by rw [show most - (k + 1) = q from by omega]; exact HAL.out⟩
        case measure => simp [intOf]; omega
    · have hkm : k = most := by omega
      subst hkm
      rw [Nat.sub_self] at hal
      have hal2 : ((0 : Int), s) = R := hal
      subst hal2
      have HH := Lib.hid hH
      clear hH hok hnn hal hk hlt
      have hi : (k : Int) ≤ (k : Int) := Int.le_refl _
      go_wp2_with fail
      go_ret2
      obtain ⟨nv, H4⟩ := HH.out
      exact ⟨_, rfl, H4.cut3⟩

end Go.Proofs.Ytdffdppkdbbdoaa.Z
