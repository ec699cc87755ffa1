/- 5 texts of this claim, joined: what each shows stands at its own head. -/
import Derived.Test.YtbcppehpfckgoaaZM02PqTries
import Derived.Test.YtbcppehpfckgoaaZM00PqTries
import Derived.Test.YtbcppehpfckgoaaZHas3
import Derived.Test.YtbcppehpfckgoaaZRead
import Derived.ProofKit
import Derived.OpenShut
import Derived.ChangeOld
import Derived.SizedLaws
import Derived.Deep.Slices
/- Law 14: a step; an operation by itself. Written by genlaw.py. -/
set_option linter.unusedVariables false
set_option linter.unusedSimpArgs false
namespace Go.Proofs.Ytbcppehpfckgoaa.Z
open Go.RowKit

theorem pq_stepR {S0 : List Nat} {w0 w : World} {m a r : Nat} {rs : List Res} {s : Rn} (H : RunHas S0 w0 m a r rs s w) (hok : s.ok) :
    Calls Try.prog 18 #[.pointer (some ⟨r, 0, none⟩), .func (.func 64) #[] #[]] w fun e w' => e = .returned (.bool (stepR pqA s).over) ∧ RunHas S0 w0 m a r rs (stepR pqA s) w' := by
  cases hw : s.f.wk.on with
  | true =>
    have e : stepR pqA s = s.woke := by unfold stepR; rw [hw]; rfl
    rw [e]
    exact run_step_wake H hw hok.1 _
  | false =>
    have e : stepR pqA s = pqA s.fresh := by unfold stepR; rw [hw]; rfl
    rw [e]
    exact run_step_lines H hw 64 #[] #[] (enters_of Try.func64 (by kernel_rfl) rfl) (fun W HW => pq_lines HW hok.1 hok.2.1 hok.2.2 (by simp [Rn.fresh]))

theorem pq_stepok {s : Rn} (hw : Words s.L) (h : s.ok) : (stepR pqA s).ok ∧ (stepR pqA s).notes.length ≤ 10 := by
  unfold stepR
  split
  · exact ⟨woke_ok h, by simp [Rn.woke]⟩
  · have := pqA_fine s.fresh hw (fresh_ok h)
    exact ⟨this.1, by simpa [Rn.fresh] using this.2⟩

set_option maxHeartbeats 3200000 in
set_option maxRecDepth 100000 in
theorem pq_alone {S0 : List Nat} {w0 w : World} {m a : Nat} {L : List Int} {rs : List Res} (H : Has S0 w0 w (.mem m a L :: rs)) (n mode op : Int) (hn : I64 n) (most : Nat) (hm : most ≤ 2000) :
    Calls Try.prog 30 #[.pointer (some ⟨m, 0, none⟩), .int .i64 n, .int .i64 mode, .int .i64 op, .int .i64 most] w
      (AloneEnd S0 w0 m a rs (aloneA pqA most (start n mode op L))) := by
  have hnew := RunHas.fresh_ (rs := .own 112 4 (.slice none 0 0) 0 [] :: rs) (start n mode op L) (H.ownNil 112 4).swap rfl 52
  obtain ⟨i0, hi0, hz0, hz1, hz2⟩ := info_parts note_info
  have HI := Lib.hid (show _ ∧ _ ∧ _ ∧ _ from ⟨hi0, hz0, hz1, hz2⟩)
  have hok0 := start_ok hn mode op L
  generalize hR : aloneA pqA most (start n mode op L) = R
  have HN := Lib.hid hnew
  have HR := Lib.hid hR
  have HOK := Lib.hid hok0
  clear H hnew hi0 hz0 hz1 hz2 hR hok0 hn
  go_enter Try.func30, Try.ntmps30
  go_wp2_with fail
  refine wp_from (Facts := fun W => RunHas S0 w0 m a w.heap.size (.own 112 4 (.slice none 0 0) 0 [] :: rs) (start n mode op L) W) ?_ HN.out
  intro W HW
  clear HN
  generalize w.heap.size = B at HW ⊢
  have HV := Lib.hid HW
  clear HW
  go_loopw [13, 14] (fun nt i wr => ∃ (k : Nat) (s : Rn) (nn : Nat) (xs : List Value), k ≤ most ∧ i = .int .i64 k ∧ RunHas S0 w0 m a B (.own 112 4 nt nn xs :: rs) s wr ∧ s.ok ∧ nn ≤ 10 * k ∧ aloneA pqA (most - k) s = R) (fun _ i _ => most - (intOf i).toNat)
  case atStart => exact ⟨0, _, 0, [], Nat.zero_le _, rfl, HV.out, HOK.out, by simp, HR.out⟩
  case round =>
    obtain ⟨k, s, nn, xs, hk, rfl, hH, hok, hnn, hal⟩ := hrel
    clear HV HR HOK
    by_cases hlt : k < most
    · obtain ⟨q, hq⟩ : ∃ q, most - k = q + 1 := ⟨most - k - 1, by omega⟩
      rw [hq] at hal
      have hal2 : (if (stepR pqA s).over then ((stepR pqA s).f.ret, stepR pqA s) else aloneA pqA q (stepR pqA s)) = R := hal
      have hso := pq_stepok hH.words hok
      have hst := pq_stepR hH hok
      cases hov : (stepR pqA s).over with
      | true =>
        rw [hov] at hst hal2
        simp only [if_true] at hal2
        subst hal2
        generalize stepR pqA s = s2 at hst hso
        have HST := Lib.hid hst
        have HSO := Lib.hid hso
        have HNN := Lib.hid hnn
        clear hst hso hH hok hnn hal hov
        have hi : (k : Int) < (most : Int) := by omega
        go_wp2_with fail
        refine HST.out.mono ?_
        rintro e w1 ⟨rfl, nv, H3⟩
        obtain ⟨pn, cn, rfl⟩ := owns_slice H3.own3
        have c19 : w1.cell? ⟨B, 19, none⟩ = some (.slice pn s2.notes.length cn) := H3.blk1.cell 19
        go_wp2_with (at_builtin; refine wpList_append_rd (P := Try.prog) _ rfl (.tmp 31) (.tmp 35) _ rfl 0 112 i0 _ 4 32 Try.underlying32 HI.out.1 HI.out.2.1 HI.out.2.2.1 HI.out.2.2.2 rfl (by omega) _ nn xs rfl (Has.ownAt H3 3 rfl) pn s2.notes.length cn (nts s2.notes) rfl (Rd.own H3.own3) (nts_one _) (by have h1 := HSO.out.2; have h2 := HNN.out; simp only [maxLen]; omega) (by have h1 := HSO.out.2; have h2 := HNN.out; omega) (by omega) ?_; intro v' w' hown hg hat; have H4 := H3.grown4 hown hg hat; clear H3 hown hg hat c19; have c13 : w'.cell? ⟨B, 13, none⟩ = some (.int .i64 s2.f.ret) := H4.blk1.cell 13)
        go_wp2
        go_ret2
        exact ⟨_, rfl, H4.cut3⟩
      | false =>
        rw [hov] at hst hal2
        simp only [Bool.false_eq_true, if_false] at hal2
        generalize stepR pqA s = s2 at hst hso hal2
        have HST := Lib.hid hst
        have HSO := Lib.hid hso
        have HNN := Lib.hid hnn
        have HAL := Lib.hid hal2
        clear hst hso hH hok hnn hal hov hal2
        have hi : (k : Int) < (most : Int) := by omega
        go_wp2_with fail
        refine HST.out.mono ?_
        rintro e w1 ⟨rfl, nv, H3⟩
        obtain ⟨pn, cn, rfl⟩ := owns_slice H3.own3
        have c19 : w1.cell? ⟨B, 19, none⟩ = some (.slice pn s2.notes.length cn) := H3.blk1.cell 19
        go_wp2_with (at_builtin; refine wpList_append_rd (P := Try.prog) _ rfl (.tmp 31) (.tmp 35) _ rfl 0 112 i0 _ 4 32 Try.underlying32 HI.out.1 HI.out.2.1 HI.out.2.2.1 HI.out.2.2.2 rfl (by omega) _ nn xs rfl (Has.ownAt H3 3 rfl) pn s2.notes.length cn (nts s2.notes) rfl (Rd.own H3.own3) (nts_one _) (by have h1 := HSO.out.2; have h2 := HNN.out; simp only [maxLen]; omega) (by have h1 := HSO.out.2; have h2 := HNN.out; omega) (by omega) ?_; intro v' w' hown hg hat; have H4 := H3.grown4 hown hg hat; clear H3 hown hg hat c19)
        go_wp2
        go_roundw
        case rel => exact ⟨k + 1, s2, nn + s2.notes.length, xs ++ nts s2.notes, by omega, by go_num, ⟨_, H4⟩, HSO.out.1, by have h1 := HSO.out.2; have h2 := HNN.out; omega, by rw [show most - (k + 1) = q from by omega]; exact HAL.out⟩
        case measure => simp [intOf]; omega
    · have hkm : k = most := by omega
      subst hkm
      rw [Nat.sub_self] at hal
      have hal2 : ((0 : Int), s) = R := hal
      subst hal2
      have HH := Lib.hid hH
      clear hH hok hnn hal hk hlt
      have hi : (k : Int) ≤ (k : Int) := Int.le_refl _
      go_wp2_with fail
      go_ret2
      obtain ⟨nv, H4⟩ := HH.out
      exact ⟨_, rfl, H4.cut3⟩

end Go.Proofs.Ytbcppehpfckgoaa.Z

/- Law 14: the document's example. Written by genlaw.py. -/
set_option linter.unusedVariables false
set_option linter.unusedSimpArgs false
namespace Go.Proofs.Ytbcppehpfckgoaa.Z
open Go.RowKit

theorem pq_awake_pure : (aloneA pqA 7 (start 1 1 6 (own3 1 ++ List.replicate ((8 + 4 * (1 : Int)).toNat - 4) 0))).1 = 2 ∧ (ldA (aloneA pqA 7 (start 1 1 6 (own3 1 ++ List.replicate ((8 + 4 * (1 : Int)).toNat - 4) 0))).2.L 2 = 1 ∧ ldA (aloneA pqA 7 (start 1 1 6 (own3 1 ++ List.replicate ((8 + 4 * (1 : Int)).toNat - 4) 0))).2.L 0 = 259) := by
  decide +kernel

set_option maxHeartbeats 1600000 in
theorem pq_awake (w : World) : Calls Try.prog 31 #[] w fun e w' => e = .returned (.bool true) ∧ Touch [] w w' := by
  have hp := pq_awake_pure
  have hf := fun W => first3 1 1 W (by decide) (by decide)
  generalize hL : own3 1 ++ List.replicate ((8 + 4 * (1 : Int)).toNat - 4) 0 = L at hf hp
  have HF := Lib.hid hf
  clear hf hL
  go_enter Try.func31, Try.ntmps31
  go_wp2_with fail
  refine (HF.out _).mono ?_
  rintro e w1 h1
  obtain ⟨p, g, cap, rfl, H1⟩ := has_newwords (Has.start [] w) h1
  clear h1
  go_wp2_with fail
  refine (fromRow_has H1 rfl).mono ?_
  rintro e w2 ⟨m, a, rfl, H2⟩
  clear H1
  go_wp2_with fail
  refine (pq_alone H2 1 1 6 (by unfold I64; decide) 7 (by decide)).mono ?_
  rintro e w3 ⟨v, he, H3⟩
  generalize aloneA pqA 7 (start 1 1 6 L) = R at hp he H3
  obtain ⟨r1, s3⟩ := R
  obtain ⟨rfl, hp2⟩ := hp
  simp only at he H3 hp2
  subst he
  clear H2
  have hld := fun (c : Int) W (H : Has [] w W (.mem m a s3.L :: .row p g cap L :: [])) => load_has H c
  have hl0 := hld 2
  have hl1 := hld 0
  rw [hp2.1] at hl0
  rw [hp2.2] at hl1
  have HL0 := Lib.hid hl0
  have HL1 := Lib.hid hl1
  clear hld hl0 hl1 hp2
  go_wp2_with fail
  refine (HL0.out _ H3).mono ?_
  rintro e w4 ⟨rfl, G4⟩
  go_wp2_with fail
  refine (HL1.out _ G4).mono ?_
  rintro e w5 ⟨rfl, H4⟩
  go_wp2_with fail
  go_ret
  exact ⟨by simp, H4.touch⟩

end Go.Proofs.Ytbcppehpfckgoaa.Z

/- Law 14: the statement PqAlone: its walk. Written by genlaw.py. -/
set_option linter.unusedVariables false
set_option linter.unusedSimpArgs false
namespace Go.Proofs.Ytbcppehpfckgoaa.Z
open Go.RowKit

theorem pq_aloneI {S0 : List Nat} {w0 w : World} {m a : Nat} {L : List Int} {rs : List Res} (H : Has S0 w0 w (.mem m a L :: rs)) (n mode op M : Int) (hn : I64 n) (hM : 0 ≤ M ∧ M ≤ 2000) {R : Int × Rn} (hR : aloneA pqA M.toNat (start n mode op L) = R) :
    Calls Try.prog 30 #[.pointer (some ⟨m, 0, none⟩), .int .i64 n, .int .i64 mode, .int .i64 op, .int .i64 M] w (AloneEnd S0 w0 m a rs R) := by
  subst hR
  have := pq_alone H n mode op hn M.toNat (by omega)
  rw [show ((M.toNat : Nat) : Int) = M from by omega] at this
  exact this

theorem runs_drop {g : Rn → Rn} {n mode : Int} {most : Nat} {l : List Int} {L Z : List Int} {j : Nat} (hj : j < l.length) (h : Runs g n mode most (l.drop j) L Z) : ∃ s, aloneA g most (start n mode (l.getD j 0) L) = (2, s) ∧ Runs g n mode most (l.drop (j + 1)) s.L Z := by
  rw [List.drop_eq_getElem_cons hj] at h
  have e : l.getD j 0 = l[j] := by simp [List.getD, hj]
  rw [e]
  exact h

def pqBlks (B : Nat) : List Res :=
  [.blk (B + 7) #[.slice (some ⟨B + 0, 0, none⟩) 2 2, .slice (some ⟨B + 1, 0, none⟩) 2 2, .slice (some ⟨B + 2, 0, none⟩) 2 2, .slice (some ⟨B + 3, 0, none⟩) 2 2, .slice (some ⟨B + 4, 0, none⟩) 3 3, .slice (some ⟨B + 5, 0, none⟩) 3 3, .slice (some ⟨B + 6, 0, none⟩) 4 4], .blk (B + 6) #[.int .i64 6, .int .i64 8, .int .i64 7, .int .i64 4], .blk (B + 5) #[.int .i64 1, .int .i64 7, .int .i64 4], .blk (B + 4) #[.int .i64 3, .int .i64 8, .int .i64 2], .blk (B + 3) #[.int .i64 6, .int .i64 4], .blk (B + 2) #[.int .i64 5, .int .i64 2], .blk (B + 1) #[.int .i64 3, .int .i64 4], .blk (B + 0) #[.int .i64 1, .int .i64 2]]
theorem pq_elem (B : Nat) (k : Nat) (hk : k < 7) : ∃ (q : Nat) (l : List Int) (i : Nat), (pqBlks B)[i]? = some (.blk (B + q) (i64s l).toArray) ∧ (#[.slice (some ⟨B + 0, 0, none⟩) 2 2, .slice (some ⟨B + 1, 0, none⟩) 2 2, .slice (some ⟨B + 2, 0, none⟩) 2 2, .slice (some ⟨B + 3, 0, none⟩) 2 2, .slice (some ⟨B + 4, 0, none⟩) 3 3, .slice (some ⟨B + 5, 0, none⟩) 3 3, .slice (some ⟨B + 6, 0, none⟩) 4 4] : Array Value)[k]? = some (.slice (some ⟨B + q, 0, none⟩) l.length l.length) ∧ l ∈ pqLists ∧ l.length ≤ 4 := by
  match k, hk with
  | 0, _ => exact ⟨0, [1, 2], 7, rfl, rfl, by simp [pqLists], by simp⟩
  | 1, _ => exact ⟨1, [3, 4], 6, rfl, rfl, by simp [pqLists], by simp⟩
  | 2, _ => exact ⟨2, [5, 2], 5, rfl, rfl, by simp [pqLists], by simp⟩
  | 3, _ => exact ⟨3, [6, 4], 4, rfl, rfl, by simp [pqLists], by simp⟩
  | 4, _ => exact ⟨4, [3, 8, 2], 3, rfl, rfl, by simp [pqLists], by simp⟩
  | 5, _ => exact ⟨5, [1, 7, 4], 2, rfl, rfl, by simp [pqLists], by simp⟩
  | 6, _ => exact ⟨6, [6, 8, 7, 4], 1, rfl, rfl, by simp [pqLists], by simp⟩

set_option maxHeartbeats 3200000 in
set_option maxRecDepth 100000 in
theorem pqAlone_any (base n mode : Int) (w : World) (hb : 0 ≤ base ∧ base < 4294967296) (hn : 0 ≤ n ∧ n < 256) :
    Calls Try.prog 8 #[.int .u32 base, .int .u8 n, .int .i64 mode] w fun e w' => e = .returned (.bool true) ∧ Touch [] w w' := by
  have hk : ∃ k : Int, 1 + n % 64 = k ∧ 1 ≤ k ∧ k ≤ 64 := ⟨_, rfl, by omega, by omega⟩
  obtain ⟨k, hk, hk1, hk2⟩ := hk
  have hruns : ∀ l, l ∈ pqLists → ∃ E, Runs pqA k mode (40 + 8 * k).toNat l (own3 base ++ List.replicate ((8 + 4 * k).toNat - 4) 0) E ∧ pqEnd base E := pq_runs k mode base (40 + 8 * k).toNat hk1 hk2 hb (by omega)
  have hf := fun W => first3 k base W ⟨hk1, hk2⟩ hb
  have hZ : own3 base ++ List.replicate ((8 + 4 * k).toNat - 4) 0 = own3 base ++ List.replicate ((8 + 4 * k).toNat - 4) 0 := rfl
  rw [hZ] at hf
  generalize own3 base ++ List.replicate ((8 + 4 * k).toNat - 4) 0 = Z at hf hruns
  have HF := Lib.hid hf
  have HRUNS := Lib.hid hruns
  have HHK := Lib.hid hk
  clear hf hruns hZ hk
  go_enter Try.func8, Try.ntmps8
  go_wp2_with fail
  rw [HHK.out]
  refine wp_from (Facts := fun W => Has [] w W (pqBlks w.heap.size)) ?_ ((Has.start [] w).new8)
  intro W HW
  have hTB : w.heap.size + 1 + 1 + 1 + 1 + 1 + 1 + 1 = w.heap.size + 7 := rfl
  rw [hTB]
  clear hTB
  generalize w.heap.size = B at HW ⊢
  generalize n % 64 = n64
  have HV := Lib.hid HW
  clear HW HHK
  go_loopw [30] (fun i wr => ∃ q : Nat, q ≤ 7 ∧ i = .int .i64 q ∧ Has [] w wr (pqBlks B)) (fun i _ => 7 - (intOf i).toNat)
  case atStart => exact ⟨0, Nat.zero_le _, rfl, HV.out⟩
  case round =>
    obtain ⟨q, hq, rfl, hH⟩ := hrel
    clear HV
    by_cases hlt : q < 7
    · obtain ⟨d, l, i, hi, hs, hl, hl4⟩ := pq_elem B q hlt
      have hcell : wr.cell? ⟨B + 7, q, none⟩ = some (.slice (some ⟨B + d, 0, none⟩) l.length l.length) := ((hH.at_ 0 rfl).cell q).trans hs
      obtain ⟨E, hrn, hend⟩ := HRUNS.out l hl
      have HRN := Lib.hid hrn
      have HEND := Lib.hid hend
      have HI := Lib.hid hi
      have HH := Lib.hid hH
      clear hs hl hrn hi hH hend
      generalize hBT : B + 7 = TB at hcell ⊢
      generalize hBD : B + d = BD at hcell ⊢
      have HBD := Lib.hid hBD
      clear hBT hBD
      have hi1 : (0 : Int) ≤ (q : Int) := Int.natCast_nonneg _
      have hi2 : (q : Int) < 7 := by omega
      go_wp2_with fail
      refine (HF.out _).mono ?_
      rintro e w1 h1
      obtain ⟨p, g, cap, rfl, H1⟩ := has_newwords HH.out h1
      clear h1 hcell
      go_wp2_with fail
      refine (fromRow_has H1 rfl).mono ?_
      rintro e w2 ⟨m, a, rfl, H2⟩
      clear H1
      go_wp2_with fail
      have HS2 := Lib.hid H2
      clear H2
      go_loopw [14] (fun i wr => ∃ (j : Nat) (L : List Int), j ≤ l.length ∧ i = .int .i64 j ∧ Has [] w wr (.mem m a L :: .row p g cap Z :: pqBlks B) ∧ Runs pqA k mode (40 + 8 * k).toNat (l.drop j) L E) (fun i _ => l.length - (intOf i).toNat)
      case atStart => exact ⟨0, Z, Nat.zero_le _, rfl, HS2.out, HRN.out⟩
      case round =>
        obtain ⟨j, L, hj, rfl, hH, hru⟩ := hrel
        clear HS2 HRN
        by_cases hjl : j < l.length
        · obtain ⟨s, hal, hru2⟩ := runs_drop hjl hru
          have hB : Blk wr BD (i64s l).toArray := by have := hH.at_ (i + 2) (by simpa using HI.out); rw [HBD.out] at this; exact this
          obtain ⟨b, off, hb1, hbl, hcell⟩ := i64s_at (rd_blk hB) hjl
          simp only [Option.some.injEq, Addr.mk.injEq] at hb1
          obtain ⟨rfl, rfl, _⟩ := hb1
          rw [Nat.zero_add] at hcell
          generalize l.getD j 0 = o at hal hcell
          have HAL := Lib.hid hal
          have HRU := Lib.hid hru2
          have HH2 := Lib.hid hH
          clear hal hru2 hH hru hB hbl
          have hj1 : (0 : Int) ≤ (j : Int) := Int.natCast_nonneg _
          have hj2 : (j : Int) < (l.length : Int) := by omega
          go_wp2_with fail
          refine (pq_aloneI HH2.out k mode o (40 + 8 * k) (by unfold I64; omega) (by omega) HAL.out).mono ?_
          rintro e w3 ⟨v, rfl, H3⟩
          go_wp2
          go_roundw
          case rel => exact ⟨j + 1, s.L, by omega, by go_num, H3, HRU.out⟩
          case measure => simp [intOf]; omega
        · have hjl2 : j = l.length := by omega
          subst hjl2
          rw [List.drop_length] at hru
          have hLZ : L = E := hru
          subst hLZ
          have HH2 := Lib.hid hH
          clear hH hru hjl hj
          have hj2 : (l.length : Int) ≤ (l.length : Int) := Int.le_refl _
          obtain ⟨he0, he1⟩ := HEND.out
          have hld := fun (c : Int) W (H : Has [] w W (.mem m a L :: .row p g cap Z :: pqBlks B)) => load_has H c
          have hl0 := hld 0
          have hl1 := hld 1
          have hl2 := hld 2
          rw [← he0] at hl1
          rw [he1] at hl2
          generalize ldA L 0 = x at hl0 hl1
          have HL0 := Lib.hid hl0
          have HL1 := Lib.hid hl1
          have HL2 := Lib.hid hl2
          have hxx : (x != x) = false := by simp
          clear hl0 hl1 hl2 he0 he1 hld
          go_wp2_with fail
          refine (HL0.out _ HH2.out).mono ?_
          rintro e w4 ⟨rfl, G4⟩
          go_wp2_with fail
          refine (HL1.out _ G4).mono ?_
          rintro e w5 ⟨rfl, G5⟩
          go_wp2_with fail
          refine (HL2.out _ G5).mono ?_
          rintro e w6 ⟨rfl, H9⟩
          go_wp2
          go_roundw
          case rel => exact ⟨q + 1, by omega, by go_num, H9.tail.tail⟩
          case measure => simp [intOf]; omega
    · have hq2 : q = 7 := by omega
      subst hq2
      have HH := Lib.hid hH
      clear hH hq hlt
      go_wp2_with fail
      refine (pq_awake _).mono ?_
      rintro e w1 ⟨rfl, t1⟩
      go_wp2_with fail
      go_ret
      exact ⟨rfl, (HH.out.grow t1).touch⟩

end Go.Proofs.Ytbcppehpfckgoaa.Z

/- Law 14: the statement PqTries: its walk. Written by genlaw.py. -/
set_option linter.unusedVariables false
set_option linter.unusedSimpArgs false
namespace Go.Proofs.Ytbcppehpfckgoaa.Z
open Go.RowKit

def pqTBlks (B : Nat) : List Res := [.blk B #[.int .i64 3, .int .i64 5, .int .i64 1, .int .i64 4, .int .i64 3, .int .i64 6, .int .i64 1, .int .i64 4, .int .i64 1, .int .i64 6, .int .i64 1, .int .i64 2, .int .i64 1, .int .i64 5, .int .i64 2, .int .i64 2]]
theorem pq_tel (B : Nat) (k : Nat) (hk : k < 4) : ∃ x0 x1 x2 x3 : Int, (x0, x1, x2, x3) ∈ pqTry4 ∧ (x2 = 1 ∨ x2 = 2) ∧ ∀ wr : World, Blk wr B #[.int .i64 3, .int .i64 5, .int .i64 1, .int .i64 4, .int .i64 3, .int .i64 6, .int .i64 1, .int .i64 4, .int .i64 1, .int .i64 6, .int .i64 1, .int .i64 2, .int .i64 1, .int .i64 5, .int .i64 2, .int .i64 2] → wr.cell? ⟨B, k * 4, none⟩ = some (.int .i64 x0) ∧ wr.cell? ⟨B, k * 4 + 1, none⟩ = some (.int .i64 x1) ∧ wr.cell? ⟨B, k * 4 + 2, none⟩ = some (.int .i64 x2) ∧ wr.cell? ⟨B, k * 4 + 3, none⟩ = some (.int .i64 x3) := by
  match k, hk with
  | 0, _ => exact ⟨3, 5, 1, 4, by simp [pqTry4], by decide, fun wr h => ⟨h.cell _, h.cell _, h.cell _, h.cell _⟩⟩
  | 1, _ => exact ⟨3, 6, 1, 4, by simp [pqTry4], by decide, fun wr h => ⟨h.cell _, h.cell _, h.cell _, h.cell _⟩⟩
  | 2, _ => exact ⟨1, 6, 1, 2, by simp [pqTry4], by decide, fun wr h => ⟨h.cell _, h.cell _, h.cell _, h.cell _⟩⟩
  | 3, _ => exact ⟨1, 5, 2, 2, by simp [pqTry4], by decide, fun wr h => ⟨h.cell _, h.cell _, h.cell _, h.cell _⟩⟩

set_option maxHeartbeats 3200000 in
set_option maxRecDepth 100000 in
theorem pqTries_any (base n mode : Int) (w : World) (hb : 0 ≤ base ∧ base < 4294967296) (hn : 0 ≤ n ∧ n < 256) :
    Calls Try.prog 9 #[.int .u32 base, .int .u8 n, .int .i64 mode] w fun e w' => e = .returned (.bool true) ∧ Touch [] w w' := by
  have hk : ∃ k : Int, 1 + n % 64 = k ∧ 1 ≤ k ∧ k ≤ 64 := ⟨_, rfl, by omega, by omega⟩
  obtain ⟨k, hk, hk1, hk2⟩ := hk
  have hruns := pq_tries k mode base (40 + 8 * k).toNat hk1 hk2 hb (by omega)
  have hf := fun W => first3 k base W ⟨hk1, hk2⟩ hb
  have hZ : own3 base ++ List.replicate ((8 + 4 * k).toNat - 4) 0 = own3 base ++ List.replicate ((8 + 4 * k).toNat - 4) 0 := rfl
  rw [hZ] at hf
  generalize own3 base ++ List.replicate ((8 + 4 * k).toNat - 4) 0 = Z at hf hruns
  have HF := Lib.hid hf
  have HRUNS := Lib.hid hruns
  have HHK := Lib.hid hk
  clear hf hruns hZ hk
  go_enter Try.func9, Try.ntmps9
  go_wp2_with fail
  rw [HHK.out]
  refine wp_from (Facts := fun W => Has [] w W (pqTBlks w.heap.size)) ?_ ((Has.start [] w).new1)
  intro W HW
  generalize w.heap.size = B at HW ⊢
  generalize n % 64 = n64
  have HV := Lib.hid HW
  clear HW HHK
  go_loopw [32] (fun i wr => ∃ q : Nat, q ≤ 4 ∧ i = .int .i64 q ∧ Has [] w wr (pqTBlks B)) (fun i _ => 4 - (intOf i).toNat)
  case atStart => exact ⟨0, Nat.zero_le _, rfl, HV.out⟩
  case round =>
    obtain ⟨q, hq, rfl, hH⟩ := hrel
    clear HV
    by_cases hlt : q < 4
    · obtain ⟨x0, x1, x2, x3, hx, hx2, hcells⟩ := pq_tel B q hlt
      obtain ⟨c0, c1, c2, c3⟩ := hcells wr (hH.at_ 0 rfl)
      obtain ⟨s1, s2, s3, r1, r2, r3, r4⟩ := HRUNS.out x0 x1 x2 x3 hx
      have HR1 := Lib.hid r1
      have HR2 := Lib.hid r2
      have HR3 := Lib.hid r3
      have HR4 := Lib.hid r4
      have HH := Lib.hid hH
      clear r1 r2 r3 r4 hx hcells hH
      have hi1 : (0 : Int) ≤ (q : Int) := Int.natCast_nonneg _
      have hi2 : (q : Int) < 4 := by omega
      rcases hx2 with rfl | rfl
      · go_wp2_with fail
        refine (HF.out _).mono ?_
        rintro e w1 h1
        obtain ⟨p, g, cap, rfl, H1⟩ := has_newwords (HH.out.new1) h1
        clear h1 c0 c1 c2 c3
        go_wp2_with fail
        refine (fromRow_has H1 rfl).mono ?_
        rintro e w2 ⟨m, a, rfl, H2⟩
        clear H1
        obtain ⟨u0, u1, u2⟩ := (H2.at_ 2 rfl).own
        generalize wr.heap.size = X at H2 u0 u1 u2 ⊢
        go_wp2_with fail
        refine (pq_aloneI H2 k mode x0 (40 + 8 * k) (by unfold I64; omega) (by omega) HR1.out).mono ?_
        rintro e w3 ⟨v3, rfl, H3⟩
        clear u0 u1 u2
        obtain ⟨u0, u1, u2⟩ := (H3.at_ 2 rfl).own
        go_wp2_with fail
        refine (pq_aloneI H3 k mode x1 (40 + 8 * k) (by unfold I64; omega) (by omega) HR2.out).mono ?_
        rintro e w4 ⟨v4, rfl, H4⟩
        clear u0 u1 u2
        obtain ⟨u0, u1, u2⟩ := (H4.at_ 2 rfl).own
        go_wp2_with fail
        refine (pq_aloneI H4 k mode x3 (40 + 8 * k) (by unfold I64; omega) (by omega) HR3.out).mono ?_
        rintro e w5 ⟨v5, rfl, H5⟩
        clear u0 u1 u2
        obtain ⟨u0, u1, u2⟩ := (H5.at_ 2 rfl).own
        obtain ⟨s4, r4⟩ : ∃ s4, aloneA pqA (40 + 8 * k).toNat (start k mode 6 s3.L) = (2, s4) := by have := HR4.out; simpa using this
        go_wp2_with fail
        refine (pq_aloneI H5 k mode 6 (40 + 8 * k) (by unfold I64; omega) (by omega) r4).mono ?_
        rintro e w6 ⟨v6, rfl, H6⟩
        go_wp2
        go_roundw
        case rel => exact ⟨q + 1, by omega, by go_num, H6.tail.tail.tail⟩
        case measure => simp [intOf]; omega
      · go_wp2_with fail
        refine (HF.out _).mono ?_
        rintro e w1 h1
        obtain ⟨p, g, cap, rfl, H1⟩ := has_newwords (HH.out.new1) h1
        clear h1 c0 c1 c2 c3
        go_wp2_with fail
        refine (fromRow_has H1 rfl).mono ?_
        rintro e w2 ⟨m, a, rfl, H2⟩
        clear H1
        obtain ⟨u0, u1, u2⟩ := (H2.at_ 2 rfl).own
        generalize wr.heap.size = X at H2 u0 u1 u2 ⊢
        go_wp2_with fail
        refine (pq_aloneI H2 k mode x0 (40 + 8 * k) (by unfold I64; omega) (by omega) HR1.out).mono ?_
        rintro e w3 ⟨v3, rfl, H3⟩
        clear u0 u1 u2
        obtain ⟨u0, u1, u2⟩ := (H3.at_ 2 rfl).own
        go_wp2_with fail
        refine (pq_aloneI H3 k mode x1 (40 + 8 * k) (by unfold I64; omega) (by omega) HR2.out).mono ?_
        rintro e w4 ⟨v4, rfl, H4⟩
        clear u0 u1 u2
        obtain ⟨u0, u1, u2⟩ := (H4.at_ 2 rfl).own
        go_wp2_with fail
        refine (pq_aloneI H4 k mode x3 (40 + 8 * k) (by unfold I64; omega) (by omega) HR3.out).mono ?_
        rintro e w5 ⟨v5, rfl, H5⟩
        clear u0 u1 u2
        obtain ⟨u0, u1, u2⟩ := (H5.at_ 2 rfl).own
        go_wp2
        go_roundw
        case rel => exact ⟨q + 1, by omega, by go_num, H5.tail.tail.tail⟩
        case measure => simp [intOf]; omega
    · have hq2 : q = 4 := by omega
      subst hq2
      have HH := Lib.hid hH
      clear hH hq hlt
      go_wp2_with fail
      refine (pq_awake _).mono ?_
      rintro e w1 ⟨rfl, t1⟩
      go_wp2_with fail
      go_ret
      exact ⟨rfl, (HH.out.grow t1).touch⟩

end Go.Proofs.Ytbcppehpfckgoaa.Z

/- Arguments opened: whole numbers, structs of whole numbers, slices of these. No statement is in sight. -/
set_option linter.unusedVariables false
set_option linter.unusedSimpArgs false
namespace Go.Proofs.Ytbcppehpfckgoaa.Z
open Go.RowKit Go.ChangeShapes Go.WideShapes Go.ChangeAt Go.Deep

/-- Whatever reads as a value of type t has cells of this form. -/
def Flat (P : Program) (t : TypeId) (ok : List Value → Prop) : Prop :=
  ∀ (H : Type) (enc : TypeId × Value → H) (w : World) (base : Nat) (spare : Nat → Bool) (held : Bool) (fuel : Nat) (cs : List Value) (x : DataW H × List MemPlace),
    DataW.trod enc P w base spare held fuel t cs = some x → ok cs

theorem flat_int {P : Program} {t : TypeId} {k : IntKind} (ht : P.underlying t = some (.int k)) : Flat P t (fun cs => ∃ n, cs = [.int k n] ∧ (Lit.int k n).wf = true) := by
  intro H enc w base spare held fuel cs x h
  obtain ⟨n, h1, _, h2⟩ := DataW.trod_int ht h
  exact ⟨n, h1, h2⟩

theorem flat_bool {P : Program} {t : TypeId} (ht : P.underlying t = some .bool) : Flat P t (fun cs => ∃ b, cs = [.bool b]) := by
  intro H enc w base spare held fuel cs x h
  obtain ⟨n, h1, _⟩ := DataW.trod_bool ht h
  exact ⟨n, h1⟩

theorem flat_mono {P : Program} {t : TypeId} {ok ok' : List Value → Prop} (h : Flat P t ok) (hm : ∀ cs, ok cs → ok' cs) : Flat P t ok' :=
  fun H enc w base spare held fuel cs x hx => hm _ (h H enc w base spare held fuel cs x hx)

/-- A struct: each field's cells are of that field's form. -/
theorem flat_struct {P : Program} {t : TypeId} {fs : Array Field} (ht : P.underlying t = some (.struct fs)) :
    Flat P t (fun cs => cs.length = P.cellsOf t ∧ ∀ (i : Nat) (f : Field) (ok : List Value → Prop), fs[i]? = some f → Flat P f.type ok → ok ((cs.drop f.offset).take (P.cellsOf f.type))) := by
  intro H enc w base spare held fuel cs x h
  obtain ⟨xs, n, _, _, hl, hxl, hf⟩ := DataW.trod_struct ht h
  refine ⟨hl, fun i f ok hi hok => ?_⟩
  have hil : i < fs.size := (Array.getElem?_eq_some_iff.1 hi).1
  have := hf i f hi
  rw [List.getElem?_eq_getElem (by omega)] at this
  exact hok H enc w base spare held n _ _ this

theorem wf_u32 {n : Int} (h : (Lit.int .u32 n).wf = true) : 0 ≤ n ∧ n < 4294967296 := by
  simp [Lit.wf, IntKind.min, IntKind.max, IntKind.signed, IntKind.bits] at h; omega
theorem wf_u8 {n : Int} (h : (Lit.int .u8 n).wf = true) : 0 ≤ n ∧ n < 256 := by
  simp [Lit.wf, IntKind.min, IntKind.max, IntKind.signed, IntKind.bits] at h; omega
theorem wf_i64 {n : Int} (h : (Lit.int .i64 n).wf = true) : -9223372036854775808 ≤ n ∧ n ≤ 9223372036854775807 := by
  simp [Lit.wf, IntKind.min, IntKind.max, IntKind.signed, IntKind.bits] at h; omega
theorem wf_i32 {n : Int} (h : (Lit.int .i32 n).wf = true) : -2147483648 ≤ n ∧ n < 2147483648 := by
  simp [Lit.wf, IntKind.min, IntKind.max, IntKind.signed, IntKind.bits] at h; omega

theorem flatMap_at {α : Type} {dec : α → List Value} {size : Nat} (hs : 0 < size) (hlen : ∀ a, (dec a).length = size) : ∀ (l : List α) (i j : Nat) (h : i < l.length), j < size → (l.flatMap dec)[i * size + j]? = (dec l[i])[j]? := by
  intro l
  induction l with
  | nil => intro i j h; simp at h
  | cons a l ih =>
    intro i j h hj
    rw [List.flatMap_cons]
    cases i with
    | zero =>
      rw [List.getElem?_append_left (by rw [hlen]; omega)]
      simp
    | succ i =>
      rw [List.getElem?_append_right (by rw [hlen, Nat.succ_mul]; omega), hlen, show (i + 1) * size + j - size = i * size + j by rw [Nat.succ_mul]; omega, ih i j (by simpa using h) hj]
      rfl

theorem flatMap_length {α : Type} {dec : α → List Value} {size : Nat} (hlen : ∀ a, (dec a).length = size) (l : List α) : (l.flatMap dec).length = l.length * size := by
  induction l with
  | nil => simp
  | cons a l ih => rw [List.flatMap_cons, List.length_append, ih, hlen, List.length_cons, Nat.succ_mul]; omega

/-- A slice of flat elements, as a list. -/
theorem open_list {P : Program} {H : Type} {enc : TypeId × Value → H} {w : World} {t e : TypeId} {α : Type} {dec : α → List Value} {ok : α → Prop} {size : Nat} {A : Option Addr} {n c : Nat} {d : DataW H} {p : List MemPlace}
    (ht : P.underlying t = some (.slice e)) (hF : Flat P e (fun cs => ∃ a, ok a ∧ cs = dec a)) (hC : P.cellsOf e = size) (hs : 0 < size) (hlen : ∀ a, (dec a).length = size)
    (h : DataW.Trod enc P w 0 (fun _ => true) true t (.slice A n c) d p) (lt : ∀ x ∈ p, x.block < w.heap.size) :
    ∃ l : List α, l.length = n ∧ (∀ a, a ∈ l → ok a) ∧ Rd w size A n (l.flatMap dec) ∧ n ≤ c ∧ c ≤ 9223372036854775807 := by
  obtain ⟨fuel, hf⟩ := h
  rcases open_slice ht hf with ⟨hcs, _⟩ | ⟨a, len, cap, m, n', D, Pl, hcs, hb, hl, hm, hmm, hx, hi⟩
  · simp [Value.cells] at hcs
    obtain ⟨rfl, rfl, rfl⟩ := hcs
    exact ⟨[], rfl, by simp, Rd.nil _ _ _, Nat.le_refl _, by decide⟩
  · simp [Value.cells] at hcs
    obtain ⟨rfl, rfl, rfl⟩ := hcs
    simp at hmm
    subst hmm
    have hE : ∀ i, i < n → ∃ y : α, ok y ∧ ∀ j, j < size → w.cell? (a.add (i * size + j)) = (dec y)[j]? := by
      intro i hin
      obtain ⟨cs', hc, htr⟩ := hi i (by omega)
      obtain ⟨y, hy, rfl⟩ := hF H enc w 0 _ true n' cs' _ htr
      rw [hC] at hc
      obtain ⟨_, hcl, hat⟩ := World.cells?_some hc
      exact ⟨y, hy, fun j hj => by rw [← Go.Deep.add_add]; exact hat j hj⟩
    have hL : ∀ n0, n0 ≤ n → ∃ l : List α, l.length = n0 ∧ ∀ i (h : i < l.length), ok l[i] ∧ ∀ j, j < size → w.cell? (a.add (i * size + j)) = (dec l[i])[j]? := by
      intro n0
      induction n0 with
      | zero => intro _; exact ⟨[], rfl, fun i h => by simp at h⟩
      | succ k ih =>
        intro hk
        obtain ⟨l, hl, hlp⟩ := ih (by omega)
        obtain ⟨y, hy, hyc⟩ := hE k (by omega)
        refine ⟨l ++ [y], by simp [hl], fun i h => ?_⟩
        by_cases hik : i < l.length
        · rw [List.getElem_append_left hik]; exact hlp i hik
        · have : i = k := by simp at h; omega
          subst this
          rw [List.getElem_append_right (by omega)]
          simp [hl]
          exact ⟨hy, hyc⟩
    obtain ⟨l, hll, hlp⟩ := hL n (Nat.le_refl _)
    refine ⟨l, hll, fun y hy => ?_, ⟨by rw [flatMap_length hlen, hll], fun h0 => ⟨a, rfl, ?_, fun j u hu => ?_⟩⟩, hl, hm⟩
    · obtain ⟨i, hi, rfl⟩ := List.getElem_of_mem hy
      exact (hlp i hi).1
    · have := (hlp 0 (by omega)).2 0 hs
      have h1 : (dec l[0])[0]? = some ((dec l[0])[0]'(by rw [hlen]; exact hs)) := List.getElem?_eq_getElem _
      rw [h1] at this
      have := World.block_lt_of_cell? w _ this
      rw [addr_block] at this
      exact this
    · have hj : j < l.length * size := by
        have := (List.getElem?_eq_some_iff.1 hu).1
        rwa [flatMap_length hlen] at this
      have e := Nat.div_add_mod j size
      have hd : j / size < l.length := Nat.div_lt_of_lt_mul (by rw [Nat.mul_comm]; exact hj)
      have hm := Nat.mod_lt j hs
      rw [Nat.mul_comm] at e
      have := (hlp _ hd).2 _ hm
      rw [e] at this
      rw [this, ← flatMap_at hs hlen l _ _ hd hm, e, hu]

/-- A struct by value, as its cells. -/
theorem open_flat {P : Program} {H : Type} {enc : TypeId × Value → H} {w : World} {t : TypeId} {fs : Array Field} {α : Type} {dec : α → List Value} {ok : α → Prop} {v : Value} {d : DataW H} {p : List MemPlace} {r : Reach} {base : Nat}
    (ht : P.underlying t = some (.struct fs)) (hF : Flat P t (fun cs => ∃ a, ok a ∧ cs = dec a)) (hv : Value.okWide P w r base t v) (h : DataW.Trod enc P w 0 (fun _ => true) true t v d p) :
    ∃ a, ok a ∧ v = .agg (dec a).toArray := by
  obtain ⟨cs, rfl, _⟩ := okWide_struct ht hv
  obtain ⟨fuel, hf⟩ := h
  obtain ⟨a, ha, hc⟩ := hF H enc w 0 _ true fuel _ _ hf
  refine ⟨a, ha, ?_⟩
  rw [← hc]
  simp [Value.cells]

/-- A number's value, its data left as they are. -/
theorem open_num {P : Program} {H : Type} {enc : TypeId × Value → H} {w : World} {t : TypeId} {k : IntKind} {v : Value} {d : DataW H} {p : List MemPlace} {r : Reach} {base : Nat}
    (ht : P.underlying t = some (.int k)) (hv : Value.okWide P w r base t v) (h : DataW.Trod enc P w 0 (fun _ => true) true t v d p) : ∃ n, v = .int k n ∧ (Lit.int k n).wf = true := by
  obtain ⟨n, h1, _, _, h2⟩ := open_int ht hv h
  exact ⟨n, h1, h2⟩

theorem open_truth {P : Program} {H : Type} {enc : TypeId × Value → H} {w : World} {t : TypeId} {v : Value} {d : DataW H} {p : List MemPlace} {r : Reach} {base : Nat}
    (ht : P.underlying t = some .bool) (hv : Value.okWide P w r base t v) (h : DataW.Trod enc P w 0 (fun _ => true) true t v d p) : ∃ b, v = .bool b := by
  obtain ⟨n, h1, _⟩ := open_bool ht hv h
  exact ⟨n, h1⟩

end Go.Proofs.Ytbcppehpfckgoaa.Z
