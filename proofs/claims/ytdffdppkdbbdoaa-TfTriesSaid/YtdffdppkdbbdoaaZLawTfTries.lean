/- Law 10: the statement TfTries: its walk. -/
import Derived.Test.YtdffdppkdbbdoaaZLawTfAlone
set_option linter.unusedVariables false
set_option linter.unusedSimpArgs false
namespace Go.Proofs.Ytdffdppkdbbdoaa.Z
open Go.RowKit

def tfTBlks (B : Nat) : List Res := [.blk B #[.int .i64 3, .int .i64 5, .int .i64 1, .int .i64 3, .int .i64 6, .int .i64 1, .int .i64 1, .int .i64 6, .int .i64 1, .int .i64 1, .int .i64 5, .int .i64 2]]
theorem tf_tel (B : Nat) (k : Nat) (hk : k < 4) : ∃ x0 x1 x2 : Int, (x0, x1, x2) ∈ tfTry ∧ (x2 = 1 ∨ x2 = 2) ∧ ∀ wr : World, Blk wr B #[.int .i64 3, .int .i64 5, .int .i64 1, .int .i64 3, .int .i64 6, .int .i64 1, .int .i64 1, .int .i64 6, .int .i64 1, .int .i64 1, .int .i64 5, .int .i64 2] → wr.cell? ⟨B, k * 3, none⟩ = some (.int .i64 x0) ∧ wr.cell? ⟨B, k * 3 + 1, none⟩ = some (.int .i64 x1) ∧ wr.cell? ⟨B, k * 3 + 2, none⟩ = some (.int .i64 x2) := by
  match k, hk with
  | 0, _ => exact ⟨3, 5, 1, by simp [tfTry], by decide, fun wr h => ⟨h.cell _, h.cell _, h.cell _⟩⟩
  | 1, _ => exact ⟨3, 6, 1, by simp [tfTry], by decide, fun wr h => ⟨h.cell _, h.cell _, h.cell _⟩⟩
  | 2, _ => exact ⟨1, 6, 1, by simp [tfTry], by decide, fun wr h => ⟨h.cell _, h.cell _, h.cell _⟩⟩
  | 3, _ => exact ⟨1, 5, 2, by simp [tfTry], by decide, fun wr h => ⟨h.cell _, h.cell _, h.cell _⟩⟩

set_option maxHeartbeats 3200000 in
set_option maxRecDepth 100000 in
theorem tfTries_any (base n mode : Int) (w : World) (hb : 0 ≤ base ∧ base < 4294967296) (hn : 0 ≤ n ∧ n < 256) :
    Calls Try.prog 10 #[.int .u32 base, .int .u8 n, .int .i64 mode] w fun e w' => e = .returned (.bool true) ∧ Touch [] w w' := by
  have hk : ∃ k : Int, 1 + n % 64 = k ∧ 1 ≤ k ∧ k ≤ 64 := ⟨_, rfl, by omega, by omega⟩
  obtain ⟨k, hk, hk1, hk2⟩ := hk
  have hruns := tf_tries k mode base (20 + 4 * k).toNat hk1 hk2 hb (by omega)
  have hf := fun W => first1 k base W ⟨hk1, hk2⟩ hb
  have hZ : own1 base ++ List.replicate ((8 + 4 * k).toNat - 3) 0 = T3 ((8 + 4 * k).toNat - 3) base base base := rfl
  rw [hZ] at hf
  generalize T3 ((8 + 4 * k).toNat - 3) base base base = Z at hf hruns
  have HF := Lib.hid hf
  have HRUNS := Lib.hid hruns
  have HHK := Lib.hid hk
  clear hf hruns hZ hk
  go_enter Try.func10, Try.ntmps10
  go_wp2_with fail
  rw [HHK.out]
  refine wp_from (Facts := fun W => Has [] w W (tfTBlks w.heap.size)) ?_ ((Has.start [] w).new1)
  intro W HW
  generalize w.heap.size = B at HW ⊢
  generalize n % 64 = n64
  have HV := Lib.hid HW
  clear HW HHK
  go_loopw [29] (fun i wr => ∃ q : Nat, q ≤ 4 ∧ i = .int .i64 q ∧ Has [] w wr (tfTBlks B)) (fun i _ => 4 - (intOf i).toNat)
  case atStart => exact ⟨0, Nat.zero_le _, rfl, HV.out⟩
  case round =>
    obtain ⟨q, hq, rfl, hH⟩ := hrel
    clear HV
    by_cases hlt : q < 4
    · obtain ⟨x0, x1, x2, hx, hx2, hcells⟩ := tf_tel B q hlt
      obtain ⟨c0, c1, c2⟩ := hcells wr (hH.at_ 0 rfl)
      obtain ⟨s1, s2, r1, r2, r3⟩ := HRUNS.out x0 x1 x2 hx
      have HR1 := Lib.hid r1
      have HR2 := Lib.hid r2
      have HR3 := Lib.hid r3
      have HH := Lib.hid hH
      clear r1 r2 r3 hx hcells hH
      have hi1 : (0 : Int) ≤ (q : Int) := Int.natCast_nonneg _
      have hi2 : (q : Int) < 4 := by omega
      rcases hx2 with rfl | rfl
      · skip
        go_wp2_with fail
        refine (HF.out _).mono ?_
        rintro e w1 h1
        obtain ⟨p, g, cap, rfl, H1⟩ := has_newwords (HH.out.new1) h1
        clear h1 c0 c1 c2
        go_wp2_with fail
        refine (fromRow_has H1 rfl).mono ?_
        rintro e w2 ⟨m, a, rfl, H2⟩
        clear H1
        obtain ⟨u0, u1, u2⟩ := (H2.at_ 2 rfl).own
        generalize wr.heap.size = X at H2 u0 u1 u2 ⊢
        go_wp2_with fail
        refine (tf_aloneI H2 k mode x0 (20 + 4 * k) (by unfold I64; omega) (by omega) HR1.out).mono ?_
        rintro e w3 ⟨v3, rfl, H3⟩
        clear u0 u1 u2
        obtain ⟨u0, u1, u2⟩ := (H3.at_ 2 rfl).own
        go_wp2_with fail
        refine (all_has H3).mono ?_
        rintro e w4 ⟨p2, g2, cap2, rfl, H4⟩
        have H5 := H4.swap
        clear u0 u1 u2 H4
        obtain ⟨u0, u1, u2⟩ := (H5.at_ 3 rfl).own
        go_wp2_with fail
        refine (tf_aloneI H5 k mode x1 (20 + 4 * k) (by unfold I64; omega) (by omega) HR2.out).mono ?_
        rintro e w5 ⟨v5, rfl, H6⟩
        clear u0 u1 u2
        obtain ⟨u0, u1, u2⟩ := (H6.at_ 3 rfl).own
        go_wp2_with fail
        refine (all_has H6).mono ?_
        rintro e w6 ⟨p3, g3, cap3, rfl, H7⟩
        have H8 := H7.perm (List.Perm.cons _ (List.Perm.swap _ _ _))
        have hsame := fun W (H : Has [] w W (.row p3 g3 cap3 s2.L :: .row p2 g2 cap2 s1.L :: .mem m a s2.L :: .row p g cap Z :: .blk X #[.int .i64 x0, .int .i64 x1, .int .i64 1] :: tfTBlks B)) => same_has (c := cap3) (d := cap2) H rfl rfl
        rw [decide_eq_true (show s2.L = s1.L by have := HR3.out; simpa using this)] at hsame
        have HSM := Lib.hid hsame
        clear hsame H7 u0 u1 u2
        go_wp2_with fail
        refine (HSM.out _ H8).mono ?_
        rintro e w7 ⟨rfl, H9⟩
        go_wp2
        go_roundw
        case rel => exact ⟨q + 1, by omega, by go_num, H9.tail.tail.tail.tail.tail⟩
        case measure => simp [intOf]; omega
      · skip
        go_wp2_with fail
        refine (HF.out _).mono ?_
        rintro e w1 h1
        obtain ⟨p, g, cap, rfl, H1⟩ := has_newwords (HH.out.new1) h1
        clear h1 c0 c1 c2
        go_wp2_with fail
        refine (fromRow_has H1 rfl).mono ?_
        rintro e w2 ⟨m, a, rfl, H2⟩
        clear H1
        obtain ⟨u0, u1, u2⟩ := (H2.at_ 2 rfl).own
        generalize wr.heap.size = X at H2 u0 u1 u2 ⊢
        go_wp2_with fail
        refine (tf_aloneI H2 k mode x0 (20 + 4 * k) (by unfold I64; omega) (by omega) HR1.out).mono ?_
        rintro e w3 ⟨v3, rfl, H3⟩
        clear u0 u1 u2
        obtain ⟨u0, u1, u2⟩ := (H3.at_ 2 rfl).own
        go_wp2_with fail
        refine (all_has H3).mono ?_
        rintro e w4 ⟨p2, g2, cap2, rfl, H4⟩
        have H5 := H4.swap
        clear u0 u1 u2 H4
        obtain ⟨u0, u1, u2⟩ := (H5.at_ 3 rfl).own
        go_wp2_with fail
        refine (tf_aloneI H5 k mode x1 (20 + 4 * k) (by unfold I64; omega) (by omega) HR2.out).mono ?_
        rintro e w5 ⟨v5, rfl, H6⟩
        clear u0 u1 u2
        obtain ⟨u0, u1, u2⟩ := (H6.at_ 3 rfl).own
        go_wp2
        go_roundw
        case rel => exact ⟨q + 1, by omega, by go_num, H6.tail.tail.tail.tail⟩
        case measure => simp [intOf]; omega
    · have hq2 : q = 4 := by omega
      subst hq2
      have HH := Lib.hid hH
      clear hH hq hlt
      go_wp2_with fail
      refine (tf_awake _).mono ?_
      rintro e w1 ⟨rfl, t1⟩
      go_wp2_with fail
      go_ret
      exact ⟨rfl, (HH.out.grow t1).touch⟩

end Go.Proofs.Ytdffdppkdbbdoaa.Z
