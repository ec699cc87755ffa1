/- Law 15: the statement RfTries: its walk. Written by genlaw.py. -/
import Derived.Test.YtdffdppkdbbdoaaZLawRfAlone
set_option linter.unusedVariables false
set_option linter.unusedSimpArgs false
namespace Go.Proofs.Ytdffdppkdbbdoaa.Z
open Go.RowKit

def rfTBlks (B : Nat) : List Res := [.blk B #[.int .i64 3, .int .i64 5, .int .i64 1, .int .i64 4, .int .i64 3, .int .i64 6, .int .i64 1, .int .i64 4, .int .i64 1, .int .i64 6, .int .i64 1, .int .i64 2, .int .i64 1, .int .i64 5, .int .i64 2, .int .i64 2]]
theorem rf_tel (B : Nat) (k : Nat) (hk : k < 4) : ∃ x0 x1 x2 x3 : Int, (x0, x1, x2, x3) ∈ rfTry ∧ (x2 = 1 ∨ x2 = 2) ∧ ∀ wr : World, Blk wr B #[.int .i64 3, .int .i64 5, .int .i64 1, .int .i64 4, .int .i64 3, .int .i64 6, .int .i64 1, .int .i64 4, .int .i64 1, .int .i64 6, .int .i64 1, .int .i64 2, .int .i64 1, .int .i64 5, .int .i64 2, .int .i64 2] → wr.cell? ⟨B, k * 4, none⟩ = some (.int .i64 x0) ∧ wr.cell? ⟨B, k * 4 + 1, none⟩ = some (.int .i64 x1) ∧ wr.cell? ⟨B, k * 4 + 2, none⟩ = some (.int .i64 x2) ∧ wr.cell? ⟨B, k * 4 + 3, none⟩ = some (.int .i64 x3) := by
  match k, hk with
  | 0, _ => exact ⟨3, 5, 1, 4, by simp [rfTry], by decide, fun wr h => ⟨h.cell _, h.cell _, h.cell _, h.cell _⟩⟩
  | 1, _ => exact ⟨3, 6, 1, 4, by simp [rfTry], by decide, fun wr h => ⟨h.cell _, h.cell _, h.cell _, h.cell _⟩⟩
  | 2, _ => exact ⟨1, 6, 1, 2, by simp [rfTry], by decide, fun wr h => ⟨h.cell _, h.cell _, h.cell _, h.cell _⟩⟩
  | 3, _ => exact ⟨1, 5, 2, 2, by simp [rfTry], by decide, fun wr h => ⟨h.cell _, h.cell _, h.cell _, h.cell _⟩⟩

set_option maxHeartbeats 3200000 in
set_option maxRecDepth 100000 in
theorem rfTries_any (base n mode : Int) (w : World) (hb : 0 ≤ base ∧ base < 4294967296) (hn : 0 ≤ n ∧ n < 256) :
    Calls Try.prog 4 #[.int .u32 base, .int .u8 n, .int .i64 mode] w fun e w' => e = .returned (.bool true) ∧ Touch [] w w' := by
  have hk : ∃ k : Int, 1 + n % 64 = k ∧ 1 ≤ k ∧ k ≤ 64 := ⟨_, rfl, by omega, by omega⟩
  obtain ⟨k, hk, hk1, hk2⟩ := hk
  have hruns := rf_tries k mode (40 + 8 * k).toNat hk1 hk2 (by omega)
  have hf := fun W => first5 k base W ⟨hk1, hk2⟩ hb
  have hZ : own5 base ++ List.replicate ((8 + 4 * k).toNat - 1) 0 = Wd ((8 + 4 * k).toNat - 1) 0 := rfl
  rw [hZ] at hf
  generalize Wd ((8 + 4 * k).toNat - 1) 0 = Z at hf hruns
  have HF := Lib.hid hf
  have HRUNS := Lib.hid hruns
  have HHK := Lib.hid hk
  clear hf hruns hZ hk
  go_enter Try.func4, Try.ntmps4
  go_wp2_with fail
  rw [HHK.out]
  refine wp_from (Facts := fun W => Has [] w W (rfTBlks w.heap.size)) ?_ ((Has.start [] w).new1)
  intro W HW
  generalize w.heap.size = B at HW ⊢
  generalize n % 64 = n64
  have HV := Lib.hid HW
  clear HW HHK
  go_loopw [32] (fun i wr => ∃ q : Nat, q ≤ 4 ∧ i = .int .i64 q ∧ Has [] w wr (rfTBlks B)) (fun i _ => 4 - (intOf i).toNat)
  case atStart => exact ⟨0, Nat.zero_le _, rfl, HV.out⟩
  case round =>
    obtain ⟨q, hq, rfl, hH⟩ := hrel
    clear HV
    by_cases hlt : q < 4
    · obtain ⟨x0, x1, x2, x3, hx, hx2, hcells⟩ := rf_tel B q hlt
      obtain ⟨c0, c1, c2, c3⟩ := hcells wr (hH.at_ 0 rfl)
      obtain ⟨s1, s2, s3, r1, r2, r3, r4⟩ := HRUNS.out x0 x1 x2 x3 hx
      have HR1 := Lib.hid r1
      have HR2 := Lib.hid r2
      have HR3 := Lib.hid r3
      have HR4 := Lib.hid r4
      have HH := Lib.hid hH
      clear r1 r2 r3 r4 hx hcells hH
      have hi1 : (0 : Int) ≤ (q : Int) := Int.natCast_nonneg _
      have hi2 : (q : Int) < 4 := by omega
      rcases hx2 with rfl | rfl
      · go_wp2_with fail
        refine (HF.out _).mono ?_
        rintro e w1 h1
        obtain ⟨p, g, cap, rfl, H1⟩ := has_newwords (HH.out.new1) h1
        clear h1 c0 c1 c2 c3
        go_wp2_with fail
        refine (fromRow_has H1 rfl).mono ?_
        rintro e w2 ⟨m, a, rfl, H2⟩
        clear H1
        obtain ⟨u0, u1, u2⟩ := (H2.at_ 2 rfl).own
        generalize wr.heap.size = X at H2 u0 u1 u2 ⊢
        go_wp2_with fail
        refine (rf_aloneI H2 k mode x0 (40 + 8 * k) (by unfold I64; omega) (by omega) HR1.out).mono ?_
        rintro e w3 ⟨v3, rfl, H3⟩
        clear u0 u1 u2
        obtain ⟨u0, u1, u2⟩ := (H3.at_ 2 rfl).own
        go_wp2_with fail
        refine (rf_aloneI H3 k mode x1 (40 + 8 * k) (by unfold I64; omega) (by omega) HR2.out).mono ?_
        rintro e w4 ⟨v4, rfl, H4⟩
        clear u0 u1 u2
        obtain ⟨u0, u1, u2⟩ := (H4.at_ 2 rfl).own
        go_wp2_with fail
        refine (rf_aloneI H4 k mode x3 (40 + 8 * k) (by unfold I64; omega) (by omega) HR3.out).mono ?_
        rintro e w5 ⟨v5, rfl, H5⟩
        clear u0 u1 u2
        obtain ⟨u0, u1, u2⟩ := (H5.at_ 2 rfl).own
        obtain ⟨s4, r4⟩ : ∃ s4, aloneA rfA (40 + 8 * k).toNat (start k mode 6 s3.L) = (2, s4) := by have := HR4.out; simpa using this
        go_wp2_with fail
        refine (rf_aloneI H5 k mode 6 (40 + 8 * k) (by unfold I64; omega) (by omega) r4).mono ?_
        rintro e w6 ⟨v6, rfl, H6⟩
        go_wp2
        go_roundw
        case rel => exact ⟨q + 1, by omega, by go_num, H6.tail.tail.tail⟩
        case measure => simp [intOf]; omega
      · go_wp2_with fail
        refine (HF.out _).mono ?_
        rintro e w1 h1
        obtain ⟨p, g, cap, rfl, H1⟩ := has_newwords (HH.out.new1) h1
        clear h1 c0 c1 c2 c3
        go_wp2_with fail
        refine (fromRow_has H1 rfl).mono ?_
        rintro e w2 ⟨m, a, rfl, H2⟩
        clear H1
        obtain ⟨u0, u1, u2⟩ := (H2.at_ 2 rfl).own
        generalize wr.heap.size = X at H2 u0 u1 u2 ⊢
        go_wp2_with fail
        refine (rf_aloneI H2 k mode x0 (40 + 8 * k) (by unfold I64; omega) (by omega) HR1.out).mono ?_
        rintro e w3 ⟨v3, rfl, H3⟩
        clear u0 u1 u2
        obtain ⟨u0, u1, u2⟩ := (H3.at_ 2 rfl).own
        go_wp2_with fail
        refine (rf_aloneI H3 k mode x1 (40 + 8 * k) (by unfold I64; omega) (by omega) HR2.out).mono ?_
        rintro e w4 ⟨v4, rfl, H4⟩
        clear u0 u1 u2
        obtain ⟨u0, u1, u2⟩ := (H4.at_ 2 rfl).own
        go_wp2_with fail
        refine (rf_aloneI H4 k mode x3 (40 + 8 * k) (by unfold I64; omega) (by omega) HR3.out).mono ?_
        rintro e w5 ⟨v5, rfl, H5⟩
        clear u0 u1 u2
        obtain ⟨u0, u1, u2⟩ := (H5.at_ 2 rfl).own
        go_wp2
        go_roundw
        case rel => exact ⟨q + 1, by omega, by go_num, H5.tail.tail.tail⟩
        case measure => simp [intOf]; omega
    · have hq2 : q = 4 := by omega
      subst hq2
      have HH := Lib.hid hH
      clear hH hq hlt
      go_wp2_with fail
      refine (rf_awake _).mono ?_
      rintro e w1 ⟨rfl, t1⟩
      go_wp2_with fail
      go_ret
      exact ⟨rfl, (HH.out.grow t1).touch⟩

end Go.Proofs.Ytdffdppkdbbdoaa.Z
