/- 6 texts of this claim, joined: what each shows stands at its own head. -/
import Derived.Test.YtmbbcgkfankiaaaZMat2
import Derived.Test.YtmbbcgkfankiaaaZM00PfTogether
import Derived.Test.YtmbbcgkfankiaaaZAlone
import Derived.Test.YtmbbcgkfankiaaaZMatch
import Derived.Test.YtmbbcgkfankiaaaZPlace
import Derived.Test.YtmbbcgkfankiaaaZMat
import Derived.Test.YtmbbcgkfankiaaaZFlat5
/- Law 11: how many hold something; how a match begins. Written by genmat.py. -/
set_option linter.unusedVariables false
set_option linter.unusedSimpArgs false
namespace Go.Proofs.Ytmbbcgkfankiaaa.Z
open Go.RowKit

set_option maxHeartbeats 1600000 in
theorem pf_many {S0 : List Nat} {w0 w : World} {m a x hb : Nat} {rs : List Res} {M : Mt} (H : MatchHas S0 w0 m a x hb rs M w) (what : Int) :
    Calls Try.prog 34 #[.pointer (some ⟨x, 0, none⟩), .int .i64 what] w fun e w' => e = .returned (.int .i64 (M.many what)) ∧ w = w' := by
  obtain ⟨hf1, hf2, hf3, hf4⟩ := H.fit
  obtain ⟨x0, x1, x2, x3⟩ := H.held
  generalize hk : M.fs.length = k at hf1 hf4 x1 x3
  have HX3 := Lib.hid x3
  have HL := Lib.hid hf1
  have HK := Lib.hid hf4
  clear hf1 hf2 hf3 hf4 x3 hk H
  go_enter Try.func34, Try.ntmps34
  go_wp2_with fail
  go_loopw [5, 6] (fun c i wr => wr = w ∧ ∃ j : Nat, j ≤ k ∧ i = .int .i64 j ∧ c = .int .i64 ((M.hold.take j).countP (· == what) : Nat)) (fun _ i _ => k - (intOf i).toNat)
  case atStart => exact ⟨rfl, 0, Nat.zero_le _, rfl, by simp⟩
  case round =>
    obtain ⟨rfl, j, hj, rfl, rfl⟩ := hrel
    by_cases hjk : j < k
    · have hc := HX3.out j hjk
      have hcs := count_snoc M.hold what j (by rw [HL.out]; exact hjk)
      have hcl : (M.hold.take j).countP (· == what) ≤ k := Nat.le_trans List.countP_le_length (by rw [List.length_take]; omega)
      have hk64 := HK.out
      generalize (M.hold.take j).countP (· == what) = cnt at hcs hcl ⊢
      generalize M.hold.getD j 0 = v at hc hcs
      have HCS := Lib.hid hcs
      have hi1 : (0 : Int) ≤ (j : Int) := Int.natCast_nonneg _
      have hi2 : (j : Int) < (k : Int) := by omega
      clear hcs
      by_cases hv : v = what
      · subst hv
        go_wp2
        go_roundw
        case rel => exact ⟨trivial, j + 1, by omega, by go_num, by rw [HCS.out, if_pos rfl]; go_num⟩
        case measure => simp [intOf]; omega
      · have hv2 : (v == what) = false := by simpa using hv
        have HV := Lib.hid hv
        clear hv
        go_wp2
        go_roundw
        case rel => exact ⟨trivial, j + 1, by omega, by go_num, by rw [HCS.out, if_neg HV.out, Nat.add_zero]⟩
        case measure => simp [intOf]; omega
    · have hjk2 : j = k := by omega
      subst hjk2
      have e : (M.hold.take j).countP (· == what) = M.many what := by unfold Mt.many; rw [← HL.out, List.take_length]
      rw [e]
      clear HX3 HL e
      have hi2 : (j : Int) ≤ (j : Int) := Int.le_refl _
      go_wp2
      go_ret
      exact ⟨rfl, rfl⟩

theorem ptr_info : (Try.prog.info? 46).map (fun i => (i.zero, i.size, i.bytes)) = some (some (.pointer none), 1, 8) := by kernel_rfl
theorem int_info : (Try.prog.info? 3).map (fun i => (i.zero, i.size, i.bytes)) = some (some (.int .i64 0), 1, 8) := by kernel_rfl

def PfBegun (S0 : List Nat) (w0 : World) (k : Nat) (mode : Int) (Z : List Int) (rs : List Res) (e : Ending) (w' : World) : Prop :=
  ∃ x m a hb p g cap, e = .returned (.pointer (some ⟨x, 0, none⟩)) ∧ MatchHas S0 w0 m a x hb (.row p g cap Z :: rs) (Mt.start k mode Z) w'

set_option maxHeartbeats 3200000 in
set_option maxRecDepth 100000 in
theorem pf_begun {S0 : List Nat} {w0 w : World} {rs : List Res} (H : Has S0 w0 w rs) (k : Nat) (h1 : 1 ≤ k) (h2 : k ≤ 64) (mode base : Int) (hb : 0 ≤ base ∧ base < 4294967296) :
    Calls Try.prog 32 #[.int .i64 k, .int .i64 mode, .int .u32 base] w (PfBegun S0 w0 k mode (own2 base ++ List.replicate ((8 + 4 * (k : Int)).toNat - 5) 0) rs) := by
  have hf := fun W => first2 k base W ⟨by omega, by omega⟩ hb
  generalize own2 base ++ List.replicate ((8 + 4 * (k : Int)).toNat - 5) 0 = Z at hf
  obtain ⟨i0, hi0, hz0, hz1, hz2⟩ := info_parts ptr_info
  have HI := Lib.hid (show _ ∧ _ ∧ _ ∧ _ from ⟨hi0, hz0, hz1, hz2⟩)
  clear hi0 hz0 hz1 hz2
  obtain ⟨j0, hj0, hy0, hy1, hy2⟩ := info_parts int_info
  have HJ := Lib.hid (show _ ∧ _ ∧ _ ∧ _ from ⟨hj0, hy0, hy1, hy2⟩)
  clear hj0 hy0 hy1 hy2
  have HF := Lib.hid hf
  have HH := Lib.hid H
  clear hf H
  go_enter Try.func32, Try.ntmps32
  go_wp2_with fail
  refine (HF.out _).mono ?_
  rintro e w1 g1
  obtain ⟨p, g, cap, rfl, H1⟩ := has_newwords HH.out g1
  clear g1
  go_wp2_with fail
  refine (fromRow_has H1 rfl).mono ?_
  rintro e w2 ⟨m, a, rfl, H2⟩
  clear H1
  have HS2 := Lib.hid H2
  clear H2
  go_wp2_with (at_make; refine wpList_make_full _ rfl _ _ 23 rfl 0 3 j0 _ 1 Try.underlying23 HJ.out.1 HJ.out.2.1 HJ.out.2.2.1 _ _ _ _ k rfl rfl rfl rfl (by rw [HJ.out.2.2.2]; omega) (by unfold maxLen; omega) (Nat.zero_le _) ?_; intro w4 hown hg)
  have hB := own_full hown
  rw [Nat.mul_one, show (madeCells (Value.int IntKind.i64 0).cells k).toList = List.replicate k (Value.int .i64 0) from toList_madeCells_one _ k] at hB
  have hz : (List.replicate k (Value.int .i64 0)).toArray = (i64s (List.replicate k 0)).toArray := by simp [i64s]
  rw [hz] at hB
  have H3 := HS2.out.came (.blk w2.heap.size (i64s (List.replicate k 0)).toArray) ((Touch.refl [] w2).grown hg (by simp)) (by simp) hB (by intro b hb; simp [Res.foot] at hb; omega)
  have H4 := (H3.new rfl #[.slice none 0 0, .slice (some ⟨w2.heap.size, 0, none⟩) k k] 81).ownNil 46 1
  have H5 := (((H4.front 2 (by simp)).front 1 (by simp)).front 2 (by simp)).front 3 (by simp)
  have HB0 : BegunHas S0 w0 m a w4.heap.size w2.heap.size k k mode Z (.row p g cap Z :: rs) 0 (w4.alloc (.cells #[.slice none 0 0, .slice (some ⟨w2.heap.size, 0, none⟩) k k] 81)) :=
    ⟨.slice none 0 0, [], rfl, by simp, H5⟩
  clear hown hg hB hz H3 H4 H5 HS2
  refine wp_from (Facts := fun W => BegunHas S0 w0 m a w4.heap.size w2.heap.size k k mode Z (.row p g cap Z :: rs) 0 W) ?_ HB0
  clear HB0
  intro W HW
  generalize w4.heap.size = X at HW ⊢
  generalize w2.heap.size = B at HW ⊢
  have HV := Lib.hid HW
  clear HW
  go_loopw [12] (fun i wr => ∃ j : Nat, j ≤ k ∧ i = .int .i64 j ∧ BegunHas S0 w0 m a X B k k mode Z (.row p g cap Z :: rs) j wr) (fun i _ => k - (intOf i).toNat)
  case atStart => exact ⟨0, Nat.zero_le _, rfl, HV.out⟩
  case round =>
    obtain ⟨j, hj, rfl, hR⟩ := hrel
    clear HV
    by_cases hjk : j < k
    · obtain ⟨lv, ts, hl, hts, hH⟩ := hR
      obtain ⟨x0, x1, x2⟩ := hH.blk1.own
      have HL := Lib.hid hl
      have HTS := Lib.hid hts
      have HR := Lib.hid hH
      have hi1 : (0 : Int) ≤ (j : Int) := Int.natCast_nonneg _
      have hi2 : (j : Int) < (k : Int) := by omega
      clear hl hts hH
      go_wp2_with (at_builtin; refine wpList_from (Facts := fun W => Has S0 w0 W (.blk (wr.heap.size + 1) #[.pointer (some ⟨wr.heap.size, 0, none⟩)] :: .blk wr.heap.size (rcells m ⟨k, mode, j, Fr.zero, Acc.zero, [], Z⟩ (.slice none 0 0)) :: .mem m a Z :: .blk X #[lv, .slice (some ⟨B, 0, none⟩) k k] :: .own 46 1 lv j (ts.map Tk.ptr) :: .blk B (i64s (List.replicate k 0)).toArray :: (tksRes m ts ++ .row p g cap Z :: rs))) ?_ ((HR.out.new rfl _ _).new (by simp) _ _); intro W HW; refine wpList_append_rd (P := Try.prog) _ rfl (.tmp 43) (.tmp 51) _ rfl 0 46 i0 _ 1 8 Try.underlying71 HI.out.1 HI.out.2.1 HI.out.2.2.1 HI.out.2.2.2 rfl (by omega) lv j (ts.map Tk.ptr) rfl (Has.ownAt HW 4 rfl) (some ⟨wr.heap.size + 1, 0, none⟩) 1 1 [.pointer (some ⟨wr.heap.size, 0, none⟩)] rfl (rd_cells (HW.at_ 0 rfl)) (by simp [Value.oneCell']) (by simp only [maxLen]; omega) (by omega) (by omega) ?_; intro v' w' hown hg hat; obtain ⟨p', c', rfl⟩ := owns_slice hown; have HB := begun_more HL.out HTS.out HW hown hg hat; have HG := Has.grown1 4 (by simp) HW rfl hown hg hat; clear x0 x1 x2; obtain ⟨y0, y1, y2⟩ := (HG.at_ 4 rfl).own; clear HG hown hg hat HW)
      go_roundw
      case rel => exact ⟨j + 1, by omega, by go_num, HB⟩
      case measure => simp [intOf]; omega
    · have hjk2 : j = k := by omega
      subst hjk2
      have HR := Lib.hid hR
      clear hR
      have hi2 : (j : Int) ≤ (j : Int) := Int.le_refl _
      go_wp2
      go_ret
      exact ⟨X, m, a, B, p, g, cap, rfl, begun_done h2 HR.out⟩

end Go.Proofs.Ytmbbcgkfankiaaa.Z

/- Package pf: a line leaves whose run it is. Written by genmat.py. -/
set_option linter.unusedVariables false
set_option linter.unusedSimpArgs false
namespace Go.Proofs.Ytmbbcgkfankiaaa.Z
open Go.RowKit

def SmPf (s s' : Rn) : Prop := s'.n = s.n ∧ s'.mode = s.mode ∧ s'.task = s.task
theorem pfR10_same (s : Rn) : SmPf s (pfR10 s) := by
  unfold pfR10
  try unfold Rn.pfPass
  try unfold pfIn6
  try unfold pfIn7
  try unfold pfLast6
  try unfold pfLast7
  (try dsimp only)
  (repeat' split) <;> exact ⟨rfl, rfl, rfl⟩
theorem pfR11_same (s : Rn) : SmPf s (pfR11 s) := by
  unfold pfR11
  try unfold Rn.pfPass
  try unfold pfIn6
  try unfold pfIn7
  try unfold pfLast6
  try unfold pfLast7
  (try dsimp only)
  (repeat' split) <;> exact ⟨rfl, rfl, rfl⟩
theorem pfR20_same (s : Rn) : SmPf s (pfR20 s) := by
  unfold pfR20
  try unfold Rn.pfPass
  try unfold pfIn6
  try unfold pfIn7
  try unfold pfLast6
  try unfold pfLast7
  (try dsimp only)
  (repeat' split) <;> exact ⟨rfl, rfl, rfl⟩
theorem pfR50_same (s : Rn) : SmPf s (pfR50 s) := by
  unfold pfR50
  try unfold Rn.pfPass
  try unfold pfIn6
  try unfold pfIn7
  try unfold pfLast6
  try unfold pfLast7
  (try dsimp only)
  (repeat' split) <;> exact ⟨rfl, rfl, rfl⟩
theorem pfR51_same (s : Rn) : SmPf s (pfR51 s) := by
  unfold pfR51
  try unfold Rn.pfPass
  try unfold pfIn6
  try unfold pfIn7
  try unfold pfLast6
  try unfold pfLast7
  (try dsimp only)
  (repeat' split) <;> exact ⟨rfl, rfl, rfl⟩
theorem pf30_same (s : Rn) : SmPf s (pf30 s) := by
  unfold pf30
  try unfold Rn.pfPass
  try unfold pfIn6
  try unfold pfIn7
  try unfold pfLast6
  try unfold pfLast7
  (try dsimp only)
  (repeat' split) <;> exact ⟨rfl, rfl, rfl⟩
theorem pf31_same (s : Rn) : SmPf s (pf31 s) := by
  unfold pf31
  try unfold Rn.pfPass
  try unfold pfIn6
  try unfold pfIn7
  try unfold pfLast6
  try unfold pfLast7
  (try dsimp only)
  (repeat' split) <;> exact ⟨rfl, rfl, rfl⟩
theorem pf32_same (s : Rn) : SmPf s (pf32 s) := by
  unfold pf32
  try unfold Rn.pfPass
  try unfold pfIn6
  try unfold pfIn7
  try unfold pfLast6
  try unfold pfLast7
  (try dsimp only)
  (repeat' split) <;> exact ⟨rfl, rfl, rfl⟩
theorem pf33_same (s : Rn) : SmPf s (pf33 s) := by
  unfold pf33
  try unfold Rn.pfPass
  try unfold pfIn6
  try unfold pfIn7
  try unfold pfLast6
  try unfold pfLast7
  (try dsimp only)
  (repeat' split) <;> exact ⟨rfl, rfl, rfl⟩
theorem pf34_same (s : Rn) : SmPf s (pf34 s) := by
  unfold pf34
  try unfold Rn.pfPass
  try unfold pfIn6
  try unfold pfIn7
  try unfold pfLast6
  try unfold pfLast7
  (try dsimp only)
  (repeat' split) <;> exact ⟨rfl, rfl, rfl⟩
theorem pf40_same (s : Rn) : SmPf s (pf40 s) := by
  unfold pf40
  try unfold Rn.pfPass
  try unfold pfIn6
  try unfold pfIn7
  try unfold pfLast6
  try unfold pfLast7
  (try dsimp only)
  (repeat' split) <;> exact ⟨rfl, rfl, rfl⟩
theorem pf80_same (s : Rn) : SmPf s (pf80 s) := by
  unfold pf80
  try unfold Rn.pfPass
  try unfold pfIn6
  try unfold pfIn7
  try unfold pfLast6
  try unfold pfLast7
  (try dsimp only)
  (repeat' split) <;> exact ⟨rfl, rfl, rfl⟩
theorem pf41_same (s : Rn) : SmPf s (pf41 s) := by
  unfold pf41
  try unfold Rn.pfPass
  try unfold pfIn6
  try unfold pfIn7
  try unfold pfLast6
  try unfold pfLast7
  (try dsimp only)
  (repeat' split) <;> exact ⟨rfl, rfl, rfl⟩
theorem pf81_same (s : Rn) : SmPf s (pf81 s) := by
  unfold pf81
  try unfold Rn.pfPass
  try unfold pfIn6
  try unfold pfIn7
  try unfold pfLast6
  try unfold pfLast7
  (try dsimp only)
  (repeat' split) <;> exact ⟨rfl, rfl, rfl⟩
theorem pf42_same (s : Rn) : SmPf s (pf42 s) := by
  unfold pf42
  try unfold Rn.pfPass
  try unfold pfIn6
  try unfold pfIn7
  try unfold pfLast6
  try unfold pfLast7
  (try dsimp only)
  (repeat' split) <;> exact ⟨rfl, rfl, rfl⟩
theorem pf82_same (s : Rn) : SmPf s (pf82 s) := by
  unfold pf82
  try unfold Rn.pfPass
  try unfold pfIn6
  try unfold pfIn7
  try unfold pfLast6
  try unfold pfLast7
  (try dsimp only)
  (repeat' split) <;> exact ⟨rfl, rfl, rfl⟩
theorem pf43_same (s : Rn) : SmPf s (pf43 s) := by
  unfold pf43
  try unfold Rn.pfPass
  try unfold pfIn6
  try unfold pfIn7
  try unfold pfLast6
  try unfold pfLast7
  (try dsimp only)
  (repeat' split) <;> exact ⟨rfl, rfl, rfl⟩
theorem pf83_same (s : Rn) : SmPf s (pf83 s) := by
  unfold pf83
  try unfold Rn.pfPass
  try unfold pfIn6
  try unfold pfIn7
  try unfold pfLast6
  try unfold pfLast7
  (try dsimp only)
  (repeat' split) <;> exact ⟨rfl, rfl, rfl⟩
theorem pft0_same (s : Rn) : SmPf s (pft0 s) := by
  unfold pft0
  try unfold Rn.pfPass
  try unfold pfIn6
  try unfold pfIn7
  try unfold pfLast6
  try unfold pfLast7
  (try dsimp only)
  (repeat' split) <;> exact ⟨rfl, rfl, rfl⟩
theorem pft1_same (s : Rn) : SmPf s (pft1 s) := by
  unfold pft1
  try unfold Rn.pfPass
  try unfold pfIn6
  try unfold pfIn7
  try unfold pfLast6
  try unfold pfLast7
  (try dsimp only)
  (repeat' split) <;> exact ⟨rfl, rfl, rfl⟩
theorem pft2_same (s : Rn) : SmPf s (pft2 s) := by
  unfold pft2
  try unfold Rn.pfPass
  try unfold pfIn6
  try unfold pfIn7
  try unfold pfLast6
  try unfold pfLast7
  (try dsimp only)
  (repeat' split) <;> exact ⟨rfl, rfl, rfl⟩
theorem pft3_same (s : Rn) : SmPf s (pft3 s) := by
  unfold pft3
  try unfold Rn.pfPass
  try unfold pfIn6
  try unfold pfIn7
  try unfold pfLast6
  try unfold pfLast7
  (try dsimp only)
  (repeat' split) <;> exact ⟨rfl, rfl, rfl⟩
theorem pft46_same (s : Rn) : SmPf s (pft46 s) := by
  unfold pft46
  try unfold Rn.pfPass
  try unfold pfIn6
  try unfold pfIn7
  try unfold pfLast6
  try unfold pfLast7
  (try dsimp only)
  (repeat' split) <;> exact ⟨rfl, rfl, rfl⟩
theorem pft5_same (s : Rn) : SmPf s (pft5 s) := by
  unfold pft5
  try unfold Rn.pfPass
  try unfold pfIn6
  try unfold pfIn7
  try unfold pfLast6
  try unfold pfLast7
  (try dsimp only)
  (repeat' split) <;> exact ⟨rfl, rfl, rfl⟩
theorem pft6_same (s : Rn) : SmPf s (pft6 s) := by
  unfold pft6
  try unfold Rn.pfPass
  try unfold pfIn6
  try unfold pfIn7
  try unfold pfLast6
  try unfold pfLast7
  (try dsimp only)
  (repeat' split) <;> exact ⟨rfl, rfl, rfl⟩
theorem pft76_same (s : Rn) : SmPf s (pft76 s) := by
  unfold pft76
  try unfold Rn.pfPass
  try unfold pfIn6
  try unfold pfIn7
  try unfold pfLast6
  try unfold pfLast7
  (try dsimp only)
  (repeat' split) <;> exact ⟨rfl, rfl, rfl⟩
theorem pft86_same (s : Rn) : SmPf s (pft86 s) := by
  unfold pft86
  try unfold Rn.pfPass
  try unfold pfIn6
  try unfold pfIn7
  try unfold pfLast6
  try unfold pfLast7
  (try dsimp only)
  (repeat' split) <;> exact ⟨rfl, rfl, rfl⟩
theorem pft9_same (s : Rn) : SmPf s (pft9 s) := by
  unfold pft9
  try unfold Rn.pfPass
  try unfold pfIn6
  try unfold pfIn7
  try unfold pfLast6
  try unfold pfLast7
  (try dsimp only)
  (repeat' split) <;> exact ⟨rfl, rfl, rfl⟩
theorem pft47_same (s : Rn) : SmPf s (pft47 s) := by
  unfold pft47
  try unfold Rn.pfPass
  try unfold pfIn6
  try unfold pfIn7
  try unfold pfLast6
  try unfold pfLast7
  (try dsimp only)
  (repeat' split) <;> exact ⟨rfl, rfl, rfl⟩
theorem pft77_same (s : Rn) : SmPf s (pft77 s) := by
  unfold pft77
  try unfold Rn.pfPass
  try unfold pfIn6
  try unfold pfIn7
  try unfold pfLast6
  try unfold pfLast7
  (try dsimp only)
  (repeat' split) <;> exact ⟨rfl, rfl, rfl⟩
theorem pft87_same (s : Rn) : SmPf s (pft87 s) := by
  unfold pft87
  try unfold Rn.pfPass
  try unfold pfIn6
  try unfold pfIn7
  try unfold pfLast6
  try unfold pfLast7
  (try dsimp only)
  (repeat' split) <;> exact ⟨rfl, rfl, rfl⟩
theorem pfA_same (s : Rn) : SmPf s (pfA s) := by
  unfold pfA
  by_cases h0 : s.f.op = 1 ∧ s.f.line = 0
  · rw [if_pos h0]; exact pfR10_same s
  rw [if_neg h0]
  by_cases h1 : s.f.op = 1 ∧ s.f.line = 1
  · rw [if_pos h1]; exact pfR11_same s
  rw [if_neg h1]
  by_cases h2 : s.f.op = 2 ∧ s.f.line = 0
  · rw [if_pos h2]; exact pfR20_same s
  rw [if_neg h2]
  by_cases h3 : s.f.op = 5 ∧ s.f.line = 0
  · rw [if_pos h3]; exact pfR50_same s
  rw [if_neg h3]
  by_cases h4 : s.f.op = 5 ∧ s.f.line = 1
  · rw [if_pos h4]; exact pfR51_same s
  rw [if_neg h4]
  by_cases h5 : s.f.op = 3 ∧ s.f.line = 0
  · rw [if_pos h5]; exact pf30_same s
  rw [if_neg h5]
  by_cases h6 : s.f.op = 3 ∧ s.f.line = 1
  · rw [if_pos h6]; exact pf31_same s
  rw [if_neg h6]
  by_cases h7 : s.f.op = 3 ∧ s.f.line = 2
  · rw [if_pos h7]; exact pf32_same s
  rw [if_neg h7]
  by_cases h8 : s.f.op = 3 ∧ s.f.line = 3
  · rw [if_pos h8]; exact pf33_same s
  rw [if_neg h8]
  by_cases h9 : s.f.op = 3 ∧ s.f.line = 4
  · rw [if_pos h9]; exact pf34_same s
  rw [if_neg h9]
  by_cases h10 : s.f.op = 4 ∧ s.f.line = 0
  · rw [if_pos h10]; exact pf40_same s
  rw [if_neg h10]
  by_cases h11 : s.f.op = 8 ∧ s.f.line = 0
  · rw [if_pos h11]; exact pf80_same s
  rw [if_neg h11]
  by_cases h12 : s.f.op = 4 ∧ s.f.line = 1
  · rw [if_pos h12]; exact pf41_same s
  rw [if_neg h12]
  by_cases h13 : s.f.op = 8 ∧ s.f.line = 1
  · rw [if_pos h13]; exact pf81_same s
  rw [if_neg h13]
  by_cases h14 : s.f.op = 4 ∧ s.f.line = 2
  · rw [if_pos h14]; exact pf42_same s
  rw [if_neg h14]
  by_cases h15 : s.f.op = 8 ∧ s.f.line = 2
  · rw [if_pos h15]; exact pf82_same s
  rw [if_neg h15]
  by_cases h16 : s.f.op = 4 ∧ s.f.line = 3
  · rw [if_pos h16]; exact pf43_same s
  rw [if_neg h16]
  by_cases h17 : s.f.op = 8 ∧ s.f.line = 3
  · rw [if_pos h17]; exact pf83_same s
  rw [if_neg h17]
  by_cases h18 : s.f.op = 6 ∧ s.f.line = 0
  · rw [if_pos h18]; exact pft0_same s
  rw [if_neg h18]
  by_cases h19 : s.f.op = 6 ∧ s.f.line = 1
  · rw [if_pos h19]; exact pft1_same s
  rw [if_neg h19]
  by_cases h20 : s.f.op = 6 ∧ s.f.line = 2
  · rw [if_pos h20]; exact pft2_same s
  rw [if_neg h20]
  by_cases h21 : s.f.op = 6 ∧ s.f.line = 3
  · rw [if_pos h21]; exact pft3_same s
  rw [if_neg h21]
  by_cases h22 : s.f.op = 6 ∧ s.f.line = 4
  · rw [if_pos h22]; exact pft46_same s
  rw [if_neg h22]
  by_cases h23 : s.f.op = 6 ∧ s.f.line = 5
  · rw [if_pos h23]; exact pft5_same s
  rw [if_neg h23]
  by_cases h24 : s.f.op = 6 ∧ s.f.line = 6
  · rw [if_pos h24]; exact pft6_same s
  rw [if_neg h24]
  by_cases h25 : s.f.op = 6 ∧ s.f.line = 7
  · rw [if_pos h25]; exact pft76_same s
  rw [if_neg h25]
  by_cases h26 : s.f.op = 6 ∧ s.f.line = 8
  · rw [if_pos h26]; exact pft86_same s
  rw [if_neg h26]
  by_cases h27 : s.f.op = 6 ∧ s.f.line = 9
  · rw [if_pos h27]; exact pft9_same s
  rw [if_neg h27]
  by_cases h28 : s.f.op = 7 ∧ s.f.line = 0
  · rw [if_pos h28]; exact pft0_same s
  rw [if_neg h28]
  by_cases h29 : s.f.op = 7 ∧ s.f.line = 1
  · rw [if_pos h29]; exact pft1_same s
  rw [if_neg h29]
  by_cases h30 : s.f.op = 7 ∧ s.f.line = 2
  · rw [if_pos h30]; exact pft2_same s
  rw [if_neg h30]
  by_cases h31 : s.f.op = 7 ∧ s.f.line = 3
  · rw [if_pos h31]; exact pft3_same s
  rw [if_neg h31]
  by_cases h32 : s.f.op = 7 ∧ s.f.line = 4
  · rw [if_pos h32]; exact pft47_same s
  rw [if_neg h32]
  by_cases h33 : s.f.op = 7 ∧ s.f.line = 5
  · rw [if_pos h33]; exact pft5_same s
  rw [if_neg h33]
  by_cases h34 : s.f.op = 7 ∧ s.f.line = 6
  · rw [if_pos h34]; exact pft6_same s
  rw [if_neg h34]
  by_cases h35 : s.f.op = 7 ∧ s.f.line = 7
  · rw [if_pos h35]; exact pft77_same s
  rw [if_neg h35]
  by_cases h36 : s.f.op = 7 ∧ s.f.line = 8
  · rw [if_pos h36]; exact pft87_same s
  rw [if_neg h36]
  by_cases h37 : s.f.op = 7 ∧ s.f.line = 9
  · rw [if_pos h37]; exact pft9_same s
  rw [if_neg h37]
  exact ⟨rfl, rfl, rfl⟩
theorem pf_step_same (s : Rn) : (stepR pfA s).n = s.n ∧ (stepR pfA s).mode = s.mode ∧ (stepR pfA s).task = s.task := by
  unfold stepR
  split
  · exact ⟨rfl, rfl, rfl⟩
  · exact pfA_same s.fresh

end Go.Proofs.Ytmbbcgkfankiaaa.Z

/- Law 11: may, from, behind. Written by genmatch.py. -/
set_option linter.unusedVariables false
set_option linter.unusedSimpArgs false
namespace Go.Proofs.Ytmbbcgkfankiaaa.Z
open Go.RowKit

theorem pf_may (op hold : Int) (w : World) : Calls Try.prog 75 #[.int .i64 op, .int .i64 hold] w fun e w' => e = .returned (.bool (mayB op hold)) ∧ w = w' := by
  by_cases h0 : hold = 0
  · subst h0
    by_cases h1 : op = 1
    · subst h1
      go_enter Try.func75, Try.ntmps75
      go_wp2
      go_ret
      exact ⟨rfl, rfl⟩
    have e1 : (op == 1) = false := by simpa using h1
    by_cases h3 : op = 3
    · subst h3
      go_enter Try.func75, Try.ntmps75
      go_wp2
      go_ret
      exact ⟨rfl, rfl⟩
    have e3 : (op == 3) = false := by simpa using h3
    by_cases h5 : op = 5
    · subst h5
      go_enter Try.func75, Try.ntmps75
      go_wp2
      go_ret
      exact ⟨rfl, rfl⟩
    have e5 : (op == 5) = false := by simpa using h5
    by_cases h6 : op = 6
    · subst h6
      go_enter Try.func75, Try.ntmps75
      go_wp2
      go_ret
      exact ⟨rfl, rfl⟩
    have e6 : (op == 6) = false := by simpa using h6
    go_enter Try.func75, Try.ntmps75
    go_wp2
    go_ret
    exact ⟨by simp [mayB, e1, e3, e5, e6], rfl⟩
  by_cases k1 : hold = 1
  · subst k1
    by_cases h2 : op = 2
    · subst h2
      go_enter Try.func75, Try.ntmps75
      go_wp2
      go_ret
      exact ⟨rfl, rfl⟩
    have e2 : (op == 2) = false := by simpa using h2
    by_cases h7 : op = 7
    · subst h7
      go_enter Try.func75, Try.ntmps75
      go_wp2
      go_ret
      exact ⟨rfl, rfl⟩
    have e7 : (op == 7) = false := by simpa using h7
    go_enter Try.func75, Try.ntmps75
    go_wp2
    go_ret
    exact ⟨by simp [mayB, e2, e7], rfl⟩
  have f0 : (hold == 0) = false := by simpa using h0
  have f1 : (hold == 1) = false := by simpa using k1
  by_cases h4 : op = 4
  · subst h4
    go_enter Try.func75, Try.ntmps75
    go_wp2
    go_ret
    exact ⟨by simp [mayB, h0, k1], rfl⟩
  have e4 : (op == 4) = false := by simpa using h4
  by_cases h8 : op = 8
  · subst h8
    go_enter Try.func75, Try.ntmps75
    go_wp2
    go_ret
    exact ⟨by simp [mayB, h0, k1], rfl⟩
  have e8 : (op == 8) = false := by simpa using h8
  go_enter Try.func75, Try.ntmps75
  go_wp2
  go_ret
  exact ⟨by simp [mayB, h0, k1, e4, e8], rfl⟩
theorem pf_from (op hold : Int) (w : World) : Calls Try.prog 76 #[.int .i64 op, .int .i64 hold] w fun e w' => e = .returned (.int .i64 (fromA op hold)) ∧ w = w' := by
  by_cases h2 : op = 2
  · subst h2
    go_enter Try.func76, Try.ntmps76
    go_wp2
    go_ret
    exact ⟨by simp [fromA], rfl⟩
  have e2 : (op == 2) = false := by simpa using h2
  by_cases h4 : op = 4
  · subst h4
    go_enter Try.func76, Try.ntmps76
    go_wp2
    go_ret
    exact ⟨by simp [fromA], rfl⟩
  have e4 : (op == 4) = false := by simpa using h4
  by_cases h8 : op = 8
  · subst h8
    go_enter Try.func76, Try.ntmps76
    go_wp2
    go_ret
    exact ⟨by simp [fromA], rfl⟩
  have e8 : (op == 8) = false := by simpa using h8
  go_enter Try.func76, Try.ntmps76
  go_wp2
  go_ret
  exact ⟨by simp [fromA, h2, h4, h8], rfl⟩
theorem pf_behind (op ret hold : Int) (w : World) : Calls Try.prog 77 #[.int .i64 op, .int .i64 ret, .int .i64 hold] w fun e w' => e = .returned (.int .i64 (behindA op ret hold)) ∧ w = w' := by
  by_cases hr : ret = 2
  · subst hr
    by_cases h1 : op = 1
    · subst h1
      go_enter Try.func77, Try.ntmps77
      go_wp2
      go_ret
      exact ⟨by simp [behindA], rfl⟩
    have e1 : (op == 1) = false := by simpa using h1
    by_cases h5 : op = 5
    · subst h5
      go_enter Try.func77, Try.ntmps77
      go_wp2
      go_ret
      exact ⟨by simp [behindA], rfl⟩
    have e5 : (op == 5) = false := by simpa using h5
    by_cases h3 : op = 3
    · subst h3
      go_enter Try.func77, Try.ntmps77
      go_wp2
      go_ret
      exact ⟨by simp [behindA], rfl⟩
    have e3 : (op == 3) = false := by simpa using h3
    by_cases h6 : op = 6
    · subst h6
      go_enter Try.func77, Try.ntmps77
      go_wp2
      go_ret
      exact ⟨by simp [behindA], rfl⟩
    have e6 : (op == 6) = false := by simpa using h6
    by_cases h7 : op = 7
    · subst h7
      go_enter Try.func77, Try.ntmps77
      go_wp2
      go_ret
      exact ⟨by simp [behindA], rfl⟩
    have e7 : (op == 7) = false := by simpa using h7
    go_enter Try.func77, Try.ntmps77
    go_wp2
    go_ret
    exact ⟨by simp [behindA, h1, h5, h3, h6, h7], rfl⟩
  have er : (ret != 2) = true := by simpa using hr
  go_enter Try.func77, Try.ntmps77
  go_wp2
  go_ret
  exact ⟨by simp [behindA, hr], rfl⟩

end Go.Proofs.Ytmbbcgkfankiaaa.Z

/- Law 11: a pick. Written by genmat.py. -/
set_option linter.unusedVariables false
set_option linter.unusedSimpArgs false
namespace Go.Proofs.Ytmbbcgkfankiaaa.Z
open Go.RowKit

theorem getD_mem {α : Type} {l : List α} {i : Nat} {d : α} (h : i < l.length) : l.getD i d ∈ l := by
  simp [List.getD, h]
theorem set_getD {α : Type} {l : List α} {i : Nat} {d : α} (h : i < l.length) : l.set i (l.getD i d) = l := by
  simp [List.getD, h]
theorem i64s_set_at {l : List Int} {i : Nat} {v : Int} (h : i < l.length) : (i64s (l.set i v)).toArray[i]? = some (.int .i64 v) := by
  simp [i64s, h]
theorem i64s_set2 (l : List Int) (i : Nat) (v u : Int) : (i64s (l.set i v)).toArray.setIfInBounds i (.int .i64 u) = (i64s (l.set i u)).toArray := by
  simp [i64s, List.map_set]

set_option maxHeartbeats 3200000 in
set_option maxRecDepth 100000 in
theorem pf_play {S0 : List Nat} {w0 w : World} {m a x hb : Nat} {rs : List Res} {M : Mt} (H : MatchHas S0 w0 m a x hb rs M w) {i : Nat} (hi : i < M.fs.length) (op : Int) :
    Calls Try.prog 33 #[.pointer (some ⟨x, 0, none⟩), .int .i64 i, .int .i64 op] w fun e w' => e = .returned (.tuple #[]) ∧ MatchHas S0 w0 m a x hb rs (M.play pfA i op) w' := by
  obtain ⟨hf1, hf2, hf3, hf4⟩ := H.fit
  have hwd := H.words
  have hil : i < M.hold.length := by rw [hf1]; exact hi
  obtain ⟨r, b, off, cap, rest, s, e1, e2, e3, e4, e5, hO, hptr, hback⟩ := H.opened hi
  have HFOK : FrOk s.f := by rw [e1]; exact hf2 _ (getD_mem hi)
  have hO2 : Opn S0 w0 m a x hb r (.slice (some ⟨b, off, none⟩) M.fs.length cap) M.fs.length (M.hold.set i (M.hold.getD i 0)) rest s w := by rw [set_getD hil]; exact hO
  obtain ⟨p0, p1⟩ := hptr _ _ _ hO
  clear hptr hO
  have HH := Lib.hid H
  clear H
  generalize hk : M.fs.length = k at hi hO2 hf1 hf4 hback
  generalize hh : M.hold.getD i 0 = h0 at hO2
  obtain ⟨n, mode, task, ⟨o1, line, fa, fb, st, ⟨on, wc, wi, hit⟩, ret⟩, ⟨ak, ac, ax, ay, ao⟩, notes, L⟩ := s
  simp only at e1 e2 e3 e4 e5 HFOK
  subst e2 e3 e4 e5
  have hplay : M.play pfA i op = if o1 = 0 then if mayB op h0 = true then M.goes pfA i ⟨op, 0, 0, 0, 0, ⟨false, 0, 0, false⟩, 0⟩ (fromA op h0) else M else M.goes pfA i ⟨o1, line, fa, fb, st, ⟨on, wc, wi, hit⟩, ret⟩ h0 := by
    unfold Mt.play
    rw [← e1, hh]
    rfl
  have HPLAY := Lib.hid hplay
  have hi1 : (0 : Int) ≤ (i : Int) := Int.natCast_nonneg _
  have hi2 : (i : Int) < (k : Int) := by omega
  have HLEN := Lib.hid (show i < k ∧ i < M.hold.length ∧ I64 M.n ∧ Words M.L from ⟨hi, hil, hf3, hwd⟩)
  clear hplay e1 hh hk hf1 hf2 hf3 hf4 hwd hi hil
  have HBACK := Lib.hid hback
  clear hback
  by_cases ho : o1 = 0
  · subst ho
    obtain ⟨nv0, hO3⟩ := hO2
    simp only [rcells] at hO3
    obtain ⟨y0, y1, y2⟩ := hO3.blk1.own
    obtain ⟨z0, z1, z2⟩ := (hO3.at_ 3 rfl).own
    obtain ⟨u0, u1, u2⟩ := (hO3.at_ 4 rfl).own
    have v1 : w.cell? ⟨hb, i, none⟩ = some (.int .i64 h0) := (u1 i).trans (i64s_set_at HLEN.out.2.1)
    clear u1
    have HO := Lib.hid hO3
    clear hO3
    cases hm : mayB op h0 with
    | false =>
      have HM := Lib.hid hm
      clear hm
      go_enter Try.func33, Try.ntmps33
      go_wp2_with fail
      refine (pf_may _ _ _).mono ?_
      rintro e w1 ⟨rfl, rfl⟩
      rw [HM.out]
      go_wp2_with fail
      (try simp only [Exit.inBlock, Exit.then]); refine bodyPost_ret (results_none rfl _ _ _) rfl ?_
      refine ⟨rfl, ?_⟩
      rw [HPLAY.out, if_pos trivial, HM.out]
      exact HH.out
    | true =>
      have HM := Lib.hid hm
      clear hm
      go_enter Try.func33, Try.ntmps33
      go_wp2_with fail
      refine (pf_may _ _ _).mono ?_
      rintro e w1 ⟨rfl, rfl⟩
      rw [HM.out]
      go_wp2_with fail
      have d1 : w.drew.cell? ⟨x, 1, none⟩ = some (.slice (some ⟨hb, 0, none⟩) k k) := z1 1
      have d2 : w.drew.cell? ⟨hb, i, none⟩ = some (.int .i64 h0) := v1
      have d3 : w.cell? ⟨x, 1, none⟩ = some (.slice (some ⟨hb, 0, none⟩) k k) := z1 1
      refine region_flat_call 13 rfl (by kernel_rfl) (by kernel_rfl) ?_
      simp only [List.take_succ_cons, List.take_zero, List.drop_succ_cons, List.drop_zero, probed, probes, List.nil_append]
      go_wp2_with fail
      rw [only_normal]
      refine half_static (.int .i64 (fromA op h0)) rfl rfl (enters_of Try.func76 (by kernel_rfl) rfl) (by simp [Act.eval]) (fun W _ => pf_from _ _ W) ?_
      simp only [probed, probes, List.nil_append]
      go_wp2_with fail
      rw [only_normal]
      rename_i hK
      refine hK _ _ ?_
      clear hK
      have HO1 := (HO.out.set4 i (.int .i64 (fromA op h0))).drew
      rw [i64s_set2] at HO1
      refine wp_from (Facts := fun W => Has S0 w0 W (.mem m a M.L :: .blk r #[.pointer (some ⟨m, 0, none⟩), .int .i64 M.n, .int .i64 M.mode, .int .i64 i, .int .i64 0, .int .i64 line, .int .u32 fa, .int .u32 fb, .int .i64 st, .bool on, .int .i64 wc, .int .i64 wi, .bool hit, .int .i64 ret, .int .i64 ak, .int .i64 ac, .int .u32 ax, .int .u32 ay, .int .u32 ao, nv0] :: .own 115 4 nv0 notes.length (nts notes) :: .blk x #[.slice (some ⟨b, off, none⟩) k cap, .slice (some ⟨hb, 0, none⟩) k k] :: .blk hb (i64s (M.hold.set i (fromA op h0))).toArray :: rest)) ?_ HO1
      clear HO HO1 y0 y1 y2 z0 z1 z2 u0 u2 v1 d1 d2 d3 p0 p1
      intro W HW
      obtain ⟨y0, y1, y2⟩ := HW.blk1.own
      rename_i hK2 K0
      have HK2 := Lib.hid hK2
      clear hK2
      go_wp2_with fail
      refine HK2.out _ _ ?_
      clear HK2
      refine wp_from (Facts := fun W => Opn S0 w0 m a x hb r (.slice (some ⟨b, off, none⟩) k cap) k (M.hold.set i (fromA op h0)) rest ⟨M.n, M.mode, i, ⟨op, 0, 0, 0, 0, ⟨false, 0, 0, false⟩, 0⟩, ⟨ak, ac, ax, ay, ao⟩, notes, M.L⟩ W) ?_ ?_
      rotate_left
      · refine ⟨nv0, ?_⟩
        have H2 := ((((((((((HW.set1 4 (.int .i64 op)).set1 5 (.int .i64 0)).set1 6 (.int .u32 0)).set1 7 (.int .u32 0)).set1 8 (.int .i64 0)).set1 9 (.bool false)).set1 10 (.int .i64 0)).set1 11 (.int .i64 0)).set1 12 (.bool false)).set1 13 (.int .i64 0))
        simp only [List.setIfInBounds_toArray, List.set_cons_zero, List.set_cons_succ] at H2
        exact H2
      clear HW y0 y1 y2
      rename_i W0
      clear W0
      intro W HT
      have hstk := fun W rs (HX : Has S0 w0 W (.mem m a M.L :: rs)) nv => run_stuck (s := ⟨M.n, M.mode, i, ⟨op, 0, 0, 0, 0, ⟨false, 0, 0, false⟩, 0⟩, ⟨ak, ac, ax, ay, ao⟩, notes, M.L⟩) HX HLEN.out.2.2.1 nv
      have hok1 : FrOk ⟨op, 0, 0, 0, 0, ⟨false, 0, 0, false⟩, 0⟩ := ⟨by simp, by simp⟩
      have hstep := fun W rs (HX : RunHas S0 w0 m a r rs ⟨M.n, M.mode, i, ⟨op, 0, 0, 0, 0, ⟨false, 0, 0, false⟩, 0⟩, ⟨ak, ac, ax, ay, ao⟩, notes, M.L⟩ W) => pf_stepR HX ⟨HLEN.out.2.2.1, hok1⟩
      have hsok := (pf_stepok (s := ⟨M.n, M.mode, i, ⟨op, 0, 0, 0, 0, ⟨false, 0, 0, false⟩, 0⟩, ⟨ak, ac, ax, ay, ao⟩, notes, M.L⟩) HLEN.out.2.2.2 ⟨HLEN.out.2.2.1, hok1⟩).1
      have hsame := pf_step_same ⟨M.n, M.mode, i, ⟨op, 0, 0, 0, 0, ⟨false, 0, 0, false⟩, 0⟩, ⟨ak, ac, ax, ay, ao⟩, notes, M.L⟩
      generalize hS2 : stepR pfA ⟨M.n, M.mode, i, ⟨op, 0, 0, 0, 0, ⟨false, 0, 0, false⟩, 0⟩, ⟨ak, ac, ax, ay, ao⟩, notes, M.L⟩ = s2 at hstep hsok hsame
      have hgoes := goes_of (h := (fromA op h0)) (step_run pfA M i ⟨op, 0, 0, 0, 0, ⟨false, 0, 0, false⟩, 0⟩ ⟨ak, ac, ax, ay, ao⟩ notes hS2)
      clear hS2
      simp only at hgoes
      simp only [rcells] at hstk
      generalize hsb : (!false && stuckA M.L M.n M.mode i 0) = sb at hstk hgoes
      clear hsb hok1
      have HSTK := Lib.hid hstk
      have HSTEP := Lib.hid hstep
      have HGOES := Lib.hid hgoes
      have HSOK := Lib.hid hsok
      have HSAME := Lib.hid hsame
      clear hstk hstep hgoes hsok hsame
      obtain ⟨nv, HT⟩ := HT
      simp only [rcells] at HT
      obtain ⟨y0, y1, y2⟩ := HT.blk1.own
      have hld := rangeAt_list y1
      go_wp2_with (refine wpList_load_mid rfl 52 (.tmp 51) rfl r 0 rfl _ _ hld Try.underlying52 rfl (by kernel_rfl) ?_)
      refine (HSTK.out _ _ HT nv).mono ?_
      rintro e w2 ⟨rfl, HT2⟩
      clear y0 y1 y2 HT hld
      cases sb with
      | true =>
        go_wp2_with fail
        (try simp only [Exit.inBlock, Exit.then]); refine bodyPost_ret (results_none rfl _ _ _) rfl ?_
        refine ⟨rfl, ?_⟩
        rw [HPLAY.out, if_pos trivial, if_pos HM.out, HGOES.out, if_pos trivial]
        exact HBACK.out _ ⟨M.n, M.mode, i, ⟨op, 0, 0, 0, 0, ⟨false, 0, 0, false⟩, 0⟩, ⟨ak, ac, ax, ay, ao⟩, notes, M.L⟩ _ ⟨nv, HT2⟩ ⟨by simp, by simp⟩ rfl rfl rfl
      | false =>
        go_wp2_with fail
        refine (HSTEP.out _ _ ⟨nv, HT2⟩).mono ?_
        rintro e w3 ⟨rfl, HT3⟩
        clear HT2
        obtain ⟨n', mode', task', ⟨o2, line', fa', fb', st', ⟨on', wc', wi', hit'⟩, ret2⟩, ⟨ak', ac', ax', ay', ao'⟩, notes', L'⟩ := s2
        have hsm := HSAME.out
        simp only at hsm
        obtain ⟨q1, q2, q3⟩ := hsm
        subst q1 q2 q3
        have hg2 := HGOES.out
        rw [if_neg (by decide)] at hg2
        have HG2 := Lib.hid hg2
        clear hg2 HSTK HSTEP HGOES HSAME
        cases hov : (⟨M.n, M.mode, i, ⟨o2, line', fa', fb', st', ⟨on', wc', wi', hit'⟩, ret2⟩, ⟨ak', ac', ax', ay', ao'⟩, notes', L'⟩ : Rn).over with
        | false =>
          have HOV := Lib.hid hov
          clear hov
          go_wp2_with fail
          go_end0
          refine ⟨rfl, ?_⟩
          rw [HPLAY.out, if_pos trivial, if_pos HM.out, HG2.out, if_neg (by rw [HOV.out]; decide)]
          exact HBACK.out _ ⟨M.n, M.mode, i, ⟨o2, line', fa', fb', st', ⟨on', wc', wi', hit'⟩, ret2⟩, ⟨ak', ac', ax', ay', ao'⟩, notes', L'⟩ _ HT3 ⟨HSOK.out.2.1, HSOK.out.2.2⟩ rfl rfl rfl
        | true =>
          have HOV := Lib.hid hov
          clear hov
          obtain ⟨nv3, HT3⟩ := HT3
          simp only [rcells] at HT3
          obtain ⟨y0, y1, y2⟩ := HT3.blk1.own
          obtain ⟨z0, z1, z2⟩ := (HT3.at_ 3 rfl).own
          obtain ⟨u0, u1, u2⟩ := (HT3.at_ 4 rfl).own
          have v1 : w3.cell? ⟨hb, i, none⟩ = some (.int .i64 (fromA op h0)) := (u1 i).trans (i64s_set_at HLEN.out.2.1)
          clear u1
          go_wp2_with fail
          refine region_flat_call 22 rfl (by kernel_rfl) (by kernel_rfl) ?_
          simp only [List.take_succ_cons, List.take_zero, List.drop_succ_cons, List.drop_zero, probed, probes, List.nil_append]
          go_wp2_with fail
          rw [only_normal]
          refine half_static (.int .i64 (behindA o2 ret2 (fromA op h0))) rfl rfl (enters_of Try.func77 (by kernel_rfl) rfl) (by simp [Act.eval]) (fun W _ => pf_behind _ _ _ W) ?_
          simp only [probed, probes, List.nil_append]
          go_wp2_with fail
          rw [only_normal]
          rename_i hK
          refine hK _ _ ?_
          clear hK
          have HO1 := (HT3.set4 i (.int .i64 (behindA o2 ret2 (fromA op h0)))).drew
          rw [i64s_set2] at HO1
          refine wp_from (Facts := fun W => Has S0 w0 W (.mem m a L' :: .blk r #[.pointer (some ⟨m, 0, none⟩), .int .i64 M.n, .int .i64 M.mode, .int .i64 i, .int .i64 o2, .int .i64 line', .int .u32 fa', .int .u32 fb', .int .i64 st', .bool on', .int .i64 wc', .int .i64 wi', .bool hit', .int .i64 ret2, .int .i64 ak', .int .i64 ac', .int .u32 ax', .int .u32 ay', .int .u32 ao', nv3] :: .own 115 4 nv3 notes'.length (nts notes') :: .blk x #[.slice (some ⟨b, off, none⟩) k cap, .slice (some ⟨hb, 0, none⟩) k k] :: .blk hb (i64s (M.hold.set i (behindA o2 ret2 (fromA op h0)))).toArray :: rest)) ?_ HO1
          clear HT3 HO1 y0 y1 y2 z0 z1 z2 u0 u2 v1
          intro W2 HW
          obtain ⟨y0, y1, y2⟩ := HW.blk1.own
          go_wp2_with fail
          go_end0
          refine ⟨rfl, ?_⟩
          rw [HPLAY.out, if_pos trivial, if_pos HM.out, HG2.out, if_pos HOV.out]
          refine HBACK.out _ ⟨M.n, M.mode, i, ⟨0, 0, 0, 0, 0, ⟨false, 0, 0, false⟩, 0⟩, ⟨ak', ac', ax', ay', ao'⟩, notes', L'⟩ _ ⟨nv3, ?_⟩ ⟨by simp, by simp⟩ rfl rfl rfl
          have H2 := ((((((((((HW.set1 4 (.int .i64 0)).set1 5 (.int .i64 0)).set1 6 (.int .u32 0)).set1 7 (.int .u32 0)).set1 8 (.int .i64 0)).set1 9 (.bool false)).set1 10 (.int .i64 0)).set1 11 (.int .i64 0)).set1 12 (.bool false)).set1 13 (.int .i64 0))
          simp only [List.setIfInBounds_toArray, List.set_cons_zero, List.set_cons_succ] at H2
          exact H2
  · obtain ⟨nv0, hO3⟩ := hO2
    simp only [rcells] at hO3
    obtain ⟨y0, y1, y2⟩ := hO3.blk1.own
    obtain ⟨z0, z1, z2⟩ := (hO3.at_ 3 rfl).own
    have HO := Lib.hid hO3
    have ho1 : (o1 == 0) = false := by simpa using ho
    have HNO := Lib.hid ho
    clear hO3 ho
    go_enter Try.func33, Try.ntmps33
    refine wp_from (Facts := fun W => W = w) ?_ rfl
    rintro W rfl
    have HT : Opn S0 w0 m a x hb r (.slice (some ⟨b, off, none⟩) k cap) k (M.hold.set i h0) rest ⟨M.n, M.mode, i, ⟨o1, line, fa, fb, st, ⟨on, wc, wi, hit⟩, ret⟩, ⟨ak, ac, ax, ay, ao⟩, notes, M.L⟩ W := ⟨nv0, HO.out⟩
    clear y0 y1 y2
    have hstk := fun W rs (HX : Has S0 w0 W (.mem m a M.L :: rs)) nv => run_stuck (s := ⟨M.n, M.mode, i, ⟨o1, line, fa, fb, st, ⟨on, wc, wi, hit⟩, ret⟩, ⟨ak, ac, ax, ay, ao⟩, notes, M.L⟩) HX HLEN.out.2.2.1 nv
    have hok1 : FrOk ⟨o1, line, fa, fb, st, ⟨on, wc, wi, hit⟩, ret⟩ := HFOK
    have hstep := fun W rs (HX : RunHas S0 w0 m a r rs ⟨M.n, M.mode, i, ⟨o1, line, fa, fb, st, ⟨on, wc, wi, hit⟩, ret⟩, ⟨ak, ac, ax, ay, ao⟩, notes, M.L⟩ W) => pf_stepR HX ⟨HLEN.out.2.2.1, hok1⟩
    have hsok := (pf_stepok (s := ⟨M.n, M.mode, i, ⟨o1, line, fa, fb, st, ⟨on, wc, wi, hit⟩, ret⟩, ⟨ak, ac, ax, ay, ao⟩, notes, M.L⟩) HLEN.out.2.2.2 ⟨HLEN.out.2.2.1, hok1⟩).1
    have hsame := pf_step_same ⟨M.n, M.mode, i, ⟨o1, line, fa, fb, st, ⟨on, wc, wi, hit⟩, ret⟩, ⟨ak, ac, ax, ay, ao⟩, notes, M.L⟩
    generalize hS2 : stepR pfA ⟨M.n, M.mode, i, ⟨o1, line, fa, fb, st, ⟨on, wc, wi, hit⟩, ret⟩, ⟨ak, ac, ax, ay, ao⟩, notes, M.L⟩ = s2 at hstep hsok hsame
    have hgoes := goes_of (h := h0) (step_run pfA M i ⟨o1, line, fa, fb, st, ⟨on, wc, wi, hit⟩, ret⟩ ⟨ak, ac, ax, ay, ao⟩ notes hS2)
    clear hS2
    simp only at hgoes
    simp only [rcells] at hstk
    generalize hsb : (!on && stuckA M.L M.n M.mode i st) = sb at hstk hgoes
    clear hsb hok1
    have HSTK := Lib.hid hstk
    have HSTEP := Lib.hid hstep
    have HGOES := Lib.hid hgoes
    have HSOK := Lib.hid hsok
    have HSAME := Lib.hid hsame
    clear hstk hstep hgoes hsok hsame
    obtain ⟨nv, HT⟩ := HT
    simp only [rcells] at HT
    obtain ⟨y0, y1, y2⟩ := HT.blk1.own
    have hld := rangeAt_list y1
    go_wp2_with (refine wpList_load_mid rfl 52 (.tmp 51) rfl r 0 rfl _ _ hld Try.underlying52 rfl (by kernel_rfl) ?_)
    refine (HSTK.out _ _ HT nv).mono ?_
    rintro e w2 ⟨rfl, HT2⟩
    clear y0 y1 y2 HT hld
    cases sb with
    | true =>
      go_wp2_with fail
      (try simp only [Exit.inBlock, Exit.then]); refine bodyPost_ret (results_none rfl _ _ _) rfl ?_
      refine ⟨rfl, ?_⟩
      rw [HPLAY.out, if_neg HNO.out, HGOES.out, if_pos trivial]
      exact HBACK.out _ ⟨M.n, M.mode, i, ⟨o1, line, fa, fb, st, ⟨on, wc, wi, hit⟩, ret⟩, ⟨ak, ac, ax, ay, ao⟩, notes, M.L⟩ _ ⟨nv, HT2⟩ HFOK rfl rfl rfl
    | false =>
      go_wp2_with fail
      refine (HSTEP.out _ _ ⟨nv, HT2⟩).mono ?_
      rintro e w3 ⟨rfl, HT3⟩
      clear HT2
      obtain ⟨n', mode', task', ⟨o2, line', fa', fb', st', ⟨on', wc', wi', hit'⟩, ret2⟩, ⟨ak', ac', ax', ay', ao'⟩, notes', L'⟩ := s2
      have hsm := HSAME.out
      simp only at hsm
      obtain ⟨q1, q2, q3⟩ := hsm
      subst q1 q2 q3
      have hg2 := HGOES.out
      rw [if_neg (by decide)] at hg2
      have HG2 := Lib.hid hg2
      clear hg2 HSTK HSTEP HGOES HSAME
      cases hov : (⟨M.n, M.mode, i, ⟨o2, line', fa', fb', st', ⟨on', wc', wi', hit'⟩, ret2⟩, ⟨ak', ac', ax', ay', ao'⟩, notes', L'⟩ : Rn).over with
      | false =>
        have HOV := Lib.hid hov
        clear hov
        go_wp2_with fail
        go_end0
        refine ⟨rfl, ?_⟩
        rw [HPLAY.out, if_neg HNO.out, HG2.out, if_neg (by rw [HOV.out]; decide)]
        exact HBACK.out _ ⟨M.n, M.mode, i, ⟨o2, line', fa', fb', st', ⟨on', wc', wi', hit'⟩, ret2⟩, ⟨ak', ac', ax', ay', ao'⟩, notes', L'⟩ _ HT3 ⟨HSOK.out.2.1, HSOK.out.2.2⟩ rfl rfl rfl
      | true =>
        have HOV := Lib.hid hov
        clear hov
        obtain ⟨nv3, HT3⟩ := HT3
        simp only [rcells] at HT3
        obtain ⟨y0, y1, y2⟩ := HT3.blk1.own
        obtain ⟨z0, z1, z2⟩ := (HT3.at_ 3 rfl).own
        obtain ⟨u0, u1, u2⟩ := (HT3.at_ 4 rfl).own
        have v1 : w3.cell? ⟨hb, i, none⟩ = some (.int .i64 h0) := (u1 i).trans (i64s_set_at HLEN.out.2.1)
        clear u1
        go_wp2_with fail
        refine region_flat_call 22 rfl (by kernel_rfl) (by kernel_rfl) ?_
        simp only [List.take_succ_cons, List.take_zero, List.drop_succ_cons, List.drop_zero, probed, probes, List.nil_append]
        go_wp2_with fail
        rw [only_normal]
        refine half_static (.int .i64 (behindA o2 ret2 h0)) rfl rfl (enters_of Try.func77 (by kernel_rfl) rfl) (by simp [Act.eval]) (fun W _ => pf_behind _ _ _ W) ?_
        simp only [probed, probes, List.nil_append]
        go_wp2_with fail
        rw [only_normal]
        rename_i hK
        refine hK _ _ ?_
        clear hK
        have HO1 := (HT3.set4 i (.int .i64 (behindA o2 ret2 h0))).drew
        rw [i64s_set2] at HO1
        refine wp_from (Facts := fun W => Has S0 w0 W (.mem m a L' :: .blk r #[.pointer (some ⟨m, 0, none⟩), .int .i64 M.n, .int .i64 M.mode, .int .i64 i, .int .i64 o2, .int .i64 line', .int .u32 fa', .int .u32 fb', .int .i64 st', .bool on', .int .i64 wc', .int .i64 wi', .bool hit', .int .i64 ret2, .int .i64 ak', .int .i64 ac', .int .u32 ax', .int .u32 ay', .int .u32 ao', nv3] :: .own 115 4 nv3 notes'.length (nts notes') :: .blk x #[.slice (some ⟨b, off, none⟩) k cap, .slice (some ⟨hb, 0, none⟩) k k] :: .blk hb (i64s (M.hold.set i (behindA o2 ret2 h0))).toArray :: rest)) ?_ HO1
        clear HT3 HO1 y0 y1 y2 z0 z1 z2 u0 u2 v1
        intro W2 HW
        obtain ⟨y0, y1, y2⟩ := HW.blk1.own
        go_wp2_with fail
        go_end0
        refine ⟨rfl, ?_⟩
        rw [HPLAY.out, if_neg HNO.out, HG2.out, if_pos HOV.out]
        refine HBACK.out _ ⟨M.n, M.mode, i, ⟨0, 0, 0, 0, 0, ⟨false, 0, 0, false⟩, 0⟩, ⟨ak', ac', ax', ay', ao'⟩, notes', L'⟩ _ ⟨nv3, ?_⟩ ⟨by simp, by simp⟩ rfl rfl rfl
        have H2 := ((((((((((HW.set1 4 (.int .i64 0)).set1 5 (.int .i64 0)).set1 6 (.int .u32 0)).set1 7 (.int .u32 0)).set1 8 (.int .i64 0)).set1 9 (.bool false)).set1 10 (.int .i64 0)).set1 11 (.int .i64 0)).set1 12 (.bool false)).set1 13 (.int .i64 0))
        simp only [List.setIfInBounds_toArray, List.set_cons_zero, List.set_cons_succ] at H2
        exact H2

end Go.Proofs.Ytmbbcgkfankiaaa.Z

/- Law 11: the statement PfTogether: its walk. Written by genmat.py. -/
set_option linter.unusedVariables false
set_option linter.unusedSimpArgs false
namespace Go.Proofs.Ytmbbcgkfankiaaa.Z
open Go.RowKit

set_option maxHeartbeats 1600000 in
set_option maxRecDepth 100000 in
theorem pf_whole {S0 : List Nat} {w0 w : World} {m a x hb bx : Nat} {rs : List Res} {M : Mt} (H : MatchHas S0 w0 m a x hb (.blk bx #[.pointer (some ⟨x, 0, none⟩)] :: rs) M w) {i : Nat} (hi : i < M.fs.length) (op : Int) :
    Calls Try.prog 35 #[.int .i64 i, .int .i64 op, .pointer (some ⟨bx, 0, none⟩)] w fun e w' => e = .returned (.tuple #[]) ∧ MatchHas S0 w0 m a x hb (.blk bx #[.pointer (some ⟨x, 0, none⟩)] :: rs) (wholeA pfA M i op) w' := by
  have hB := H.behind 0 rfl
  obtain ⟨b0, b1, b2⟩ := hB.own
  generalize hR : wholeA pfA M i op = R
  have HR := Lib.hid hR
  have HH := Lib.hid H
  clear H hB hR
  go_enter Try.func35, Try.ntmps35
  go_wp2_with fail
  refine (pf_play HH.out hi op).mono ?_
  rintro e w1 ⟨rfl, H1⟩
  clear b0 b1 b2
  have HV := Lib.hid H1
  clear H1
  go_wp2_with fail
  go_loopw [5] (fun c wr => ∃ (j : Nat) (M' : Mt), j ≤ 200 ∧ c = .int .i64 j ∧ MatchHas S0 w0 m a x hb (.blk bx #[.pointer (some ⟨x, 0, none⟩)] :: rs) M' wr ∧ i < M'.fs.length ∧ whileA pfA i (200 - j) M' = R) (fun c _ => 200 - (intOf c).toNat)
  case atStart => exact ⟨0, _, by omega, rfl, HV.out, by rw [(play_same _ _ _ _).2.2.1]; exact hi, HR.out⟩
  case round =>
    obtain ⟨j, M', hj, rfl, hH, hi', hw⟩ := hrel
    clear HV HH HR
    have hi1 : (0 : Int) ≤ (j : Int) := Int.natCast_nonneg _
    by_cases hj2 : j < 200
    · obtain ⟨q, hq⟩ : ∃ q, 200 - j = q + 1 := ⟨200 - j - 1, by omega⟩
      rw [hq] at hw
      unfold whileA at hw
      have hB := hH.behind 0 rfl
      obtain ⟨b0, b1, b2⟩ := hB.own
      obtain ⟨r, b, off, cap, z0, z1, z2, z3, z4, z5⟩ := hH.look hi'
      have hi2 : (j : Int) < 200 := by omega
      have hi3 : (0 : Int) ≤ (i : Int) := Int.natCast_nonneg _
      have hi4 : (i : Int) < (M'.fs.length : Int) := by omega
      have HI := Lib.hid hi'
      have HH := Lib.hid hH
      generalize hk : M'.fs.length = k at z1 hi4
      clear hi' hH hB hk
      by_cases ho : (M'.fs.getD i Fr.zero).op = 0
      · rw [if_pos ho] at hw
        rw [ho] at z5
        have HW := Lib.hid hw
        clear hw ho
        go_wp2_with fail
        go_end0
        exact ⟨rfl, by rw [← HW.out]; exact HH.out⟩
      · rw [if_neg ho] at hw
        have hne : ((M'.fs.getD i Fr.zero).op != 0) = true := by simpa using ho
        generalize (M'.fs.getD i Fr.zero).op = oo at z5 hne
        have HW := Lib.hid hw
        clear hw ho
        go_wp2_with fail
        refine (pf_play HH.out HI.out 0).mono ?_
        rintro e w2 ⟨rfl, H2⟩
        go_wp2
        go_roundw
        case rel => exact ⟨j + 1, _, by omega, by go_num, H2, by rw [(play_same _ _ _ _).2.2.1]; exact HI.out, by rw [show 200 - (j + 1) = q from by omega]; exact HW.out⟩
        case measure => simp [intOf]; omega
    · have hj3 : j = 200 := by omega
      subst hj3
      rw [Nat.sub_self] at hw
      have hw2 : M' = R := hw
      subst hw2
      have HH := Lib.hid hH
      clear hH hw hi'
      have hi2 : ¬ (((200 : Nat) : Int) < 200) := by decide
      go_wp2_with fail
      go_end0
      exact ⟨rfl, HH.out⟩

set_option maxHeartbeats 3200000 in
set_option maxRecDepth 100000 in
theorem pf_together_walk (n mode base : Int) (try_ : Bool) (w : World) (hb : 0 ≤ base ∧ base < 4294967296) (hn : 0 ≤ n ∧ n < 256) (hm : 0 ≤ mode ∧ mode < 256) (op : Int) (hop : op = if try_ then 5 else 1)
    (hT : ∀ k : Nat, (k : Int) = 2 + n % 15 → TogetherOk pfA k op (Mt.start k (1 + mode % 2) (own2 base ++ List.replicate ((8 + 4 * (k : Int)).toNat - 5) 0))) :
    Calls Try.prog 11 #[.int .u8 n, .int .u8 mode, .int .u32 base, .bool try_] w fun e w' => e = .returned (.bool true) ∧ Touch [] w w' := by
  obtain ⟨q, hk⟩ : ∃ q : Nat, 2 + n % 15 = (q : Int) + 1 := ⟨(1 + n % 15).toNat, by omega⟩
  obtain ⟨d, hd⟩ : ∃ d : Int, 1 + mode % 2 = d := ⟨_, rfl⟩
  have hT := hT (q + 1) (by omega)
  have hbg := fun W rs (HX : Has [] w W rs) => pf_begun HX (q + 1) (by omega) (by omega) d base hb
  rw [hd] at hT
  generalize own2 base ++ List.replicate ((8 + 4 * ((q + 1 : Nat) : Int)).toNat - 5) 0 = Z at hT hbg
  rw [show ((q + 1 : Nat) : Int) = (q : Int) + 1 from by omega] at hbg
  have hk1 : 1 ≤ q := by omega
  have hk2 : q ≤ 15 := by omega
  have HT := Lib.hid hT
  have HBG := Lib.hid hbg
  have HK := Lib.hid hk
  have HD := Lib.hid hd
  have hq1 : (1 : Int) ≤ (q : Int) := by omega
  have hq2 : (q : Int) ≤ 15 := by omega
  clear hT hbg hk hd
  cases try_ with
  | false =>
    subst hop
    simp only [Bool.false_eq_true, if_false] at HT
    go_enter Try.func11, Try.ntmps11
    go_wp2_with fail
    rw [HK.out, HD.out]
    refine (HBG.out _ _ (Has.start [] _)).mono ?_
    rintro e1 w1 ⟨x, m, a, hbk, p, g, cap, rfl, H1⟩
    go_wp2_with fail
    have H2 := H1.box rfl #[.pointer (some ⟨x, 0, none⟩)] 77
    refine wp_from (Facts := fun W => MatchHas [] w m a x hbk (.blk w1.heap.size #[.pointer (some ⟨x, 0, none⟩)] :: .row p g cap Z :: []) (readsA pfA 1 (Mt.start (q + 1) d Z) 0) W) ?_ H2
    clear H1 H2
    intro W HW
    generalize w1.heap.size = bx at HW ⊢
    have HV := Lib.hid HW
    clear HW
    go_loopw [13] (fun c wr => ∃ j : Nat, j ≤ q ∧ c = .int .i64 j ∧ MatchHas [] w m a x hbk (.blk bx #[.pointer (some ⟨x, 0, none⟩)] :: .row p g cap Z :: []) (readsA pfA 1 (Mt.start (q + 1) d Z) j) wr) (fun c _ => q - (intOf c).toNat)
    case atStart => exact ⟨0, Nat.zero_le _, rfl, HV.out⟩
    case round =>
      obtain ⟨j, hj, rfl, hR⟩ := hrel
      clear HV
      have hi1 : (0 : Int) ≤ (j : Int) := Int.natCast_nonneg _
      have hlen := (reads_len pfA 1 (Mt.start (q + 1) d Z) j).trans (show (Mt.start (q + 1) d Z).fs.length = q + 1 by simp [Mt.start])
      by_cases hjq : j < q
      · have hi2 : (j : Int) < (q : Int) := by omega
        have hrd : (((wholeA pfA (readsA pfA 1 (Mt.start (q + 1) d Z) j) j 1).many 1 : Nat) : Int) = (j : Int) + 1 := by
          have := HT.out.reads j (by omega)
          unfold readsA at this
          omega
        obtain ⟨b0, b1, b2⟩ := (hR.behind 0 rfl).own
        have HRD := Lib.hid hrd
        have HR := Lib.hid hR
        have HLEN := Lib.hid hlen
        clear hrd hR hlen
        go_wp2_with fail
        refine (pf_whole HR.out (by rw [HLEN.out]; omega) 1).mono ?_
        rintro e2 w2 ⟨rfl, H2⟩
        clear b0 b1 b2
        obtain ⟨b0, b1, b2⟩ := (H2.behind 0 rfl).own
        have HR2 := Lib.hid H2
        clear H2
        go_wp2_with fail
        refine (pf_many HR2.out 1).mono ?_
        rintro e3 w3 ⟨rfl, rfl⟩
        rw [HRD.out]
        go_wp2
        go_roundw
        case rel => exact ⟨j + 1, by omega, by go_num, HR2.out⟩
        case measure => simp [intOf]; omega
      · have hjq2 : j = q := by omega
        subst hjq2
        have HR := Lib.hid hR
        clear hR hlen
        have hi2 : (j : Int) ≤ (j : Int) := Int.le_refl _
        go_wp2_with fail
        have HV := HR
        clear HR
        go_loopw [14] (fun c wr => ∃ i : Nat, i ≤ j ∧ c = .int .i64 i ∧ MatchHas [] w m a x hbk (.blk bx #[.pointer (some ⟨x, 0, none⟩)] :: .row p g cap Z :: []) (givesA pfA (j + 1) (readsA pfA 1 (Mt.start (j + 1) d Z) j) i) wr) (fun c _ => j - (intOf c).toNat)
        case atStart => exact ⟨0, Nat.zero_le _, rfl, HV.out⟩
        case round =>
          obtain ⟨i, hi, rfl, hR⟩ := hrel
          clear HV
          have hi1 : (0 : Int) ≤ (i : Int) := Int.natCast_nonneg _
          have hlen := (gives_len pfA (j + 1) (readsA pfA 1 (Mt.start (j + 1) d Z) j) i).trans ((reads_len pfA 1 (Mt.start (j + 1) d Z) j).trans (show (Mt.start (j + 1) d Z).fs.length = j + 1 by simp [Mt.start]))
          by_cases hij : i < j
          · have hi2 : (i : Int) < (j : Int) := by omega
            have htr := HT.out.tried i (by omega)
            obtain ⟨b0, b1, b2⟩ := (hR.behind 0 rfl).own
            have HTR := Lib.hid htr
            have HR := Lib.hid hR
            have HLEN := Lib.hid hlen
            clear htr hR hlen
            go_wp2_with fail
            refine (pf_whole HR.out (by rw [HLEN.out]; omega) 6).mono ?_
            rintro e2 w2 ⟨rfl, H2⟩
            clear b0 b1 b2
            obtain ⟨b0, b1, b2⟩ := (H2.behind 0 rfl).own
            obtain ⟨x0, x1, x2, x3⟩ := H2.held
            rw [whole_len, HLEN.out] at x1 x3
            have hh := x3 j (by omega)
            have e4 : (wholeA pfA (givesA pfA (j + 1) (readsA pfA 1 (Mt.start (j + 1) d Z) j) i) j 6).hold.getD j 0 = 0 := HTR.out
            rw [e4] at hh
            have HR2 := Lib.hid H2
            have hjk : (j : Int) < ((j + 1 : Nat) : Int) := by omega
            generalize j + 1 = kk at x1 hjk
            clear H2 x3 e4
            go_wp2_with fail
            clear x0 x1 x2 hh b0 b1 b2 hjk
            refine (pf_whole HR2.out (by rw [whole_len, HLEN.out]; omega) 2).mono ?_
            rintro e3 w3 ⟨rfl, H3⟩
            go_wp2
            go_roundw
            case rel => exact ⟨i + 1, by omega, by go_num, H3⟩
            case measure => simp [intOf]; omega
          · have hij2 : i = j := by omega
            subst hij2
            have hl := HT.out.last
            obtain ⟨b0, b1, b2⟩ := (hR.behind 0 rfl).own
            have HLA := Lib.hid hl
            have HR := Lib.hid hR
            have HLEN := Lib.hid hlen
            clear hl hR hlen
            have hi2 : (i : Int) ≤ (i : Int) := Int.le_refl _
            go_wp2_with fail
            refine (pf_whole HR.out (by rw [HLEN.out]; omega) 6).mono ?_
            rintro e2 w2 ⟨rfl, H2⟩
            clear b0 b1 b2
            obtain ⟨b0, b1, b2⟩ := (H2.behind 0 rfl).own
            obtain ⟨x0, x1, x2, x3⟩ := H2.held
            rw [whole_len, HLEN.out] at x1 x3
            have hh := x3 i (by omega)
            have e4 : (wholeA pfA (givesA pfA (i + 1) (readsA pfA 1 (Mt.start (i + 1) d Z) i) i) i 6).hold.getD i 0 = 2 := HLA.out.1
            have e5 : (((wholeA pfA (givesA pfA (i + 1) (readsA pfA 1 (Mt.start (i + 1) d Z) i) i) i 6).many 1 : Nat) : Int) = 0 := by have := HLA.out.2; simp only [Nat.add_sub_cancel] at this; omega
            rw [e4] at hh
            have HE5 := Lib.hid e5
            have HR2 := Lib.hid H2
            have hjk : (i : Int) < ((i + 1 : Nat) : Int) := by omega
            generalize i + 1 = kk at x1 hjk
            clear H2 x3 e4 e5
            go_wp2_with fail
            refine (pf_many HR2.out 1).mono ?_
            rintro e3 w3 ⟨rfl, rfl⟩
            rw [HE5.out]
            go_wp2_with fail
            refine (pf_awake _).mono ?_
            rintro e4 w4 ⟨rfl, t4⟩
            go_wp2
            go_ret
            exact ⟨rfl, (HR2.out.grow t4).touch⟩
  | true =>
    subst hop
    simp only [if_true] at HT
    go_enter Try.func11, Try.ntmps11
    go_wp2_with fail
    rw [HK.out, HD.out]
    refine (HBG.out _ _ (Has.start [] _)).mono ?_
    rintro e1 w1 ⟨x, m, a, hbk, p, g, cap, rfl, H1⟩
    go_wp2_with fail
    have H2 := H1.box rfl #[.pointer (some ⟨x, 0, none⟩)] 77
    refine wp_from (Facts := fun W => MatchHas [] w m a x hbk (.blk w1.heap.size #[.pointer (some ⟨x, 0, none⟩)] :: .row p g cap Z :: []) (readsA pfA 5 (Mt.start (q + 1) d Z) 0) W) ?_ H2
    clear H1 H2
    intro W HW
    generalize w1.heap.size = bx at HW ⊢
    have HV := Lib.hid HW
    clear HW
    go_loopw [13] (fun c wr => ∃ j : Nat, j ≤ q ∧ c = .int .i64 j ∧ MatchHas [] w m a x hbk (.blk bx #[.pointer (some ⟨x, 0, none⟩)] :: .row p g cap Z :: []) (readsA pfA 5 (Mt.start (q + 1) d Z) j) wr) (fun c _ => q - (intOf c).toNat)
    case atStart => exact ⟨0, Nat.zero_le _, rfl, HV.out⟩
    case round =>
      obtain ⟨j, hj, rfl, hR⟩ := hrel
      clear HV
      have hi1 : (0 : Int) ≤ (j : Int) := Int.natCast_nonneg _
      have hlen := (reads_len pfA 5 (Mt.start (q + 1) d Z) j).trans (show (Mt.start (q + 1) d Z).fs.length = q + 1 by simp [Mt.start])
      by_cases hjq : j < q
      · have hi2 : (j : Int) < (q : Int) := by omega
        have hrd : (((wholeA pfA (readsA pfA 5 (Mt.start (q + 1) d Z) j) j 5).many 1 : Nat) : Int) = (j : Int) + 1 := by
          have := HT.out.reads j (by omega)
          unfold readsA at this
          omega
        obtain ⟨b0, b1, b2⟩ := (hR.behind 0 rfl).own
        have HRD := Lib.hid hrd
        have HR := Lib.hid hR
        have HLEN := Lib.hid hlen
        clear hrd hR hlen
        go_wp2_with fail
        refine (pf_whole HR.out (by rw [HLEN.out]; omega) 5).mono ?_
        rintro e2 w2 ⟨rfl, H2⟩
        clear b0 b1 b2
        obtain ⟨b0, b1, b2⟩ := (H2.behind 0 rfl).own
        have HR2 := Lib.hid H2
        clear H2
        go_wp2_with fail
        refine (pf_many HR2.out 1).mono ?_
        rintro e3 w3 ⟨rfl, rfl⟩
        rw [HRD.out]
        go_wp2
        go_roundw
        case rel => exact ⟨j + 1, by omega, by go_num, HR2.out⟩
        case measure => simp [intOf]; omega
      · have hjq2 : j = q := by omega
        subst hjq2
        have HR := Lib.hid hR
        clear hR hlen
        have hi2 : (j : Int) ≤ (j : Int) := Int.le_refl _
        go_wp2_with fail
        have HV := HR
        clear HR
        go_loopw [14] (fun c wr => ∃ i : Nat, i ≤ j ∧ c = .int .i64 i ∧ MatchHas [] w m a x hbk (.blk bx #[.pointer (some ⟨x, 0, none⟩)] :: .row p g cap Z :: []) (givesA pfA (j + 1) (readsA pfA 5 (Mt.start (j + 1) d Z) j) i) wr) (fun c _ => j - (intOf c).toNat)
        case atStart => exact ⟨0, Nat.zero_le _, rfl, HV.out⟩
        case round =>
          obtain ⟨i, hi, rfl, hR⟩ := hrel
          clear HV
          have hi1 : (0 : Int) ≤ (i : Int) := Int.natCast_nonneg _
          have hlen := (gives_len pfA (j + 1) (readsA pfA 5 (Mt.start (j + 1) d Z) j) i).trans ((reads_len pfA 5 (Mt.start (j + 1) d Z) j).trans (show (Mt.start (j + 1) d Z).fs.length = j + 1 by simp [Mt.start]))
          by_cases hij : i < j
          · have hi2 : (i : Int) < (j : Int) := by omega
            have htr := HT.out.tried i (by omega)
            obtain ⟨b0, b1, b2⟩ := (hR.behind 0 rfl).own
            have HTR := Lib.hid htr
            have HR := Lib.hid hR
            have HLEN := Lib.hid hlen
            clear htr hR hlen
            go_wp2_with fail
            refine (pf_whole HR.out (by rw [HLEN.out]; omega) 6).mono ?_
            rintro e2 w2 ⟨rfl, H2⟩
            clear b0 b1 b2
            obtain ⟨b0, b1, b2⟩ := (H2.behind 0 rfl).own
            obtain ⟨x0, x1, x2, x3⟩ := H2.held
            rw [whole_len, HLEN.out] at x1 x3
            have hh := x3 j (by omega)
            have e4 : (wholeA pfA (givesA pfA (j + 1) (readsA pfA 5 (Mt.start (j + 1) d Z) j) i) j 6).hold.getD j 0 = 0 := HTR.out
            rw [e4] at hh
            have HR2 := Lib.hid H2
            have hjk : (j : Int) < ((j + 1 : Nat) : Int) := by omega
            generalize j + 1 = kk at x1 hjk
            clear H2 x3 e4
            go_wp2_with fail
            clear x0 x1 x2 hh b0 b1 b2 hjk
            refine (pf_whole HR2.out (by rw [whole_len, HLEN.out]; omega) 2).mono ?_
            rintro e3 w3 ⟨rfl, H3⟩
            go_wp2
            go_roundw
            case rel => exact ⟨i + 1, by omega, by go_num, H3⟩
            case measure => simp [intOf]; omega
          · have hij2 : i = j := by omega
            subst hij2
            have hl := HT.out.last
            obtain ⟨b0, b1, b2⟩ := (hR.behind 0 rfl).own
            have HLA := Lib.hid hl
            have HR := Lib.hid hR
            have HLEN := Lib.hid hlen
            clear hl hR hlen
            have hi2 : (i : Int) ≤ (i : Int) := Int.le_refl _
            go_wp2_with fail
            refine (pf_whole HR.out (by rw [HLEN.out]; omega) 6).mono ?_
            rintro e2 w2 ⟨rfl, H2⟩
            clear b0 b1 b2
            obtain ⟨b0, b1, b2⟩ := (H2.behind 0 rfl).own
            obtain ⟨x0, x1, x2, x3⟩ := H2.held
            rw [whole_len, HLEN.out] at x1 x3
            have hh := x3 i (by omega)
            have e4 : (wholeA pfA (givesA pfA (i + 1) (readsA pfA 5 (Mt.start (i + 1) d Z) i) i) i 6).hold.getD i 0 = 2 := HLA.out.1
            have e5 : (((wholeA pfA (givesA pfA (i + 1) (readsA pfA 5 (Mt.start (i + 1) d Z) i) i) i 6).many 1 : Nat) : Int) = 0 := by have := HLA.out.2; simp only [Nat.add_sub_cancel] at this; omega
            rw [e4] at hh
            have HE5 := Lib.hid e5
            have HR2 := Lib.hid H2
            have hjk : (i : Int) < ((i + 1 : Nat) : Int) := by omega
            generalize i + 1 = kk at x1 hjk
            clear H2 x3 e4 e5
            go_wp2_with fail
            refine (pf_many HR2.out 1).mono ?_
            rintro e3 w3 ⟨rfl, rfl⟩
            rw [HE5.out]
            go_wp2_with fail
            refine (pf_awake _).mono ?_
            rintro e4 w4 ⟨rfl, t4⟩
            go_wp2
            go_ret
            exact ⟨rfl, (HR2.out.grow t4).touch⟩

end Go.Proofs.Ytmbbcgkfankiaaa.Z

/- A lock's operation by itself, line by line. No program is in sight but the model's words. -/
set_option linter.unusedVariables false
set_option linter.unusedSimpArgs false
namespace Go.Proofs.Ytmbbcgkfankiaaa.Z
open Go.RowKit

/-- A run at a line, afresh. -/
def RnF (n mode op line a b : Int) (L : List Int) : Rn := ⟨n, mode, 0, ⟨op, line, a, b, 0, Wk.zero, 0⟩, Acc.zero, [], L⟩
def At (n mode : Int) (s : Rn) (op line a b : Int) (L : List Int) : Prop := s.fresh = RnF n mode op line a b L

section
variable {n mode : Int} {s s1 : Rn} {op line a b line' a' b' : Int} {L L' : List Int} {g : Rn → Rn}
theorem At.wk (h : At n mode s op line a b L) : s.f.wk = Wk.zero := congrArg (fun x => x.f.wk) h
theorem At.ret (h : At n mode s op line a b L) : s.f.ret = 0 := congrArg (fun x => x.f.ret) h
theorem At.over (h : At n mode s op line a b L) : s.over = false := by unfold Rn.over; rw [h.ret]; rfl
theorem At.step (h : At n mode s op line a b L) : stepR g s = g (RnF n mode op line a b L) := by
  unfold stepR
  rw [h.wk]
  show g s.fresh = _
  rw [show s.fresh = _ from h]
theorem start_at : At n mode (start n mode op L) op 0 0 0 L := rfl

/-- A line, and on. -/
theorem At.go (h : At n mode s op line a b L) (hg : g (RnF n mode op line a b L) = s1) (h1 : At n mode s1 op line' a' b' L') (q : Nat) : aloneA g (q + 1) s = aloneA g q s1 := by
  show (if (stepR g s).over then ((stepR g s).f.ret, stepR g s) else aloneA g q (stepR g s)) = _
  rw [h.step, hg, h1.over]
  rfl
/-- A line that ends the operation. -/
theorem At.fin (h : At n mode s op line a b L) (hg : g (RnF n mode op line a b L) = s1) (hr : s1.f.ret ≠ 0) (hk : s1.f.wk = Wk.zero) (q : Nat) : aloneA g (q + 1) s = (s1.f.ret, s1) := by
  show (if (stepR g s).over then ((stepR g s).f.ret, stepR g s) else aloneA g q (stepR g s)) = _
  rw [h.step, hg, if_pos (by unfold Rn.over; rw [hk]; simpa [Wk.zero] using hr)]
theorem At.fin2 (h : At n mode s op line a b L) (hg : g (RnF n mode op line a b L) = s1) (hr : s1.f.ret ≠ 0) (hk : s1.f.wk = Wk.zero) (q : Nat) : ∃ s', aloneA g (q + 1) s = (s1.f.ret, s') ∧ s'.L = s1.L := ⟨s1, h.fin hg hr hk q, rfl⟩
/-- A line that ends the operation, and begins a wake-up. -/
theorem At.ends (h : At n mode s op line a b L) (c : Int) (hg : g (RnF n mode op line a b L) = s1) (hr : s1.f.ret ≠ 0) (hk : s1.f.wk = beginA mode c) (hn : s1.n = n) (h1 : 1 ≤ n) (hc : NoWatch n c s1.L) (q : Nat) :
    ∃ s', aloneA g (q + n.toNat + 1) s = (s1.f.ret, s') ∧ s'.L = s1.L := by
  have hgo : aloneA g (q + n.toNat + 1) s = if s1.over then (s1.f.ret, s1) else aloneA g (q + n.toNat) s1 := by
    show (if (stepR g s).over then ((stepR g s).f.ret, stepR g s) else aloneA g (q + n.toNat) (stepR g s)) = _
    rw [h.step, hg]
  by_cases h2 : mode = 2
  · have hk2 : s1.f.wk = ⟨true, c, 0, false⟩ := by rw [hk]; unfold beginA; rw [if_pos h2]
    obtain ⟨s', _, _, k3, _, k5, _⟩ := alone_wakes g c n.toNat s1 0 (q + n.toNat) hk2 (Int.le_refl _) (by omega) (by omega) (by rw [hn]; exact hc) (by omega)
    refine ⟨s', ?_, k3⟩
    rw [hgo, if_neg (by unfold Rn.over; rw [hk2]; simp), k5 hr]
  · have hk2 : s1.f.wk = Wk.zero := by rw [hk]; unfold beginA; rw [if_neg h2]
    refine ⟨s1, ?_, rfl⟩
    rw [hgo, if_pos (by unfold Rn.over; rw [hk2]; simpa [Wk.zero] using hr)]
/-- A line that begins a wake-up, behind which the operation goes on. -/
theorem At.wakes (h : At n mode s op line a b L) (c : Int) (hg : g (RnF n mode op line a b L) = s1) (hr : s1.rests = RnF n mode op line' a' b' L') (hk : s1.f.wk = beginA mode c) (h1 : 1 ≤ n) (hc : NoWatch n c L') (q : Nat) :
    ∃ s' q', At n mode s' op line' a' b' L' ∧ q ≤ q' ∧ aloneA g (q + n.toNat + 1) s = aloneA g q' s' := by
  have hL : s1.L = L' := congrArg (fun x => x.L) hr
  have hn : s1.n = n := congrArg (fun x => x.n) hr
  have hret : s1.f.ret = 0 := congrArg (fun x => x.f.ret) hr
  have hgo : aloneA g (q + n.toNat + 1) s = if s1.over then (s1.f.ret, s1) else aloneA g (q + n.toNat) s1 := by
    show (if (stepR g s).over then ((stepR g s).f.ret, stepR g s) else aloneA g (q + n.toNat) (stepR g s)) = _
    rw [h.step, hg]
  have hov : s1.over = false := by unfold Rn.over; rw [hret]; rfl
  rw [hov] at hgo
  by_cases h2 : mode = 2
  · have hk2 : s1.f.wk = ⟨true, c, 0, false⟩ := by rw [hk]; unfold beginA; rw [if_pos h2]
    obtain ⟨s', k1, _, _, _, _, k6⟩ := alone_wakes g c n.toNat s1 0 (q + n.toNat) hk2 (Int.le_refl _) (by omega) (by omega) (by rw [hn, hL]; exact hc) (by omega)
    refine ⟨s', q, k1.trans hr, Nat.le_refl _, ?_⟩
    rw [hgo]
    have := k6 hret
    rw [Nat.add_sub_cancel] at this
    exact this
  · have hk2 : s1.f.wk = Wk.zero := by rw [hk]; unfold beginA; rw [if_neg h2]
    refine ⟨s1, q + n.toNat, ?_, by omega, hgo⟩
    unfold At
    rw [← hr]
    unfold Rn.fresh Rn.rests
    rw [← hk2]
end

theorem stageA_0 (mode : Int) : stageA mode 0 = 0 := by unfold stageA; split <;> rfl
/-- What is waited for holds. -/
theorem wait_hit {L : List Int} {n mode task c : Int} {p : Int → Bool} (h : p (doA L ⟨1, c, 0, 0, 0⟩).1.old = true) : waitA L n mode task 0 c p = ⟨0, (doA L ⟨1, c, 0, 0, 0⟩).1, true, true, L⟩ := by
  rw [waitA0 (stageA_0 mode), h]
  rfl

end Go.Proofs.Ytmbbcgkfankiaaa.Z
