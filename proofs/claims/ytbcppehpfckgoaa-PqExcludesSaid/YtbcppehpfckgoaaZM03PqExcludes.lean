/- 6 texts of this claim, joined: what each shows stands at its own head. -/
import Derived.Test.YtbcppehpfckgoaaZMat2
import Derived.Test.YtbcppehpfckgoaaZM02PqExcludes
import Derived.Test.YtbcppehpfckgoaaZM01PqExcludes
import Derived.Test.YtbcppehpfckgoaaZMatch
import Derived.Test.YtbcppehpfckgoaaZPlace
import Derived.Test.YtbcppehpfckgoaaZMat
import Derived.Test.YtbcppehpfckgoaaZFlat5
import Derived.Test.YtbcppehpfckgoaaZRead
import Derived.ProofKit
import Derived.OpenShut
import Derived.ChangeOld
import Derived.SizedLaws
import Derived.Deep.Slices
import Derived.Test.YtbcppehpfckgoaaZOwn
/- Law 14: how many hold something; how a match begins. Written by genmat.py. -/
set_option linter.unusedVariables false
set_option linter.unusedSimpArgs false
namespace Go.Proofs.Ytbcppehpfckgoaa.Z
open Go.RowKit

set_option maxHeartbeats 1600000 in
theorem pq_many {S0 : List Nat} {w0 w : World} {m a x hb : Nat} {rs : List Res} {M : Mt} (H : MatchHas S0 w0 m a x hb rs M w) (what : Int) :
    Calls Try.prog 34 #[.pointer (some ⟨x, 0, none⟩), .int .i64 what] w fun e w' => e = .returned (.int .i64 (M.many what)) ∧ w = w' := by
  obtain ⟨hf1, hf2, hf3, hf4⟩ := H.fit
  obtain ⟨x0, x1, x2, x3⟩ := H.held
  generalize hk : M.fs.length = k at hf1 hf4 x1 x3
  have HX3 := Lib.hid x3
  have HL := Lib.hid hf1
  have HK := Lib.hid hf4
  clear hf1 hf2 hf3 hf4 x3 hk H
  go_enter Try.func34, Try.ntmps34
  go_wp2_with fail
  go_loopw [5, 6] (fun c i wr => wr = w ∧ ∃ j : Nat, j ≤ k ∧ i = .int .i64 j ∧ c = .int .i64 ((M.hold.take j).countP (· == what) : Nat)) (fun _ i _ => k - (intOf i).toNat)
  case atStart => exact ⟨rfl, 0, Nat.zero_le _, rfl, by simp⟩
  case round =>
    obtain ⟨rfl, j, hj, rfl, rfl⟩ := hrel
    by_cases hjk : j < k
    · have hc := HX3.out j hjk
      have hcs := count_snoc M.hold what j (by rw [HL.out]; exact hjk)
      have hcl : (M.hold.take j).countP (· == what) ≤ k := Nat.le_trans List.countP_le_length (by rw [List.length_take]; omega)
      have hk64 := HK.out
      generalize (M.hold.take j).countP (· == what) = cnt at hcs hcl ⊢
      generalize M.hold.getD j 0 = v at hc hcs
      have HCS := Lib.hid hcs
      have hi1 : (0 : Int) ≤ (j : Int) := Int.natCast_nonneg _
      have hi2 : (j : Int) < (k : Int) := by omega
      clear hcs
      by_cases hv : v = what
      · subst hv
        go_wp2
        go_roundw
        case rel => exact ⟨trivial, j + 1, by omega, by go_num, by rw [HCS.out, if_pos rfl]; go_num⟩
        case measure => simp [intOf]; omega
      · have hv2 : (v == what) = false := by simpa using hv
        have HV := Lib.hid hv
        clear hv
        go_wp2
        go_roundw
        case rel => exact ⟨trivial, j + 1, by omega, by go_num, by rw [HCS.out, if_neg HV.out, Nat.add_zero]⟩
        case measure => simp [intOf]; omega
    · have hjk2 : j = k := by omega
      subst hjk2
      have e : (M.hold.take j).countP (· == what) = M.many what := by unfold Mt.many; rw [← HL.out, List.take_length]
      rw [e]
      clear HX3 HL e
      have hi2 : (j : Int) ≤ (j : Int) := Int.le_refl _
      go_wp2
      go_ret
      exact ⟨rfl, rfl⟩

theorem ptr_info : (Try.prog.info? 46).map (fun i => (i.zero, i.size, i.bytes)) = some (some (.pointer none), 1, 8) := by kernel_rfl
theorem int_info : (Try.prog.info? 3).map (fun i => (i.zero, i.size, i.bytes)) = some (some (.int .i64 0), 1, 8) := by kernel_rfl

def PqBegun (S0 : List Nat) (w0 : World) (k : Nat) (mode : Int) (Z : List Int) (rs : List Res) (e : Ending) (w' : World) : Prop :=
  ∃ x m a hb p g cap, e = .returned (.pointer (some ⟨x, 0, none⟩)) ∧ MatchHas S0 w0 m a x hb (.row p g cap Z :: rs) (Mt.start k mode Z) w'

set_option maxHeartbeats 3200000 in
set_option maxRecDepth 100000 in
theorem pq_begun {S0 : List Nat} {w0 w : World} {rs : List Res} (H : Has S0 w0 w rs) (k : Nat) (h1 : 1 ≤ k) (h2 : k ≤ 64) (mode base : Int) (hb : 0 ≤ base ∧ base < 4294967296) :
    Calls Try.prog 32 #[.int .i64 k, .int .i64 mode, .int .u32 base] w (PqBegun S0 w0 k mode (own3 base ++ List.replicate ((8 + 4 * (k : Int)).toNat - 4) 0) rs) := by
  have hf := fun W => first3 k base W ⟨by omega, by omega⟩ hb
  generalize own3 base ++ List.replicate ((8 + 4 * (k : Int)).toNat - 4) 0 = Z at hf
  obtain ⟨i0, hi0, hz0, hz1, hz2⟩ := info_parts ptr_info
  have HI := Lib.hid (show _ ∧ _ ∧ _ ∧ _ from ⟨hi0, hz0, hz1, hz2⟩)
  clear hi0 hz0 hz1 hz2
  obtain ⟨j0, hj0, hy0, hy1, hy2⟩ := info_parts int_info
  have HJ := Lib.hid (show _ ∧ _ ∧ _ ∧ _ from ⟨hj0, hy0, hy1, hy2⟩)
  clear hj0 hy0 hy1 hy2
  have HF := Lib.hid hf
  have HH := Lib.hid H
  clear hf H
  go_enter Try.func32, Try.ntmps32
  go_wp2_with fail
  refine (HF.out _).mono ?_
  rintro e w1 g1
  obtain ⟨p, g, cap, rfl, H1⟩ := has_newwords HH.out g1
  clear g1
  go_wp2_with fail
  refine (fromRow_has H1 rfl).mono ?_
  rintro e w2 ⟨m, a, rfl, H2⟩
  clear H1
  have HS2 := Lib.hid H2
  clear H2
  go_wp2_with (at_make; refine wpList_make_full _ rfl _ _ 23 rfl 0 3 j0 _ 1 Try.underlying23 HJ.out.1 HJ.out.2.1 HJ.out.2.2.1 _ _ _ _ k rfl rfl rfl rfl (by rw [HJ.out.2.2.2]; omega) (by unfold maxLen; omega) (Nat.zero_le _) ?_; intro w4 hown hg)
  have hB := own_full hown
  rw [Nat.mul_one, show (madeCells (Value.int IntKind.i64 0).cells k).toList = List.replicate k (Value.int .i64 0) from toList_madeCells_one _ k] at hB
  have hz : (List.replicate k (Value.int .i64 0)).toArray = (i64s (List.replicate k 0)).toArray := by simp [i64s]
  rw [hz] at hB
  have H3 := HS2.out.came (.blk w2.heap.size (i64s (List.replicate k 0)).toArray) ((Touch.refl [] w2).grown hg (by simp)) (by simp) hB (by intro b hb; simp [Res.foot] at hb; omega)
  have H4 := (H3.new rfl #[.slice none 0 0, .slice (some ⟨w2.heap.size, 0, none⟩) k k] 81).ownNil 46 1
  have H5 := (((H4.front 2 (by simp)).front 1 (by simp)).front 2 (by simp)).front 3 (by simp)
  have HB0 : BegunHas S0 w0 m a w4.heap.size w2.heap.size k k mode Z (.row p g cap Z :: rs) 0 (w4.alloc (.cells #[.slice none 0 0, .slice (some ⟨w2.heap.size, 0, none⟩) k k] 81)) :=
    ⟨.slice none 0 0, [], rfl, by simp, H5⟩
  clear hown hg hB hz H3 H4 H5 HS2
  refine wp_from (Facts := fun W => BegunHas S0 w0 m a w4.heap.size w2.heap.size k k mode Z (.row p g cap Z :: rs) 0 W) ?_ HB0
  clear HB0
  intro W HW
  generalize w4.heap.size = X at HW ⊢
  generalize w2.heap.size = B at HW ⊢
  have HV := Lib.hid HW
  clear HW
  go_loopw [12] (fun i wr => ∃ j : Nat, j ≤ k ∧ i = .int .i64 j ∧ BegunHas S0 w0 m a X B k k mode Z (.row p g cap Z :: rs) j wr) (fun i _ => k - (intOf i).toNat)
  case atStart => exact ⟨0, Nat.zero_le _, rfl, HV.out⟩
  case round =>
    obtain ⟨j, hj, rfl, hR⟩ := hrel
    clear HV
    by_cases hjk : j < k
    · obtain ⟨lv, ts, hl, hts, hH⟩ := hR
      obtain ⟨x0, x1, x2⟩ := hH.blk1.own
      have HL := Lib.hid hl
      have HTS := Lib.hid hts
      have HR := Lib.hid hH
      have hi1 : (0 : Int) ≤ (j : Int) := Int.natCast_nonneg _
      have hi2 : (j : Int) < (k : Int) := by omega
      clear hl hts hH
      go_wp2_with (at_builtin; refine wpList_from (Facts := fun W => Has S0 w0 W (.blk (wr.heap.size + 1) #[.pointer (some ⟨wr.heap.size, 0, none⟩)] :: .blk wr.heap.size (rcells m ⟨k, mode, j, Fr.zero, Acc.zero, [], Z⟩ (.slice none 0 0)) :: .mem m a Z :: .blk X #[lv, .slice (some ⟨B, 0, none⟩) k k] :: .own 46 1 lv j (ts.map Tk.ptr) :: .blk B (i64s (List.replicate k 0)).toArray :: (tksRes m ts ++ .row p g cap Z :: rs))) ?_ ((HR.out.new rfl _ _).new (by simp) _ _); intro W HW; refine wpList_append_rd (P := Try.prog) _ rfl (.tmp 43) (.tmp 51) _ rfl 0 46 i0 _ 1 8 Try.underlying71 HI.out.1 HI.out.2.1 HI.out.2.2.1 HI.out.2.2.2 rfl (by omega) lv j (ts.map Tk.ptr) rfl (Has.ownAt HW 4 rfl) (some ⟨wr.heap.size + 1, 0, none⟩) 1 1 [.pointer (some ⟨wr.heap.size, 0, none⟩)] rfl (rd_cells (HW.at_ 0 rfl)) (by simp [Value.oneCell']) (by simp only [maxLen]; omega) (by omega) (by omega) ?_; intro v' w' hown hg hat; obtain ⟨p', c', rfl⟩ := owns_slice hown; have HB := begun_more HL.out HTS.out HW hown hg hat; have HG := Has.grown1 4 (by simp) HW rfl hown hg hat; clear x0 x1 x2; obtain ⟨y0, y1, y2⟩ := (HG.at_ 4 rfl).own; clear HG hown hg hat HW)
      go_roundw
      case rel => exact ⟨j + 1, by omega, by go_num, HB⟩
      case measure => simp [intOf]; omega
    · have hjk2 : j = k := by omega
      subst hjk2
      have HR := Lib.hid hR
      clear hR
      have hi2 : (j : Int) ≤ (j : Int) := Int.le_refl _
      go_wp2
      go_ret
      exact ⟨X, m, a, B, p, g, cap, rfl, begun_done h2 HR.out⟩

end Go.Proofs.Ytbcppehpfckgoaa.Z

/- Package pq: a line leaves whose run it is. Written by genpqfine.py. -/
set_option linter.unusedVariables false
set_option linter.unusedSimpArgs false
namespace Go.Proofs.Ytbcppehpfckgoaa.Z
open Go.RowKit

def SK (k : Nat) (s s' : Rn) : Prop := s'.n = s.n ∧ s'.mode = s.mode ∧ s'.task = s.task
section
variable {k : Nat} {s s' : Rn}
theorem SK.refl (h : True) : SK 0 s s := ⟨rfl, rfl, rfl⟩
theorem SK.goto (h : SK k s s') (l : Int) : SK k s (s'.goto l) := h
theorem SK.fin (h : SK k s s') (b : Bool) : SK k s (s'.fin b) := h
theorem SK.wake (h : SK k s s') (c : Int) : SK k s (s'.wake c) := h
theorem SK.did (h : SK k s s') (R : Acc × Bool × List Int) : SK k s (s'.did R) := h
theorem SK.waited (h : SK k s s') (R : WaitR) : SK k s (s'.waited R) := h
theorem SK.setA (h : SK k s s') {v : Int} (hv : True) : SK k s (s'.setA v) := h
theorem SK.setB (h : SK k s s') {v : Int} (hv : True) : SK k s (s'.setB v) := h
theorem SK.note (h : SK k s s') (x y : Int) : SK (k + 1) s (s'.note x y) := h
theorem SK.more (h : SK k s s') {j : Nat} (hj : k ≤ j) : SK j s s' := h
theorem SK.noted (h : SK k s s') (l : List Int) : SK (k + l.length) s (s'.noted l) := by
  induction l generalizing s' k with
  | nil => exact h
  | cons x l ih => exact ih (h.note x 0)
theorem SK.keep (h : SK k s s') (hw : True) (n mode task st c : Int) (p : Int → Bool) : SK k s (s'.keep (waitA s'.L n mode task st c p)) := by
  unfold Rn.keep
  split <;> exact h
end
variable {s : Rn}
theorem mxEnter_sk (tail cls : Int) (hw : True) (h : True) : SK 1 s (mxEnter tail cls s).2 := by
  have R := SK.refl (s := s) h
  have hold := fun (_ : Acc) => trivial
  unfold mxEnter
  split
  · exact ((R.did _).goto _).more (by decide)
  split
  · exact ((R.did _).goto _).more (by decide)
  split
  · unfold mxE2
    dsimp only
    split
    · exact ((R.did _).setA trivial).note _ _
    · exact (((R.did _).setA trivial).note _ _).goto _
  split
  · exact (((R.did _).wake _).goto _).more (by decide)
  split
  · exact (R.waited _).more (by decide)
  · exact R.more (by decide)
theorem mxTry_sk (tail : Int) (h : True) : SK 0 s (mxTry tail s).2.2 := by
  have R := SK.refl (s := s) h
  unfold mxTry
  split
  · exact (R.did _).goto _
  split
  · exact R.did _
  · exact R
theorem mxGive_sk (tail q : Int) (nl : List Int) (hw : True) (h : True) : SK nl.length s (mxGive tail q nl s).2 := by
  have R := SK.refl (s := s) h
  have hold := fun (_ : Acc) => trivial
  unfold mxGive
  split
  · unfold mxG0
    dsimp only
    split
    · exact (((R.did _).setA trivial).goto _).more (Nat.zero_le _)
    · exact (((R.did _).setA trivial).goto _).more (Nat.zero_le _)
  split
  · unfold mxG1
    split
    · exact ((R.did _).noted nl).more (by omega)
    · exact ((R.did _).goto _).more (Nat.zero_le _)
  split
  · unfold mxG2
    dsimp only
    split
    · exact (((R.keep hw _ _ _ _ _ _).waited _).goto _).more (Nat.zero_le _)
    · exact ((R.keep hw _ _ _ _ _ _).waited _).more (Nat.zero_le _)
  split
  · exact (((R.did _).noted nl).wake _).more (by omega)
  · exact R.more (Nat.zero_le _)
section
theorem pfR10_sk (hw : True) (h : True) : SK 2 s (pfR10 s) := by
  have R := SK.refl (s := s) h
  have hold := fun (_ : Acc) => trivial
  unfold pfR10
  dsimp only
  split
  · exact (((((R.did _).setA trivial).note _ _).note _ _).fin _).more (by decide)
  · exact ((((R.did _).setA trivial).note _ _).goto _).more (by decide)

theorem pfR11_sk (hw : True) (h : True) : SK 2 s (pfR11 s) := by
  have R := SK.refl (s := s) h
  have hold := fun (_ : Acc) => trivial
  unfold pfR11
  dsimp only
  split
  · split
    · exact (((R.waited _).note _ _).fin _).more (by decide)
    · exact ((R.waited _).fin _).more (by decide)
  · split
    · exact ((R.waited _).note _ _).more (by decide)
    · exact (R.waited _).more (by decide)

theorem pfR20_sk (hw : True) (h : True) : SK 2 s (pfR20 s) := by
  have R := SK.refl (s := s) h
  have hold := fun (_ : Acc) => trivial
  unfold pfR20
  exact ((((R.did _).note _ _).wake _).fin _).more (by decide)

theorem pfR50_sk (hw : True) (h : True) : SK 2 s (pfR50 s) := by
  have R := SK.refl (s := s) h
  have hold := fun (_ : Acc) => trivial
  unfold pfR50
  dsimp only
  split
  · exact (((R.did _).setA trivial).goto _).more (by decide)
  · exact ((((R.did _).setA trivial).note _ _).fin _).more (by decide)

theorem pfR51_sk (hw : True) (h : True) : SK 2 s (pfR51 s) := by
  have R := SK.refl (s := s) h
  have hold := fun (_ : Acc) => trivial
  unfold pfR51
  split
  · exact ((((R.did _).note _ _).note _ _).fin _).more (by decide)
  · exact ((R.did _).goto _).more (by decide)

theorem pqEnter_sk (hw : True) (h : True) : SK 2 s (pqEnter s) := by
  have R := SK.refl (s := s) h
  have hold := fun (_ : Acc) => trivial
  have Q := mxEnter_sk (s := s) 2 2 hw h
  unfold pqEnter
  split
  · exact (Q.goto _).more (by decide)
  · exact (Q).more (by decide)

theorem pqGive_sk (q : Int) (ok : Bool) (hw : True) (h : True) : SK 2 s (pqGive q ok s) := by
  have R := SK.refl (s := s) h
  have hold := fun (_ : Acc) => trivial
  have Q := mxGive_sk (s := s) 2 q [8] hw h
  unfold pqGive
  split
  · exact (Q.fin _).more (by decide)
  · exact (Q).more (by decide)

theorem pqTry_sk (hw : True) (h : True) : SK 2 s (pqTry s) := by
  have R := SK.refl (s := s) h
  have hold := fun (_ : Acc) => trivial
  have Q := mxTry_sk (s := s) 2 h
  unfold pqTry
  split
  · split
    · exact ((Q.note _ _).goto _).more (by decide)
    · exact ((Q.note _ _).fin _).more (by decide)
  · exact (Q).more (by decide)

theorem pqLock_sk (hw : True) (h : True) : SK 2 s (pqLock s) := by
  have R := SK.refl (s := s) h
  have hold := fun (_ : Acc) => trivial
  unfold pqLock
  split
  · exact (((R.did _).setB trivial).goto _).more (by decide)
  split
  · exact ((((R.did _).setA trivial).note _ _).goto _).more (by decide)
  split
  · dsimp only
    split
    · split
      · exact (((R.waited _).note _ _).fin _).more (by decide)
      · exact ((R.waited _).fin _).more (by decide)
    · split
      · exact ((R.waited _).note _ _).more (by decide)
      · exact (R.waited _).more (by decide)
  · exact pqEnter_sk hw h

theorem pqLeave_sk (hw : True) (h : True) : SK 2 s (pqLeave s) := by
  have R := SK.refl (s := s) h
  have hold := fun (_ : Acc) => trivial
  unfold pqLeave
  split
  · exact (((R.did _).setB trivial).goto _).more (by decide)
  split
  · exact (((R.did _).setB trivial).goto _).more (by decide)
  split
  · exact ((((R.did _).note _ _).wake _).goto _).more (by decide)
  split
  · exact ((((R.did _).note _ _).wake _).goto _).more (by decide)
  split
  · exact ((R.did _).goto _).more (by decide)
  split
  · exact ((R.did _).goto _).more (by decide)
  · exact pqGive_sk _ _ hw h

theorem pqIn6_sk (hw : True) (h : True) : SK 2 s (pqIn6 s) := by
  have R := SK.refl (s := s) h
  have hold := fun (_ : Acc) => trivial
  unfold pqIn6
  dsimp only
  split
  · exact ((((R.did _).setB trivial).note _ _).goto _).more (by decide)
  · exact (((R.did _).setB trivial).goto _).more (by decide)

theorem pqLast6_sk (hw : True) (h : True) : SK 2 s (pqLast6 s) := by
  have R := SK.refl (s := s) h
  have hold := fun (_ : Acc) => trivial
  unfold pqLast6
  dsimp only
  split
  · split
    · exact (((R.waited _).note _ _).fin _).more (by decide)
    · exact ((R.waited _).fin _).more (by decide)
  · split
    · exact ((R.waited _).note _ _).more (by decide)
    · exact (R.waited _).more (by decide)

theorem pqIn7_sk (hw : True) (h : True) : SK 2 s (pqIn7 s) := by
  have R := SK.refl (s := s) h
  have hold := fun (_ : Acc) => trivial
  unfold pqIn7
  dsimp only
  split
  · exact ((((R.did _).setB trivial).note _ _).goto _).more (by decide)
  · exact (((R.did _).setB trivial).goto _).more (by decide)

theorem pqLast7_sk (hw : True) (h : True) : SK 2 s (pqLast7 s) := by
  have R := SK.refl (s := s) h
  have hold := fun (_ : Acc) => trivial
  unfold pqLast7
  dsimp only
  split
  · split
    · exact (((R.waited _).note _ _).goto _).more (by decide)
    · exact ((R.waited _).goto _).more (by decide)
  · split
    · exact ((R.waited _).note _ _).more (by decide)
    · exact (R.waited _).more (by decide)

theorem pqDecide_sk (hw : True) (h : True) : SK 2 s (pqDecide s) := by
  have R := SK.refl (s := s) h
  have hold := fun (_ : Acc) => trivial
  unfold pqDecide
  split
  · exact (((R.did _).setA trivial).goto _).more (by decide)
  split
  · split
    · exact pqIn7_sk hw h
    · exact pqIn6_sk hw h
  split
  · exact (((R.did _).setB trivial).goto _).more (by decide)
  split
  · exact ((((R.did _).setA trivial).note _ _).goto _).more (by decide)
  split
  · split
    · exact pqLast7_sk hw h
    · exact pqLast6_sk hw h
  split
  · split
    · exact ((R.did _).fin _).more (by decide)
    · exact (R).more (by decide)
  · exact pqGive_sk _ _ hw h

theorem pqA_sk (hw : True) (h : True) : SK 2 s (pqA s) := by
  have R := SK.refl (s := s) h
  have hold := fun (_ : Acc) => trivial
  unfold pqA
  split
  · exact pfR10_sk hw h
  split
  · exact pfR11_sk hw h
  split
  · exact pfR20_sk hw h
  split
  · exact pfR50_sk hw h
  split
  · exact pfR51_sk hw h
  split
  · exact pqLock_sk hw h
  split
  · exact pqLeave_sk hw h
  split
  · exact pqLeave_sk hw h
  split
  · split
    · exact pqTry_sk hw h
    · exact pqDecide_sk hw h
  split
  · split
    · exact pqTry_sk hw h
    · exact pqDecide_sk hw h
  · exact (R).more (by decide)
end
theorem pq_step_same (s : Rn) : (stepR pqA s).n = s.n ∧ (stepR pqA s).mode = s.mode ∧ (stepR pqA s).task = s.task := by
  unfold stepR
  split
  · exact ⟨rfl, rfl, rfl⟩
  · exact pqA_sk (s := s.fresh) trivial trivial
end Go.Proofs.Ytbcppehpfckgoaa.Z

/- Law 14: may, from, behind. Written by genmatch.py. -/
set_option linter.unusedVariables false
set_option linter.unusedSimpArgs false
namespace Go.Proofs.Ytbcppehpfckgoaa.Z
open Go.RowKit

theorem pq_may (op hold : Int) (w : World) : Calls Try.prog 65 #[.int .i64 op, .int .i64 hold] w fun e w' => e = .returned (.bool (mayB op hold)) ∧ w = w' := by
  by_cases h0 : hold = 0
  · subst h0
    by_cases h1 : op = 1
    · subst h1
      go_enter Try.func65, Try.ntmps65
      go_wp2
      go_ret
      exact ⟨rfl, rfl⟩
    have e1 : (op == 1) = false := by simpa using h1
    by_cases h3 : op = 3
    · subst h3
      go_enter Try.func65, Try.ntmps65
      go_wp2
      go_ret
      exact ⟨rfl, rfl⟩
    have e3 : (op == 3) = false := by simpa using h3
    by_cases h5 : op = 5
    · subst h5
      go_enter Try.func65, Try.ntmps65
      go_wp2
      go_ret
      exact ⟨rfl, rfl⟩
    have e5 : (op == 5) = false := by simpa using h5
    by_cases h6 : op = 6
    · subst h6
      go_enter Try.func65, Try.ntmps65
      go_wp2
      go_ret
      exact ⟨rfl, rfl⟩
    have e6 : (op == 6) = false := by simpa using h6
    go_enter Try.func65, Try.ntmps65
    go_wp2
    go_ret
    exact ⟨by simp [mayB, e1, e3, e5, e6], rfl⟩
  by_cases k1 : hold = 1
  · subst k1
    by_cases h2 : op = 2
    · subst h2
      go_enter Try.func65, Try.ntmps65
      go_wp2
      go_ret
      exact ⟨rfl, rfl⟩
    have e2 : (op == 2) = false := by simpa using h2
    by_cases h7 : op = 7
    · subst h7
      go_enter Try.func65, Try.ntmps65
      go_wp2
      go_ret
      exact ⟨rfl, rfl⟩
    have e7 : (op == 7) = false := by simpa using h7
    go_enter Try.func65, Try.ntmps65
    go_wp2
    go_ret
    exact ⟨by simp [mayB, e2, e7], rfl⟩
  have f0 : (hold == 0) = false := by simpa using h0
  have f1 : (hold == 1) = false := by simpa using k1
  by_cases h4 : op = 4
  · subst h4
    go_enter Try.func65, Try.ntmps65
    go_wp2
    go_ret
    exact ⟨by simp [mayB, h0, k1], rfl⟩
  have e4 : (op == 4) = false := by simpa using h4
  by_cases h8 : op = 8
  · subst h8
    go_enter Try.func65, Try.ntmps65
    go_wp2
    go_ret
    exact ⟨by simp [mayB, h0, k1], rfl⟩
  have e8 : (op == 8) = false := by simpa using h8
  go_enter Try.func65, Try.ntmps65
  go_wp2
  go_ret
  exact ⟨by simp [mayB, h0, k1, e4, e8], rfl⟩
theorem pq_from (op hold : Int) (w : World) : Calls Try.prog 66 #[.int .i64 op, .int .i64 hold] w fun e w' => e = .returned (.int .i64 (fromA op hold)) ∧ w = w' := by
  by_cases h2 : op = 2
  · subst h2
    go_enter Try.func66, Try.ntmps66
    go_wp2
    go_ret
    exact ⟨by simp [fromA], rfl⟩
  have e2 : (op == 2) = false := by simpa using h2
  by_cases h4 : op = 4
  · subst h4
    go_enter Try.func66, Try.ntmps66
    go_wp2
    go_ret
    exact ⟨by simp [fromA], rfl⟩
  have e4 : (op == 4) = false := by simpa using h4
  by_cases h8 : op = 8
  · subst h8
    go_enter Try.func66, Try.ntmps66
    go_wp2
    go_ret
    exact ⟨by simp [fromA], rfl⟩
  have e8 : (op == 8) = false := by simpa using h8
  go_enter Try.func66, Try.ntmps66
  go_wp2
  go_ret
  exact ⟨by simp [fromA, h2, h4, h8], rfl⟩
theorem pq_behind (op ret hold : Int) (w : World) : Calls Try.prog 67 #[.int .i64 op, .int .i64 ret, .int .i64 hold] w fun e w' => e = .returned (.int .i64 (behindA op ret hold)) ∧ w = w' := by
  by_cases hr : ret = 2
  · subst hr
    by_cases h1 : op = 1
    · subst h1
      go_enter Try.func67, Try.ntmps67
      go_wp2
      go_ret
      exact ⟨by simp [behindA], rfl⟩
    have e1 : (op == 1) = false := by simpa using h1
    by_cases h5 : op = 5
    · subst h5
      go_enter Try.func67, Try.ntmps67
      go_wp2
      go_ret
      exact ⟨by simp [behindA], rfl⟩
    have e5 : (op == 5) = false := by simpa using h5
    by_cases h3 : op = 3
    · subst h3
      go_enter Try.func67, Try.ntmps67
      go_wp2
      go_ret
      exact ⟨by simp [behindA], rfl⟩
    have e3 : (op == 3) = false := by simpa using h3
    by_cases h6 : op = 6
    · subst h6
      go_enter Try.func67, Try.ntmps67
      go_wp2
      go_ret
      exact ⟨by simp [behindA], rfl⟩
    have e6 : (op == 6) = false := by simpa using h6
    by_cases h7 : op = 7
    · subst h7
      go_enter Try.func67, Try.ntmps67
      go_wp2
      go_ret
      exact ⟨by simp [behindA], rfl⟩
    have e7 : (op == 7) = false := by simpa using h7
    go_enter Try.func67, Try.ntmps67
    go_wp2
    go_ret
    exact ⟨by simp [behindA, h1, h5, h3, h6, h7], rfl⟩
  have er : (ret != 2) = true := by simpa using hr
  go_enter Try.func67, Try.ntmps67
  go_wp2
  go_ret
  exact ⟨by simp [behindA, hr], rfl⟩

end Go.Proofs.Ytbcppehpfckgoaa.Z

/- Law 14: a pick. Written by genmat.py. -/
set_option linter.unusedVariables false
set_option linter.unusedSimpArgs false
namespace Go.Proofs.Ytbcppehpfckgoaa.Z
open Go.RowKit

theorem getD_mem {α : Type} {l : List α} {i : Nat} {d : α} (h : i < l.length) : l.getD i d ∈ l := by
  simp [List.getD, h]
theorem set_getD {α : Type} {l : List α} {i : Nat} {d : α} (h : i < l.length) : l.set i (l.getD i d) = l := by
  simp [List.getD, h]
theorem i64s_set_at {l : List Int} {i : Nat} {v : Int} (h : i < l.length) : (i64s (l.set i v)).toArray[i]? = some (.int .i64 v) := by
  simp [i64s, h]
theorem i64s_set2 (l : List Int) (i : Nat) (v u : Int) : (i64s (l.set i v)).toArray.setIfInBounds i (.int .i64 u) = (i64s (l.set i u)).toArray := by
  simp [i64s, List.map_set]

set_option maxHeartbeats 3200000 in
set_option maxRecDepth 100000 in
theorem pq_play {S0 : List Nat} {w0 w : World} {m a x hb : Nat} {rs : List Res} {M : Mt} (H : MatchHas S0 w0 m a x hb rs M w) {i : Nat} (hi : i < M.fs.length) (op : Int) :
    Calls Try.prog 33 #[.pointer (some ⟨x, 0, none⟩), .int .i64 i, .int .i64 op] w fun e w' => e = .returned (.tuple #[]) ∧ MatchHas S0 w0 m a x hb rs (M.play pqA i op) w' := by
  obtain ⟨hf1, hf2, hf3, hf4⟩ := H.fit
  have hwd := H.words
  have hil : i < M.hold.length := by rw [hf1]; exact hi
  obtain ⟨r, b, off, cap, rest, s, e1, e2, e3, e4, e5, hO, hptr, hback⟩ := H.opened hi
  have HFOK : FrOk s.f := by rw [e1]; exact hf2 _ (getD_mem hi)
  have hO2 : Opn S0 w0 m a x hb r (.slice (some ⟨b, off, none⟩) M.fs.length cap) M.fs.length (M.hold.set i (M.hold.getD i 0)) rest s w := by rw [set_getD hil]; exact hO
  obtain ⟨p0, p1⟩ := hptr _ _ _ hO
  clear hptr hO
  have HH := Lib.hid H
  clear H
  generalize hk : M.fs.length = k at hi hO2 hf1 hf4 hback
  generalize hh : M.hold.getD i 0 = h0 at hO2
  obtain ⟨n, mode, task, ⟨o1, line, fa, fb, st, ⟨on, wc, wi, hit⟩, ret⟩, ⟨ak, ac, ax, ay, ao⟩, notes, L⟩ := s
  simp only at e1 e2 e3 e4 e5 HFOK
  subst e2 e3 e4 e5
  have hplay : M.play pqA i op = if o1 = 0 then if mayB op h0 = true then M.goes pqA i ⟨op, 0, 0, 0, 0, ⟨false, 0, 0, false⟩, 0⟩ (fromA op h0) else M else M.goes pqA i ⟨o1, line, fa, fb, st, ⟨on, wc, wi, hit⟩, ret⟩ h0 := by
    unfold Mt.play
    rw [← e1, hh]
    rfl
  have HPLAY := Lib.hid hplay
  have hi1 : (0 : Int) ≤ (i : Int) := Int.natCast_nonneg _
  have hi2 : (i : Int) < (k : Int) := by omega
  have HLEN := Lib.hid (show i < k ∧ i < M.hold.length ∧ I64 M.n ∧ Words M.L from ⟨hi, hil, hf3, hwd⟩)
  clear hplay e1 hh hk hf1 hf2 hf3 hf4 hwd hi hil
  have HBACK := Lib.hid hback
  clear hback
  by_cases ho : o1 = 0
  · subst ho
    obtain ⟨nv0, hO3⟩ := hO2
    simp only [rcells] at hO3
    obtain ⟨y0, y1, y2⟩ := hO3.blk1.own
    obtain ⟨z0, z1, z2⟩ := (hO3.at_ 3 rfl).own
    obtain ⟨u0, u1, u2⟩ := (hO3.at_ 4 rfl).own
    have v1 : w.cell? ⟨hb, i, none⟩ = some (.int .i64 h0) := (u1 i).trans (i64s_set_at HLEN.out.2.1)
    clear u1
    have HO := Lib.hid hO3
    clear hO3
    cases hm : mayB op h0 with
    | false =>
      have HM := Lib.hid hm
      clear hm
      go_enter Try.func33, Try.ntmps33
      go_wp2_with fail
      refine (pq_may _ _ _).mono ?_
      rintro e w1 ⟨rfl, rfl⟩
      rw [HM.out]
      go_wp2_with fail
      (try simp only [Exit.inBlock, Exit.then]); refine bodyPost_ret (results_none rfl _ _ _) rfl ?_
      refine ⟨rfl, ?_⟩
      rw [HPLAY.out, if_pos trivial, HM.out]
      exact HH.out
    | true =>
      have HM := Lib.hid hm
      clear hm
      go_enter Try.func33, Try.ntmps33
      go_wp2_with fail
      refine (pq_may _ _ _).mono ?_
      rintro e w1 ⟨rfl, rfl⟩
      rw [HM.out]
      go_wp2_with fail
      have d1 : w.drew.cell? ⟨x, 1, none⟩ = some (.slice (some ⟨hb, 0, none⟩) k k) := z1 1
      have d2 : w.drew.cell? ⟨hb, i, none⟩ = some (.int .i64 h0) := v1
      have d3 : w.cell? ⟨x, 1, none⟩ = some (.slice (some ⟨hb, 0, none⟩) k k) := z1 1
      refine region_flat_call 13 rfl (by kernel_rfl) (by kernel_rfl) ?_
      simp only [List.take_succ_cons, List.take_zero, List.drop_succ_cons, List.drop_zero, probed, probes, List.nil_append]
      go_wp2_with fail
      rw [only_normal]
      refine half_static (.int .i64 (fromA op h0)) rfl rfl (enters_of Try.func66 (by kernel_rfl) rfl) (by simp [Act.eval]) (fun W _ => pq_from _ _ W) ?_
      simp only [probed, probes, List.nil_append]
      go_wp2_with fail
      rw [only_normal]
      rename_i hK
      refine hK _ _ ?_
      clear hK
      have HO1 := (HO.out.set4 i (.int .i64 (fromA op h0))).drew
      rw [i64s_set2] at HO1
      refine wp_from (Facts := fun W => Has S0 w0 W (.mem m a M.L :: .blk r #[.pointer (some ⟨m, 0, none⟩), .int .i64 M.n, .int .i64 M.mode, .int .i64 i, .int .i64 0, .int .i64 line, .int .u32 fa, .int .u32 fb, .int .i64 st, .bool on, .int .i64 wc, .int .i64 wi, .bool hit, .int .i64 ret, .int .i64 ak, .int .i64 ac, .int .u32 ax, .int .u32 ay, .int .u32 ao, nv0] :: .own 112 4 nv0 notes.length (nts notes) :: .blk x #[.slice (some ⟨b, off, none⟩) k cap, .slice (some ⟨hb, 0, none⟩) k k] :: .blk hb (i64s (M.hold.set i (fromA op h0))).toArray :: rest)) ?_ HO1
      clear HO HO1 y0 y1 y2 z0 z1 z2 u0 u2 v1 d1 d2 d3 p0 p1
      intro W HW
      obtain ⟨y0, y1, y2⟩ := HW.blk1.own
      rename_i hK2 K0
      have HK2 := Lib.hid hK2
      clear hK2
      go_wp2_with fail
      refine HK2.out _ _ ?_
      clear HK2
      refine wp_from (Facts := fun W => Opn S0 w0 m a x hb r (.slice (some ⟨b, off, none⟩) k cap) k (M.hold.set i (fromA op h0)) rest ⟨M.n, M.mode, i, ⟨op, 0, 0, 0, 0, ⟨false, 0, 0, false⟩, 0⟩, ⟨ak, ac, ax, ay, ao⟩, notes, M.L⟩ W) ?_ ?_
      rotate_left
      · refine ⟨nv0, ?_⟩
        have H2 := ((((((((((HW.set1 4 (.int .i64 op)).set1 5 (.int .i64 0)).set1 6 (.int .u32 0)).set1 7 (.int .u32 0)).set1 8 (.int .i64 0)).set1 9 (.bool false)).set1 10 (.int .i64 0)).set1 11 (.int .i64 0)).set1 12 (.bool false)).set1 13 (.int .i64 0))
        simp only [List.setIfInBounds_toArray, List.set_cons_zero, List.set_cons_succ] at H2
        exact H2
      clear HW y0 y1 y2
      rename_i W0
      clear W0
      intro W HT
      have hstk := fun W rs (HX : Has S0 w0 W (.mem m a M.L :: rs)) nv => run_stuck (s := ⟨M.n, M.mode, i, ⟨op, 0, 0, 0, 0, ⟨false, 0, 0, false⟩, 0⟩, ⟨ak, ac, ax, ay, ao⟩, notes, M.L⟩) HX HLEN.out.2.2.1 nv
      have hok1 : FrOk ⟨op, 0, 0, 0, 0, ⟨false, 0, 0, false⟩, 0⟩ := ⟨by simp, by simp⟩
      have hstep := fun W rs (HX : RunHas S0 w0 m a r rs ⟨M.n, M.mode, i, ⟨op, 0, 0, 0, 0, ⟨false, 0, 0, false⟩, 0⟩, ⟨ak, ac, ax, ay, ao⟩, notes, M.L⟩ W) => pq_stepR HX ⟨HLEN.out.2.2.1, hok1⟩
      have hsok := (pq_stepok (s := ⟨M.n, M.mode, i, ⟨op, 0, 0, 0, 0, ⟨false, 0, 0, false⟩, 0⟩, ⟨ak, ac, ax, ay, ao⟩, notes, M.L⟩) HLEN.out.2.2.2 ⟨HLEN.out.2.2.1, hok1⟩).1
      have hsame := pq_step_same ⟨M.n, M.mode, i, ⟨op, 0, 0, 0, 0, ⟨false, 0, 0, false⟩, 0⟩, ⟨ak, ac, ax, ay, ao⟩, notes, M.L⟩
      generalize hS2 : stepR pqA ⟨M.n, M.mode, i, ⟨op, 0, 0, 0, 0, ⟨false, 0, 0, false⟩, 0⟩, ⟨ak, ac, ax, ay, ao⟩, notes, M.L⟩ = s2 at hstep hsok hsame
      have hgoes := goes_of (h := (fromA op h0)) (step_run pqA M i ⟨op, 0, 0, 0, 0, ⟨false, 0, 0, false⟩, 0⟩ ⟨ak, ac, ax, ay, ao⟩ notes hS2)
      clear hS2
      simp only at hgoes
      simp only [rcells] at hstk
      generalize hsb : (!false && stuckA M.L M.n M.mode i 0) = sb at hstk hgoes
      clear hsb hok1
      have HSTK := Lib.hid hstk
      have HSTEP := Lib.hid hstep
      have HGOES := Lib.hid hgoes
      have HSOK := Lib.hid hsok
      have HSAME := Lib.hid hsame
      clear hstk hstep hgoes hsok hsame
      obtain ⟨nv, HT⟩ := HT
      simp only [rcells] at HT
      obtain ⟨y0, y1, y2⟩ := HT.blk1.own
      have hld := rangeAt_list y1
      go_wp2_with (refine wpList_load_mid rfl 52 (.tmp 51) rfl r 0 rfl _ _ hld Try.underlying52 rfl (by kernel_rfl) ?_)
      refine (HSTK.out _ _ HT nv).mono ?_
      rintro e w2 ⟨rfl, HT2⟩
      clear y0 y1 y2 HT hld
      cases sb with
      | true =>
        go_wp2_with fail
        (try simp only [Exit.inBlock, Exit.then]); refine bodyPost_ret (results_none rfl _ _ _) rfl ?_
        refine ⟨rfl, ?_⟩
        rw [HPLAY.out, if_pos trivial, if_pos HM.out, HGOES.out, if_pos trivial]
        exact HBACK.out _ ⟨M.n, M.mode, i, ⟨op, 0, 0, 0, 0, ⟨false, 0, 0, false⟩, 0⟩, ⟨ak, ac, ax, ay, ao⟩, notes, M.L⟩ _ ⟨nv, HT2⟩ ⟨by simp, by simp⟩ rfl rfl rfl
      | false =>
        go_wp2_with fail
        refine (HSTEP.out _ _ ⟨nv, HT2⟩).mono ?_
        rintro e w3 ⟨rfl, HT3⟩
        clear HT2
        obtain ⟨n', mode', task', ⟨o2, line', fa', fb', st', ⟨on', wc', wi', hit'⟩, ret2⟩, ⟨ak', ac', ax', ay', ao'⟩, notes', L'⟩ := s2
        have hsm := HSAME.out
        simp only at hsm
        obtain ⟨q1, q2, q3⟩ := hsm
        subst q1 q2 q3
        have hg2 := HGOES.out
        rw [if_neg (by decide)] at hg2
        have HG2 := Lib.hid hg2
        clear hg2 HSTK HSTEP HGOES HSAME
        cases hov : (⟨M.n, M.mode, i, ⟨o2, line', fa', fb', st', ⟨on', wc', wi', hit'⟩, ret2⟩, ⟨ak', ac', ax', ay', ao'⟩, notes', L'⟩ : Rn).over with
        | false =>
          have HOV := Lib.hid hov
          clear hov
          go_wp2_with fail
          go_end0
          refine ⟨rfl, ?_⟩
          rw [HPLAY.out, if_pos trivial, if_pos HM.out, HG2.out, if_neg (by rw [HOV.out]; decide)]
          exact HBACK.out _ ⟨M.n, M.mode, i, ⟨o2, line', fa', fb', st', ⟨on', wc', wi', hit'⟩, ret2⟩, ⟨ak', ac', ax', ay', ao'⟩, notes', L'⟩ _ HT3 ⟨HSOK.out.2.1, HSOK.out.2.2⟩ rfl rfl rfl
        | true =>
          have HOV := Lib.hid hov
          clear hov
          obtain ⟨nv3, HT3⟩ := HT3
          simp only [rcells] at HT3
          obtain ⟨y0, y1, y2⟩ := HT3.blk1.own
          obtain ⟨z0, z1, z2⟩ := (HT3.at_ 3 rfl).own
          obtain ⟨u0, u1, u2⟩ := (HT3.at_ 4 rfl).own
          have v1 : w3.cell? ⟨hb, i, none⟩ = some (.int .i64 (fromA op h0)) := (u1 i).trans (i64s_set_at HLEN.out.2.1)
          clear u1
          go_wp2_with fail
          refine region_flat_call 22 rfl (by kernel_rfl) (by kernel_rfl) ?_
          simp only [List.take_succ_cons, List.take_zero, List.drop_succ_cons, List.drop_zero, probed, probes, List.nil_append]
          go_wp2_with fail
          rw [only_normal]
          refine half_static (.int .i64 (behindA o2 ret2 (fromA op h0))) rfl rfl (enters_of Try.func67 (by kernel_rfl) rfl) (by simp [Act.eval]) (fun W _ => pq_behind _ _ _ W) ?_
          simp only [probed, probes, List.nil_append]
          go_wp2_with fail
          rw [only_normal]
          rename_i hK
          refine hK _ _ ?_
          clear hK
          have HO1 := (HT3.set4 i (.int .i64 (behindA o2 ret2 (fromA op h0)))).drew
          rw [i64s_set2] at HO1
          refine wp_from (Facts := fun W => Has S0 w0 W (.mem m a L' :: .blk r #[.pointer (some ⟨m, 0, none⟩), .int .i64 M.n, .int .i64 M.mode, .int .i64 i, .int .i64 o2, .int .i64 line', .int .u32 fa', .int .u32 fb', .int .i64 st', .bool on', .int .i64 wc', .int .i64 wi', .bool hit', .int .i64 ret2, .int .i64 ak', .int .i64 ac', .int .u32 ax', .int .u32 ay', .int .u32 ao', nv3] :: .own 112 4 nv3 notes'.length (nts notes') :: .blk x #[.slice (some ⟨b, off, none⟩) k cap, .slice (some ⟨hb, 0, none⟩) k k] :: .blk hb (i64s (M.hold.set i (behindA o2 ret2 (fromA op h0)))).toArray :: rest)) ?_ HO1
          clear HT3 HO1 y0 y1 y2 z0 z1 z2 u0 u2 v1
          intro W2 HW
          obtain ⟨y0, y1, y2⟩ := HW.blk1.own
          go_wp2_with fail
          go_end0
          refine ⟨rfl, ?_⟩
          rw [HPLAY.out, if_pos trivial, if_pos HM.out, HG2.out, if_pos HOV.out]
          refine HBACK.out _ ⟨M.n, M.mode, i, ⟨0, 0, 0, 0, 0, ⟨false, 0, 0, false⟩, 0⟩, ⟨ak', ac', ax', ay', ao'⟩, notes', L'⟩ _ ⟨nv3, ?_⟩ ⟨by simp, by simp⟩ rfl rfl rfl
          have H2 := ((((((((((HW.set1 4 (.int .i64 0)).set1 5 (.int .i64 0)).set1 6 (.int .u32 0)).set1 7 (.int .u32 0)).set1 8 (.int .i64 0)).set1 9 (.bool false)).set1 10 (.int .i64 0)).set1 11 (.int .i64 0)).set1 12 (.bool false)).set1 13 (.int .i64 0))
          simp only [List.setIfInBounds_toArray, List.set_cons_zero, List.set_cons_succ] at H2
          exact H2
  · obtain ⟨nv0, hO3⟩ := hO2
    simp only [rcells] at hO3
    obtain ⟨y0, y1, y2⟩ := hO3.blk1.own
    obtain ⟨z0, z1, z2⟩ := (hO3.at_ 3 rfl).own
    have HO := Lib.hid hO3
    have ho1 : (o1 == 0) = false := by simpa using ho
    have HNO := Lib.hid ho
    clear hO3 ho
    go_enter Try.func33, Try.ntmps33
    refine wp_from (Facts := fun W => W = w) ?_ rfl
    rintro W rfl
    have HT : Opn S0 w0 m a x hb r (.slice (some ⟨b, off, none⟩) k cap) k (M.hold.set i h0) rest ⟨M.n, M.mode, i, ⟨o1, line, fa, fb, st, ⟨on, wc, wi, hit⟩, ret⟩, ⟨ak, ac, ax, ay, ao⟩, notes, M.L⟩ W := ⟨nv0, HO.out⟩
    clear y0 y1 y2
    have hstk := fun W rs (HX : Has S0 w0 W (.mem m a M.L :: rs)) nv => run_stuck (s := ⟨M.n, M.mode, i, ⟨o1, line, fa, fb, st, ⟨on, wc, wi, hit⟩, ret⟩, ⟨ak, ac, ax, ay, ao⟩, notes, M.L⟩) HX HLEN.out.2.2.1 nv
    have hok1 : FrOk ⟨o1, line, fa, fb, st, ⟨on, wc, wi, hit⟩, ret⟩ := HFOK
    have hstep := fun W rs (HX : RunHas S0 w0 m a r rs ⟨M.n, M.mode, i, ⟨o1, line, fa, fb, st, ⟨on, wc, wi, hit⟩, ret⟩, ⟨ak, ac, ax, ay, ao⟩, notes, M.L⟩ W) => pq_stepR HX ⟨HLEN.out.2.2.1, hok1⟩
    have hsok := (pq_stepok (s := ⟨M.n, M.mode, i, ⟨o1, line, fa, fb, st, ⟨on, wc, wi, hit⟩, ret⟩, ⟨ak, ac, ax, ay, ao⟩, notes, M.L⟩) HLEN.out.2.2.2 ⟨HLEN.out.2.2.1, hok1⟩).1
    have hsame := pq_step_same ⟨M.n, M.mode, i, ⟨o1, line, fa, fb, st, ⟨on, wc, wi, hit⟩, ret⟩, ⟨ak, ac, ax, ay, ao⟩, notes, M.L⟩
    generalize hS2 : stepR pqA ⟨M.n, M.mode, i, ⟨o1, line, fa, fb, st, ⟨on, wc, wi, hit⟩, ret⟩, ⟨ak, ac, ax, ay, ao⟩, notes, M.L⟩ = s2 at hstep hsok hsame
    have hgoes := goes_of (h := h0) (step_run pqA M i ⟨o1, line, fa, fb, st, ⟨on, wc, wi, hit⟩, ret⟩ ⟨ak, ac, ax, ay, ao⟩ notes hS2)
    clear hS2
    simp only at hgoes
    simp only [rcells] at hstk
    generalize hsb : (!on && stuckA M.L M.n M.mode i st) = sb at hstk hgoes
    clear hsb hok1
    have HSTK := Lib.hid hstk
    have HSTEP := Lib.hid hstep
    have HGOES := Lib.hid hgoes
    have HSOK := Lib.hid hsok
    have HSAME := Lib.hid hsame
    clear hstk hstep hgoes hsok hsame
    obtain ⟨nv, HT⟩ := HT
    simp only [rcells] at HT
    obtain ⟨y0, y1, y2⟩ := HT.blk1.own
    have hld := rangeAt_list y1
    go_wp2_with (refine wpList_load_mid rfl 52 (.tmp 51) rfl r 0 rfl _ _ hld Try.underlying52 rfl (by kernel_rfl) ?_)
    refine (HSTK.out _ _ HT nv).mono ?_
    rintro e w2 ⟨rfl, HT2⟩
    clear y0 y1 y2 HT hld
    cases sb with
    | true =>
      go_wp2_with fail
      (try simp only [Exit.inBlock, Exit.then]); refine bodyPost_ret (results_none rfl _ _ _) rfl ?_
      refine ⟨rfl, ?_⟩
      rw [HPLAY.out, if_neg HNO.out, HGOES.out, if_pos trivial]
      exact HBACK.out _ ⟨M.n, M.mode, i, ⟨o1, line, fa, fb, st, ⟨on, wc, wi, hit⟩, ret⟩, ⟨ak, ac, ax, ay, ao⟩, notes, M.L⟩ _ ⟨nv, HT2⟩ HFOK rfl rfl rfl
    | false =>
      go_wp2_with fail
      refine (HSTEP.out _ _ ⟨nv, HT2⟩).mono ?_
      rintro e w3 ⟨rfl, HT3⟩
      clear HT2
      obtain ⟨n', mode', task', ⟨o2, line', fa', fb', st', ⟨on', wc', wi', hit'⟩, ret2⟩, ⟨ak', ac', ax', ay', ao'⟩, notes', L'⟩ := s2
      have hsm := HSAME.out
      simp only at hsm
      obtain ⟨q1, q2, q3⟩ := hsm
      subst q1 q2 q3
      have hg2 := HGOES.out
      rw [if_neg (by decide)] at hg2
      have HG2 := Lib.hid hg2
      clear hg2 HSTK HSTEP HGOES HSAME
      cases hov : (⟨M.n, M.mode, i, ⟨o2, line', fa', fb', st', ⟨on', wc', wi', hit'⟩, ret2⟩, ⟨ak', ac', ax', ay', ao'⟩, notes', L'⟩ : Rn).over with
      | false =>
        have HOV := Lib.hid hov
        clear hov
        go_wp2_with fail
        go_end0
        refine ⟨rfl, ?_⟩
        rw [HPLAY.out, if_neg HNO.out, HG2.out, if_neg (by rw [HOV.out]; decide)]
        exact HBACK.out _ ⟨M.n, M.mode, i, ⟨o2, line', fa', fb', st', ⟨on', wc', wi', hit'⟩, ret2⟩, ⟨ak', ac', ax', ay', ao'⟩, notes', L'⟩ _ HT3 ⟨HSOK.out.2.1, HSOK.out.2.2⟩ rfl rfl rfl
      | true =>
        have HOV := Lib.hid hov
        clear hov
        obtain ⟨nv3, HT3⟩ := HT3
        simp only [rcells] at HT3
        obtain ⟨y0, y1, y2⟩ := HT3.blk1.own
        obtain ⟨z0, z1, z2⟩ := (HT3.at_ 3 rfl).own
        obtain ⟨u0, u1, u2⟩ := (HT3.at_ 4 rfl).own
        have v1 : w3.cell? ⟨hb, i, none⟩ = some (.int .i64 h0) := (u1 i).trans (i64s_set_at HLEN.out.2.1)
        clear u1
        go_wp2_with fail
        refine region_flat_call 22 rfl (by kernel_rfl) (by kernel_rfl) ?_
        simp only [List.take_succ_cons, List.take_zero, List.drop_succ_cons, List.drop_zero, probed, probes, List.nil_append]
        go_wp2_with fail
        rw [only_normal]
        refine half_static (.int .i64 (behindA o2 ret2 h0)) rfl rfl (enters_of Try.func67 (by kernel_rfl) rfl) (by simp [Act.eval]) (fun W _ => pq_behind _ _ _ W) ?_
        simp only [probed, probes, List.nil_append]
        go_wp2_with fail
        rw [only_normal]
        rename_i hK
        refine hK _ _ ?_
        clear hK
        have HO1 := (HT3.set4 i (.int .i64 (behindA o2 ret2 h0))).drew
        rw [i64s_set2] at HO1
        refine wp_from (Facts := fun W => Has S0 w0 W (.mem m a L' :: .blk r #[.pointer (some ⟨m, 0, none⟩), .int .i64 M.n, .int .i64 M.mode, .int .i64 i, .int .i64 o2, .int .i64 line', .int .u32 fa', .int .u32 fb', .int .i64 st', .bool on', .int .i64 wc', .int .i64 wi', .bool hit', .int .i64 ret2, .int .i64 ak', .int .i64 ac', .int .u32 ax', .int .u32 ay', .int .u32 ao', nv3] :: .own 112 4 nv3 notes'.length (nts notes') :: .blk x #[.slice (some ⟨b, off, none⟩) k cap, .slice (some ⟨hb, 0, none⟩) k k] :: .blk hb (i64s (M.hold.set i (behindA o2 ret2 h0))).toArray :: rest)) ?_ HO1
        clear HT3 HO1 y0 y1 y2 z0 z1 z2 u0 u2 v1
        intro W2 HW
        obtain ⟨y0, y1, y2⟩ := HW.blk1.own
        go_wp2_with fail
        go_end0
        refine ⟨rfl, ?_⟩
        rw [HPLAY.out, if_neg HNO.out, HG2.out, if_pos HOV.out]
        refine HBACK.out _ ⟨M.n, M.mode, i, ⟨0, 0, 0, 0, 0, ⟨false, 0, 0, false⟩, 0⟩, ⟨ak', ac', ax', ay', ao'⟩, notes', L'⟩ _ ⟨nv3, ?_⟩ ⟨by simp, by simp⟩ rfl rfl rfl
        have H2 := ((((((((((HW.set1 4 (.int .i64 0)).set1 5 (.int .i64 0)).set1 6 (.int .u32 0)).set1 7 (.int .u32 0)).set1 8 (.int .i64 0)).set1 9 (.bool false)).set1 10 (.int .i64 0)).set1 11 (.int .i64 0)).set1 12 (.bool false)).set1 13 (.int .i64 0))
        simp only [List.setIfInBounds_toArray, List.set_cons_zero, List.set_cons_succ] at H2
        exact H2

end Go.Proofs.Ytbcppehpfckgoaa.Z

/- Arguments opened: whole numbers, structs of whole numbers, slices of these. No statement is in sight. -/
set_option linter.unusedVariables false
set_option linter.unusedSimpArgs false
namespace Go.Proofs.Ytbcppehpfckgoaa.Z
open Go.RowKit Go.ChangeShapes Go.WideShapes Go.ChangeAt Go.Deep

/-- Whatever reads as a value of type t has cells of this form. -/
def Flat (P : Program) (t : TypeId) (ok : List Value → Prop) : Prop :=
  ∀ (H : Type) (enc : TypeId × Value → H) (w : World) (base : Nat) (spare : Nat → Bool) (held : Bool) (fuel : Nat) (cs : List Value) (x : DataW H × List MemPlace),
    DataW.trod enc P w base spare held fuel t cs = some x → ok cs

theorem flat_int {P : Program} {t : TypeId} {k : IntKind} (ht : P.underlying t = some (.int k)) : Flat P t (fun cs => ∃ n, cs = [.int k n] ∧ (Lit.int k n).wf = true) := by
  intro H enc w base spare held fuel cs x h
  obtain ⟨n, h1, _, h2⟩ := DataW.trod_int ht h
  exact ⟨n, h1, h2⟩

theorem flat_bool {P : Program} {t : TypeId} (ht : P.underlying t = some .bool) : Flat P t (fun cs => ∃ b, cs = [.bool b]) := by
  intro H enc w base spare held fuel cs x h
  obtain ⟨n, h1, _⟩ := DataW.trod_bool ht h
  exact ⟨n, h1⟩

theorem flat_mono {P : Program} {t : TypeId} {ok ok' : List Value → Prop} (h : Flat P t ok) (hm : ∀ cs, ok cs → ok' cs) : Flat P t ok' :=
  fun H enc w base spare held fuel cs x hx => hm _ (h H enc w base spare held fuel cs x hx)

/-- A struct: each field's cells are of that field's form. -/
theorem flat_struct {P : Program} {t : TypeId} {fs : Array Field} (ht : P.underlying t = some (.struct fs)) :
    Flat P t (fun cs => cs.length = P.cellsOf t ∧ ∀ (i : Nat) (f : Field) (ok : List Value → Prop), fs[i]? = some f → Flat P f.type ok → ok ((cs.drop f.offset).take (P.cellsOf f.type))) := by
  intro H enc w base spare held fuel cs x h
  obtain ⟨xs, n, _, _, hl, hxl, hf⟩ := DataW.trod_struct ht h
  refine ⟨hl, fun i f ok hi hok => ?_⟩
  have hil : i < fs.size := (Array.getElem?_eq_some_iff.1 hi).1
  have := hf i f hi
  rw [List.getElem?_eq_getElem (by omega)] at this
  exact hok H enc w base spare held n _ _ this

theorem wf_u32 {n : Int} (h : (Lit.int .u32 n).wf = true) : 0 ≤ n ∧ n < 4294967296 := by
  simp [Lit.wf, IntKind.min, IntKind.max, IntKind.signed, IntKind.bits] at h; omega
theorem wf_u8 {n : Int} (h : (Lit.int .u8 n).wf = true) : 0 ≤ n ∧ n < 256 := by
  simp [Lit.wf, IntKind.min, IntKind.max, IntKind.signed, IntKind.bits] at h; omega
theorem wf_i64 {n : Int} (h : (Lit.int .i64 n).wf = true) : -9223372036854775808 ≤ n ∧ n ≤ 9223372036854775807 := by
  simp [Lit.wf, IntKind.min, IntKind.max, IntKind.signed, IntKind.bits] at h; omega
theorem wf_i32 {n : Int} (h : (Lit.int .i32 n).wf = true) : -2147483648 ≤ n ∧ n < 2147483648 := by
  simp [Lit.wf, IntKind.min, IntKind.max, IntKind.signed, IntKind.bits] at h; omega

theorem flatMap_at {α : Type} {dec : α → List Value} {size : Nat} (hs : 0 < size) (hlen : ∀ a, (dec a).length = size) : ∀ (l : List α) (i j : Nat) (h : i < l.length), j < size → (l.flatMap dec)[i * size + j]? = (dec l[i])[j]? := by
  intro l
  induction l with
  | nil => intro i j h; simp at h
  | cons a l ih =>
    intro i j h hj
    rw [List.flatMap_cons]
    cases i with
    | zero =>
      rw [List.getElem?_append_left (by rw [hlen]; omega)]
      simp
    | succ i =>
      rw [List.getElem?_append_right (by rw [hlen, Nat.succ_mul]; omega), hlen, show (i + 1) * size + j - size = i * size + j by rw [Nat.succ_mul]; omega, ih i j (by simpa using h) hj]
      rfl

theorem flatMap_length {α : Type} {dec : α → List Value} {size : Nat} (hlen : ∀ a, (dec a).length = size) (l : List α) : (l.flatMap dec).length = l.length * size := by
  induction l with
  | nil => simp
  | cons a l ih => rw [List.flatMap_cons, List.length_append, ih, hlen, List.length_cons, Nat.succ_mul]; omega

/-- A slice of flat elements, as a list. -/
theorem open_list {P : Program} {H : Type} {enc : TypeId × Value → H} {w : World} {t e : TypeId} {α : Type} {dec : α → List Value} {ok : α → Prop} {size : Nat} {A : Option Addr} {n c : Nat} {d : DataW H} {p : List MemPlace}
    (ht : P.underlying t = some (.slice e)) (hF : Flat P e (fun cs => ∃ a, ok a ∧ cs = dec a)) (hC : P.cellsOf e = size) (hs : 0 < size) (hlen : ∀ a, (dec a).length = size)
    (h : DataW.Trod enc P w 0 (fun _ => true) true t (.slice A n c) d p) (lt : ∀ x ∈ p, x.block < w.heap.size) :
    ∃ l : List α, l.length = n ∧ (∀ a, a ∈ l → ok a) ∧ Rd w size A n (l.flatMap dec) ∧ n ≤ c ∧ c ≤ 9223372036854775807 := by
  obtain ⟨fuel, hf⟩ := h
  rcases open_slice ht hf with ⟨hcs, _⟩ | ⟨a, len, cap, m, n', D, Pl, hcs, hb, hl, hm, hmm, hx, hi⟩
  · simp [Value.cells] at hcs
    obtain ⟨rfl, rfl, rfl⟩ := hcs
    exact ⟨[], rfl, by simp, Rd.nil _ _ _, Nat.le_refl _, by decide⟩
  · simp [Value.cells] at hcs
    obtain ⟨rfl, rfl, rfl⟩ := hcs
    simp at hmm
    subst hmm
    have hE : ∀ i, i < n → ∃ y : α, ok y ∧ ∀ j, j < size → w.cell? (a.add (i * size + j)) = (dec y)[j]? := by
      intro i hin
      obtain ⟨cs', hc, htr⟩ := hi i (by omega)
      obtain ⟨y, hy, rfl⟩ := hF H enc w 0 _ true n' cs' _ htr
      rw [hC] at hc
      obtain ⟨_, hcl, hat⟩ := World.cells?_some hc
      exact ⟨y, hy, fun j hj => by rw [← Go.Deep.add_add]; exact hat j hj⟩
    have hL : ∀ n0, n0 ≤ n → ∃ l : List α, l.length = n0 ∧ ∀ i (h : i < l.length), ok l[i] ∧ ∀ j, j < size → w.cell? (a.add (i * size + j)) = (dec l[i])[j]? := by
      intro n0
      induction n0 with
      | zero => intro _; exact ⟨[], rfl, fun i h => by simp at h⟩
      | succ k ih =>
        intro hk
        obtain ⟨l, hl, hlp⟩ := ih (by omega)
        obtain ⟨y, hy, hyc⟩ := hE k (by omega)
        refine ⟨l ++ [y], by simp [hl], fun i h => ?_⟩
        by_cases hik : i < l.length
        · rw [List.getElem_append_left hik]; exact hlp i hik
        · have : i = k := by simp at h; omega
          subst this
          rw [List.getElem_append_right (by omega)]
          simp [hl]
          exact ⟨hy, hyc⟩
    obtain ⟨l, hll, hlp⟩ := hL n (Nat.le_refl _)
    refine ⟨l, hll, fun y hy => ?_, ⟨by rw [flatMap_length hlen, hll], fun h0 => ⟨a, rfl, ?_, fun j u hu => ?_⟩⟩, hl, hm⟩
    · obtain ⟨i, hi, rfl⟩ := List.getElem_of_mem hy
      exact (hlp i hi).1
    · have := (hlp 0 (by omega)).2 0 hs
      have h1 : (dec l[0])[0]? = some ((dec l[0])[0]'(by rw [hlen]; exact hs)) := List.getElem?_eq_getElem _
      rw [h1] at this
      have := World.block_lt_of_cell? w _ this
      rw [addr_block] at this
      exact this
    · have hj : j < l.length * size := by
        have := (List.getElem?_eq_some_iff.1 hu).1
        rwa [flatMap_length hlen] at this
      have e := Nat.div_add_mod j size
      have hd : j / size < l.length := Nat.div_lt_of_lt_mul (by rw [Nat.mul_comm]; exact hj)
      have hm := Nat.mod_lt j hs
      rw [Nat.mul_comm] at e
      have := (hlp _ hd).2 _ hm
      rw [e] at this
      rw [this, ← flatMap_at hs hlen l _ _ hd hm, e, hu]

/-- A struct by value, as its cells. -/
theorem open_flat {P : Program} {H : Type} {enc : TypeId × Value → H} {w : World} {t : TypeId} {fs : Array Field} {α : Type} {dec : α → List Value} {ok : α → Prop} {v : Value} {d : DataW H} {p : List MemPlace} {r : Reach} {base : Nat}
    (ht : P.underlying t = some (.struct fs)) (hF : Flat P t (fun cs => ∃ a, ok a ∧ cs = dec a)) (hv : Value.okWide P w r base t v) (h : DataW.Trod enc P w 0 (fun _ => true) true t v d p) :
    ∃ a, ok a ∧ v = .agg (dec a).toArray := by
  obtain ⟨cs, rfl, _⟩ := okWide_struct ht hv
  obtain ⟨fuel, hf⟩ := h
  obtain ⟨a, ha, hc⟩ := hF H enc w 0 _ true fuel _ _ hf
  refine ⟨a, ha, ?_⟩
  rw [← hc]
  simp [Value.cells]

/-- A number's value, its data left as they are. -/
theorem open_num {P : Program} {H : Type} {enc : TypeId × Value → H} {w : World} {t : TypeId} {k : IntKind} {v : Value} {d : DataW H} {p : List MemPlace} {r : Reach} {base : Nat}
    (ht : P.underlying t = some (.int k)) (hv : Value.okWide P w r base t v) (h : DataW.Trod enc P w 0 (fun _ => true) true t v d p) : ∃ n, v = .int k n ∧ (Lit.int k n).wf = true := by
  obtain ⟨n, h1, _, _, h2⟩ := open_int ht hv h
  exact ⟨n, h1, h2⟩

theorem open_truth {P : Program} {H : Type} {enc : TypeId × Value → H} {w : World} {t : TypeId} {v : Value} {d : DataW H} {p : List MemPlace} {r : Reach} {base : Nat}
    (ht : P.underlying t = some .bool) (hv : Value.okWide P w r base t v) (h : DataW.Trod enc P w 0 (fun _ => true) true t v d p) : ∃ b, v = .bool b := by
  obtain ⟨n, h1, _⟩ := open_bool ht hv h
  exact ⟨n, h1⟩

end Go.Proofs.Ytbcppehpfckgoaa.Z

/- Elements of slices of structs, by their cells. No program is in sight. -/
set_option linter.unusedVariables false
set_option linter.unusedSimpArgs false
namespace Go.Proofs.Ytbcppehpfckgoaa.Z
open Go.RowKit

theorem elem_head {α : Type} {dec : α → List Value} {size : Nat} {w : World} {B : Option Addr} {m i : Nat} {l : List α} (hs : 0 < size) (hlen : ∀ a, (dec a).length = size) (h : Rd w size B m (l.flatMap dec)) (hi : i < m) :
    ∃ b off x, B = some ⟨b, off, none⟩ ∧ b < w.heap.size ∧ l[i]? = some x ∧ x ∈ l := by
  obtain ⟨b, off, hB, hb, hc⟩ := h.lit (by omega) hs
  have hl : l.length = m := by
    have := h.1
    rw [flatMap_length hlen] at this
    exact Nat.eq_of_mul_eq_mul_right hs this
  exact ⟨b, off, l[i], hB, hb, List.getElem?_eq_getElem (by omega), List.getElem_mem _⟩

theorem elem_cells {α : Type} {dec : α → List Value} {size : Nat} {w : World} {b off m i : Nat} {x : α} {l : List α} (hs : 0 < size) (hlen : ∀ a, (dec a).length = size) (h : Rd w size (some ⟨b, off, none⟩) m (l.flatMap dec)) (hi : i < m) (hx : l[i]? = some x) :
    b < w.heap.size ∧ ∀ j u, (dec x)[j]? = some u → w.cell? ⟨b, off + i * size + j, none⟩ = some u := by
  obtain ⟨b', off', hB, hb, hc⟩ := h.lit (by omega) hs
  simp only [Option.some.injEq, Addr.mk.injEq] at hB
  obtain ⟨rfl, rfl, _⟩ := hB
  obtain ⟨hil, rfl⟩ := List.getElem?_eq_some_iff.1 hx
  refine ⟨hb, fun j u hu => ?_⟩
  have hj : j < size := by have := (List.getElem?_eq_some_iff.1 hu).1; rwa [hlen] at this
  rw [Nat.add_assoc]
  exact hc _ _ ((flatMap_at hs hlen l i j hil hj).trans hu)

end Go.Proofs.Ytbcppehpfckgoaa.Z
