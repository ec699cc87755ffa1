/- 6 texts of this claim, joined: what each shows stands at its own head. -/
import Derived.Test.YtdffdppkdbbdoaaZRfStep
import Derived.Test.YtdffdppkdbbdoaaZHas3
import Derived.Test.YtdffdppkdbbdoaaZMat2
import Derived.Test.YtdffdppkdbbdoaaZFlat3
import Derived.Test.YtdffdppkdbbdoaaZRfAll
import Derived.Test.YtdffdppkdbbdoaaZAlone
import Derived.Test.YtdffdppkdbbdoaaZMatch
import Derived.Test.YtdffdppkdbbdoaaZPlace
import Derived.Test.YtdffdppkdbbdoaaZMat
/- Law 15: the document's example. Written by genlaw.py. -/
set_option linter.unusedVariables false
set_option linter.unusedSimpArgs false
namespace Go.Proofs.Ytdffdppkdbbdoaa.Z
open Go.RowKit

theorem rf_awake_pure : (aloneA rfA 1 (start 1 1 1 (own5 5 ++ List.replicate ((8 + 4 * (1 : Int)).toNat - 1) 0))).1 = 2 ∧ ldA (aloneA rfA 1 (start 1 1 1 (own5 5 ++ List.replicate ((8 + 4 * (1 : Int)).toNat - 1) 0))).2.L 0 = 1 := by
  decide +kernel

set_option maxHeartbeats 1600000 in
theorem rf_awake (w : World) : Calls Try.prog 17 #[] w fun e w' => e = .returned (.bool true) ∧ Touch [] w w' := by
  have hp := rf_awake_pure
  have hf := fun W => first5 1 5 W (by decide) (by decide)
  generalize hL : own5 5 ++ List.replicate ((8 + 4 * (1 : Int)).toNat - 1) 0 = L at hf hp
  have HF := Lib.hid hf
  clear hf hL
  go_enter Try.func17, Try.ntmps17
  go_wp2_with fail
  refine (HF.out _).mono ?_
  rintro e w1 h1
  obtain ⟨p, g, cap, rfl, H1⟩ := has_newwords (Has.start [] w) h1
  clear h1
  go_wp2_with fail
  refine (fromRow_has H1 rfl).mono ?_
  rintro e w2 ⟨m, a, rfl, H2⟩
  clear H1
  go_wp2_with fail
  refine (rf_alone H2 1 1 1 (by unfold I64; decide) 1 (by decide)).mono ?_
  rintro e w3 ⟨v, he, H3⟩
  generalize aloneA rfA 1 (start 1 1 1 L) = R at hp he H3
  obtain ⟨r1, s3⟩ := R
  obtain ⟨rfl, hp2⟩ := hp
  simp only at he H3 hp2
  subst he
  clear H2
  have hld := fun W (H : Has [] w W (.mem m a s3.L :: .row p g cap L :: [])) => load_has H 0
  rw [hp2] at hld
  have HLD := Lib.hid hld
  clear hld hp2
  go_wp2_with fail
  refine (HLD.out _ H3).mono ?_
  rintro e w4 ⟨rfl, H4⟩
  go_wp2_with fail
  go_ret
  exact ⟨by simp, H4.touch⟩

end Go.Proofs.Ytdffdppkdbbdoaa.Z

/- Law 15: how many hold something; how a match begins. Written by genmat.py. -/
set_option linter.unusedVariables false
set_option linter.unusedSimpArgs false
namespace Go.Proofs.Ytdffdppkdbbdoaa.Z
open Go.RowKit

set_option maxHeartbeats 1600000 in
theorem rf_many {S0 : List Nat} {w0 w : World} {m a x hb : Nat} {rs : List Res} {M : Mt} (H : MatchHas S0 w0 m a x hb rs M w) (what : Int) :
    Calls Try.prog 29 #[.pointer (some ⟨x, 0, none⟩), .int .i64 what] w fun e w' => e = .returned (.int .i64 (M.many what)) ∧ w = w' := by
  obtain ⟨hf1, hf2, hf3, hf4⟩ := H.fit
  obtain ⟨x0, x1, x2, x3⟩ := H.held
  generalize hk : M.fs.length = k at hf1 hf4 x1 x3
  have HX3 := Lib.hid x3
  have HL := Lib.hid hf1
  have HK := Lib.hid hf4
  clear hf1 hf2 hf3 hf4 x3 hk H
  go_enter Try.func29, Try.ntmps29
  go_wp2_with fail
  go_loopw [5, 6] (fun c i wr => wr = w ∧ ∃ j : Nat, j ≤ k ∧ i = .int .i64 j ∧ c = .int .i64 ((M.hold.take j).countP (· == what) : Nat)) (fun _ i _ => k - (intOf i).toNat)
  case atStart => exact ⟨rfl, 0, Nat.zero_le _, rfl, by simp⟩
  case round =>
    obtain ⟨rfl, j, hj, rfl, rfl⟩ := hrel
    by_cases hjk : j < k
    · have hc := HX3.out j hjk
      have hcs := count_snoc M.hold what j (by rw [HL.out]; exact hjk)
      have hcl : (M.hold.take j).countP (· == what) ≤ k := Nat.le_trans List.countP_le_length (by rw [List.length_take]; omega)
      have hk64 := HK.out
      generalize (M.hold.take j).countP (· == what) = cnt at hcs hcl ⊢
      generalize M.hold.getD j 0 = v at hc hcs
      have HCS := Lib.hid hcs
      have hi1 : (0 : Int) ≤ (j : Int) := Int.natCast_nonneg _
      have hi2 : (j : Int) < (k : Int) := by omega
      clear hcs
      by_cases hv : v = what
      · subst hv
        go_wp2
        go_roundw
        case rel => exact ⟨trivial, j + 1, by omega, by go_num, by rw [HCS.out, if_pos rfl]; go_num⟩
        case measure => simp [intOf]; omega
      · have hv2 : (v == what) = false := by simpa using hv
        have HV := Lib.hid hv
        clear hv
        go_wp2
        go_roundw
        case rel => exact ⟨trivial, j + 1, by omega, by go_num, by rw [HCS.out, if_neg HV.out, Nat.add_zero]⟩
        case measure => simp [intOf]; omega
    · have hjk2 : j = k := by omega
      subst hjk2
      have e : (M.hold.take j).countP (· == what) = M.many what := by unfold Mt.many; rw [← HL.out, List.take_length]
      rw [e]
      clear HX3 HL e
      have hi2 : (j : Int) ≤ (j : Int) := Int.le_refl _
      go_wp2
      go_ret
      exact ⟨rfl, rfl⟩

theorem ptr_info : (Try.prog.info? 46).map (fun i => (i.zero, i.size, i.bytes)) = some (some (.pointer none), 1, 8) := by kernel_rfl
theorem int_info : (Try.prog.info? 3).map (fun i => (i.zero, i.size, i.bytes)) = some (some (.int .i64 0), 1, 8) := by kernel_rfl

def RfBegun (S0 : List Nat) (w0 : World) (k : Nat) (mode : Int) (Z : List Int) (rs : List Res) (e : Ending) (w' : World) : Prop :=
  ∃ x m a hb p g cap, e = .returned (.pointer (some ⟨x, 0, none⟩)) ∧ MatchHas S0 w0 m a x hb (.row p g cap Z :: rs) (Mt.start k mode Z) w'

set_option maxHeartbeats 3200000 in
set_option maxRecDepth 100000 in
theorem rf_begun {S0 : List Nat} {w0 w : World} {rs : List Res} (H : Has S0 w0 w rs) (k : Nat) (h1 : 1 ≤ k) (h2 : k ≤ 64) (mode base : Int) (hb : 0 ≤ base ∧ base < 4294967296) :
    Calls Try.prog 27 #[.int .i64 k, .int .i64 mode, .int .u32 base] w (RfBegun S0 w0 k mode (own5 base ++ List.replicate ((8 + 4 * (k : Int)).toNat - 1) 0) rs) := by
  have hf := fun W => first5 k base W ⟨by omega, by omega⟩ hb
  generalize own5 base ++ List.replicate ((8 + 4 * (k : Int)).toNat - 1) 0 = Z at hf
  obtain ⟨i0, hi0, hz0, hz1, hz2⟩ := info_parts ptr_info
  have HI := Lib.hid (show _ ∧ _ ∧ _ ∧ _ from ⟨hi0, hz0, hz1, hz2⟩)
  clear hi0 hz0 hz1 hz2
  obtain ⟨j0, hj0, hy0, hy1, hy2⟩ := info_parts int_info
  have HJ := Lib.hid (show _ ∧ _ ∧ _ ∧ _ from ⟨hj0, hy0, hy1, hy2⟩)
  clear hj0 hy0 hy1 hy2
  have HF := Lib.hid hf
  have HH := Lib.hid H
  clear hf H
  go_enter Try.func27, Try.ntmps27
  go_wp2_with fail
  refine (HF.out _).mono ?_
  rintro e w1 g1
  obtain ⟨p, g, cap, rfl, H1⟩ := has_newwords HH.out g1
  clear g1
  go_wp2_with fail
  refine (fromRow_has H1 rfl).mono ?_
  rintro e w2 ⟨m, a, rfl, H2⟩
  clear H1
  have HS2 := Lib.hid H2
  clear H2
  go_wp2_with (at_make; refine wpList_make_full _ rfl _ _ 23 rfl 0 3 j0 _ 1 Try.underlying23 HJ.out.1 HJ.out.2.1 HJ.out.2.2.1 _ _ _ _ k rfl rfl rfl rfl (by rw [HJ.out.2.2.2]; omega) (by unfold maxLen; omega) (Nat.zero_le _) ?_; intro w4 hown hg)
  have hB := own_full hown
  rw [Nat.mul_one, show (madeCells (Value.int IntKind.i64 0).cells k).toList = List.replicate k (Value.int .i64 0) from toList_madeCells_one _ k] at hB
  have hz : (List.replicate k (Value.int .i64 0)).toArray = (i64s (List.replicate k 0)).toArray := by simp [i64s]
  rw [hz] at hB
  have H3 := HS2.out.came (.blk w2.heap.size (i64s (List.replicate k 0)).toArray) ((Touch.refl [] w2).grown hg (by simp)) (by simp) hB (by intro b hb; simp [Res.foot] at hb; omega)
  have H4 := (H3.new rfl #[.slice none 0 0, .slice (some ⟨w2.heap.size, 0, none⟩) k k] 73).ownNil 46 1
  have H5 := (((H4.front 2 (by simp)).front 1 (by simp)).front 2 (by simp)).front 3 (by simp)
  have HB0 : BegunHas S0 w0 m a w4.heap.size w2.heap.size k k mode Z (.row p g cap Z :: rs) 0 (w4.alloc (.cells #[.slice none 0 0, .slice (some ⟨w2.heap.size, 0, none⟩) k k] 73)) :=
    ⟨.slice none 0 0, [], rfl, by simp, H5⟩
  clear hown hg hB hz H3 H4 H5 HS2
  refine wp_from (Facts := fun W => BegunHas S0 w0 m a w4.heap.size w2.heap.size k k mode Z (.row p g cap Z :: rs) 0 W) ?_ HB0
  clear HB0
  intro W HW
  generalize w4.heap.size = X at HW ⊢
  generalize w2.heap.size = B at HW ⊢
  have HV := Lib.hid HW
  clear HW
  go_loopw [12] (fun i wr => ∃ j : Nat, j ≤ k ∧ i = .int .i64 j ∧ BegunHas S0 w0 m a X B k k mode Z (.row p g cap Z :: rs) j wr) (fun i _ => k - (intOf i).toNat)
  case atStart => exact ⟨0, Nat.zero_le _, rfl, HV.out⟩
  case round =>
    obtain ⟨j, hj, rfl, hR⟩ := hrel
    clear HV
    by_cases hjk : j < k
    · obtain ⟨lv, ts, hl, hts, hH⟩ := hR
      obtain ⟨x0, x1, x2⟩ := hH.blk1.own
      have HL := Lib.hid hl
      have HTS := Lib.hid hts
      have HR := Lib.hid hH
      have hi1 : (0 : Int) ≤ (j : Int) := Int.natCast_nonneg _
      have hi2 : (j : Int) < (k : Int) := by omega
      clear hl hts hH
      go_wp2_with (at_builtin; refine wpList_from (Facts := fun W => Has S0 w0 W (.blk (wr.heap.size + 1) #[.pointer (some ⟨wr.heap.size, 0, none⟩)] :: .blk wr.heap.size (rcells m ⟨k, mode, j, Fr.zero, Acc.zero, [], Z⟩ (.slice none 0 0)) :: .mem m a Z :: .blk X #[lv, .slice (some ⟨B, 0, none⟩) k k] :: .own 46 1 lv j (ts.map Tk.ptr) :: .blk B (i64s (List.replicate k 0)).toArray :: (tksRes m ts ++ .row p g cap Z :: rs))) ?_ ((HR.out.new rfl _ _).new (by simp) _ _); intro W HW; refine wpList_append_rd (P := Try.prog) _ rfl (.tmp 43) (.tmp 51) _ rfl 0 46 i0 _ 1 8 Try.underlying71 HI.out.1 HI.out.2.1 HI.out.2.2.1 HI.out.2.2.2 rfl (by omega) lv j (ts.map Tk.ptr) rfl (Has.ownAt HW 4 rfl) (some ⟨wr.heap.size + 1, 0, none⟩) 1 1 [.pointer (some ⟨wr.heap.size, 0, none⟩)] rfl (rd_cells (HW.at_ 0 rfl)) (by simp [Value.oneCell']) (by simp only [maxLen]; omega) (by omega) (by omega) ?_; intro v' w' hown hg hat; obtain ⟨p', c', rfl⟩ := owns_slice hown; have HB := begun_more HL.out HTS.out HW hown hg hat; have HG := Has.grown1 4 (by simp) HW rfl hown hg hat; clear x0 x1 x2; obtain ⟨y0, y1, y2⟩ := (HG.at_ 4 rfl).own; clear HG hown hg hat HW)
      go_roundw
      case rel => exact ⟨j + 1, by omega, by go_num, HB⟩
      case measure => simp [intOf]; omega
    · have hjk2 : j = k := by omega
      subst hjk2
      have HR := Lib.hid hR
      clear hR
      have hi2 : (j : Int) ≤ (j : Int) := Int.le_refl _
      go_wp2
      go_ret
      exact ⟨X, m, a, B, p, g, cap, rfl, begun_done h2 HR.out⟩

end Go.Proofs.Ytdffdppkdbbdoaa.Z

/- A region that draws its order and holds one call that leaves the world as it was, walked in the order of its text: the call is borne beside loads. No program is in sight. -/
set_option linter.unusedVariables false
set_option linter.unusedSimpArgs false
namespace Go.Proofs.Ytdffdppkdbbdoaa.Z
open Go

section
variable {P : Program} {ops : Array Oper} {Q : Exit → Act → World → Prop} {c : Nat}

/-- A call's value here: it leaves the world as it was. -/
def CallAt (P : Program) (ops : Array Oper) (o : Oper) (v : Value) (a : Act) (w : World) : Prop :=
  (Region.wanted o (yielded ops a.tmps) = true ∧ (∀ W, Touch [] w W → ∃ f args, (execOp a.eval o).run P W = .ok (.enter f args) W ∧ Calls P f args W fun e w' => e = .returned v ∧ W = w')) ∨ (Region.wanted o (yielded ops a.tmps) = false ∧ v = undef)

theorem CallAt.wpOp {i : Nat} {o : Oper} {v : Value} {a : Act} {w : World} (hi : ops[i]? = some o) (hy : CallAt P ops o v a w) {K : Act → World → Prop} (h : K (a.put o.dst v) w) : wpOp P ops Q i K a w := by
  unfold Go.wpOp
  simp only [hi]
  rcases hy with ⟨hw, hf⟩ | ⟨hw, rfl⟩
  · obtain ⟨f, args, hv, hc⟩ := hf w (Touch.refl _ _)
    simp only [hw, if_true, Oper.wp, hv, Oper.upon]
    refine .inl (Calls.mono hc ?_)
    rintro e w' ⟨rfl, rfl⟩
    exact h
  · simp only [hw, Bool.false_eq_true, if_false]; exact h

/-- A load's value, or the call's. -/
def LooksAt (P : Program) (ops : Array Oper) (c i : Nat) (o : Oper) (v : Value) (a : Act) (w : World) : Prop := if i = c then CallAt P ops o v a w else LoadsAt P ops o v a w

theorem LooksAt.of_same {i : Nat} {o : Oper} {v : Value} {a a' : Act} {w : World} (hy : LooksAt P ops c i o v a w) (he : execOp a'.eval o = execOp a.eval o) (hw : Region.wanted o (yielded ops a'.tmps) = Region.wanted o (yielded ops a.tmps)) : LooksAt P ops c i o v a' w := by
  unfold LooksAt at *
  split
  · rename_i h
    rw [if_pos h] at hy
    unfold CallAt at *
    rw [he, hw]
    exact hy
  · rename_i h
    rw [if_neg h] at hy
    exact hy.of_same he hw

/-- Operation i; the call: by its value. -/
def wpOpJ (P : Program) (ops : Array Oper) (c : Nat) (Q : Exit → Act → World → Prop) (i : Nat) (K : Act → World → Prop) (a : Act) (w : World) : Prop :=
  if i = c then ∃ o v, ops[i]? = some o ∧ CallAt P ops o v a w ∧ K (a.put o.dst v) w else wpOpI P ops Q i K a w

def wpOpsJ (P : Program) (ops : Array Oper) (c : Nat) (Q : Exit → Act → World → Prop) : List Nat → Act → World → Prop
  | [], a, w => Q .normal a w
  | i :: rest, a, w => wpOpJ P ops c Q i (wpOpsJ P ops c Q rest) a w

theorem wpOpJ_mono {i : Nat} {a : Act} {w : World} {K K' : Act → World → Prop} (h : ∀ a w, K a w → K' a w) (hh : wpOpJ P ops c Q i K a w) : wpOpJ P ops c Q i K' a w := by
  unfold wpOpJ at *
  split
  · rename_i hc
    rw [if_pos hc] at hh
    obtain ⟨o, v, h1, h2, h3⟩ := hh
    exact ⟨o, v, h1, h2, h _ _ h3⟩
  · rename_i hc
    rw [if_neg hc] at hh
    exact wpOpI_mono h hh

theorem wpOpJ_wpOp {i : Nat} {a : Act} {w : World} {K : Act → World → Prop} (hh : wpOpJ P ops c Q i K a w) : wpOp P ops Q i K a w := by
  unfold wpOpJ at hh
  split at hh
  · obtain ⟨o, v, h1, h2, h3⟩ := hh
    exact h2.wpOp h1 h3
  · exact hh.2

theorem look_at {i : Nat} {oi : Oper} {a : Act} {w : World} {K : Act → World → Prop} (hQ : Calm Q) (hi : ops[i]? = some oi) (hb : (i == c || loadOp oi) = true) (h : wpOpJ P ops c Q i K a w) : ∃ v, LooksAt P ops c i oi v a w ∧ K (a.put oi.dst v) w := by
  unfold wpOpJ at h
  unfold LooksAt
  split at h
  · rename_i hc
    obtain ⟨o, v, h1, h2, h3⟩ := h
    rw [hi] at h1
    cases h1
    exact ⟨v, by rw [if_pos hc]; exact h2, h3⟩
  · rename_i hc
    have hb' : loadOp oi = true := by simpa [hc] using hb
    obtain ⟨v, h1, h2⟩ := load_at hQ hi hb' h.2
    exact ⟨v, by rw [if_neg hc]; exact h1, h2⟩

theorem LooksAt.wpOpJ {i : Nat} {oi : Oper} {v : Value} {a : Act} {w : World} {K : Act → World → Prop} (hi : ops[i]? = some oi) (hb : (i == c || loadOp oi) = true) (h : LooksAt P ops c i oi v a w) (hk : K (a.put oi.dst v) w) : wpOpJ P ops c Q i K a w := by
  unfold Z.wpOpJ
  unfold LooksAt at h
  split
  · rename_i hc
    rw [if_pos hc] at h
    exact ⟨oi, v, hi, h, hk⟩
  · rename_i hc
    rw [if_neg hc] at h
    have hb' : loadOp oi = true := by simpa [hc] using hb
    exact ⟨fun o ho _ => by rw [hi] at ho; cases ho; exact nums_load hb', h.wpOp hi hk⟩

/-- Two that look. -/
theorem swap3C {i j : Nat} {oi oj : Oper} {K : Act → World → Prop} {a : Act} {w : World} (hQ : Calm Q) (hi : ops[i]? = some oi) (hj : ops[j]? = some oj)
    (hsi : ∀ cs b, oi.op ≠ .select cs b) (hsj : ∀ cs b, oj.op ≠ .select cs b) (hli : (i == c || loadOp oi) = true) (hlj : (j == c || loadOp oj) = true) (hap : oi.apart ops oj = true)
    (h : wpOpJ P ops c Q j (wpOpJ P ops c Q i K) a w) : wpOpJ P ops c Q i (wpOpJ P ops c Q j K) a w := by
  obtain ⟨a1, a2, a3⟩ := Oper.apart_spec hap
  obtain ⟨u, hu, hk⟩ := look_at hQ hj hlj h
  obtain ⟨v, hv, hk⟩ := look_at hQ hi hli hk
  have hv' : LooksAt P ops c i oi v a w := hv.of_same (execOp_put oi hsi a oj.dst u a3).symm (wanted_put oi a oj.dst u a3).symm
  have hu' : LooksAt P ops c j oj u (a.put oi.dst v) w := hu.of_same (execOp_put oj hsj a oi.dst v a1) (wanted_put oj a oi.dst v a1)
  refine hv'.wpOpJ hi hli (hu'.wpOpJ hj hlj ?_)
  rw [Act.put_comm a v u a2]
  exact hk

/-- A blind one is first, the call comes ahead of it. -/
theorem swap1C {i : Nat} {oi oj : Oper} {K : Act → World → Prop} {a : Act} {w : World} (hQ : Calm Q) (hi : ops[i]? = some oi) (hj : ops[c]? = some oj) (hic : i ≠ c)
    (hsi : ∀ cs b, oi.op ≠ .select cs b) (hsj : ∀ cs b, oj.op ≠ .select cs b) (hb : blindOp P oi = true) (hap : oi.apart ops oj = true)
    (h : wpOpJ P ops c Q i (wpOpJ P ops c Q c K) a w) : wpOpJ P ops c Q c (wpOpJ P ops c Q i K) a w := by
  have hcc : (c == c || loadOp oj) = true := by simp
  have h' : wpOpI P ops Q i (wpOpJ P ops c Q c K) a w := by unfold wpOpJ at h; rw [if_neg hic] at h; exact h
  obtain ⟨v, hy, hk⟩ := blind_yields hQ hi hb h'
  obtain ⟨a1, a2, a3⟩ := Oper.apart_spec hap
  obtain ⟨u, hu, hk⟩ := look_at hQ hj hcc hk
  have hu' : LooksAt P ops c c oj u a w := hu.of_same (execOp_put oj hsj a oi.dst v a1).symm (wanted_put oj a oi.dst v a1).symm
  refine hu'.wpOpJ hj hcc ?_
  unfold wpOpJ
  rw [if_neg hic]
  have hy2 : Yields P ops oi v (a.put oj.dst u) := hy.of_same (execOp_put oi hsi a oj.dst u a3) (wanted_put oi a oj.dst u a3)
  refine ⟨fun o ho hw => ?_, Yields.wpOp hi hy2 ?_⟩
  · rw [hi] at ho
    cases ho
    exact (nums_put (ops := ops) a3).2 (h'.1 _ hi (by rw [← wanted_put oi a oj.dst u a3]; exact hw))
  · rw [← Act.put_comm a v u a2]
    exact hk

/-- The call is first, a blind one comes ahead of it. -/
theorem swap2C {i : Nat} {oi oj : Oper} {K : Act → World → Prop} {a : Act} {w : World} (hQ : Calm Q) (hi : ops[i]? = some oi) (hj : ops[c]? = some oj) (hic : i ≠ c)
    (hsi : ∀ cs b, oi.op ≠ .select cs b) (hsj : ∀ cs b, oj.op ≠ .select cs b) (hb : blindOp P oi = true) (hap : oi.apart ops oj = true)
    (h : wpOpJ P ops c Q c (wpOpJ P ops c Q i K) a w) : wpOpJ P ops c Q i (wpOpJ P ops c Q c K) a w := by
  have hcc : (c == c || loadOp oj) = true := by simp
  obtain ⟨u, hu, hk⟩ := look_at hQ hj hcc h
  unfold wpOpJ at hk
  rw [if_neg hic] at hk
  obtain ⟨v, hy, hk2⟩ := blind_yields hQ hi hb hk
  obtain ⟨a1, a2, a3⟩ := Oper.apart_spec hap
  have hy2 : Yields P ops oi v a := hy.of_same (execOp_put oi hsi a oj.dst u a3).symm (wanted_put oi a oj.dst u a3).symm
  have hu' : LooksAt P ops c c oj u (a.put oi.dst v) w := hu.of_same (execOp_put oj hsj a oi.dst v a1) (wanted_put oj a oi.dst v a1)
  unfold wpOpJ
  rw [if_neg hic]
  refine ⟨fun o ho hw => ?_, Yields.wpOp hi hy2 ?_⟩
  · rw [hi] at ho
    cases ho
    exact (nums_put (ops := ops) a3).1 (hk.1 _ hi (by rw [wanted_put oi a oj.dst u a3]; exact hw))
  · refine hu'.wpOpJ hj hcc ?_
    rw [Act.put_comm a v u a2]
    exact hk2

theorem LooksAt.grow {i : Nat} {o : Oper} {v : Value} {a : Act} {w w' : World} (hl : (i == c || loadOp o) = true) (hy : LooksAt P ops c i o v a w) (t : Touch [] w w') : LooksAt P ops c i o v a w' := by
  unfold LooksAt at *
  split
  · rename_i h
    rw [if_pos h] at hy
    rcases hy with ⟨hw, hf⟩ | hy
    · exact .inl ⟨hw, fun W t2 => hf W (t.trans t2)⟩
    · exact .inr hy
  · rename_i h
    rw [if_neg h] at hy
    exact LoadsAt.grow (by simpa [h] using hl) hy t

theorem wpOpJ_ne {i : Nat} (h : i ≠ c) (K : Act → World → Prop) : wpOpJ P ops c Q i K = wpOpI P ops Q i K := by
  funext a w
  unfold wpOpJ
  rw [if_neg h]

/-- The call is first, what makes memory comes ahead of it. -/
theorem swap4C {i : Nat} {oi ok : Oper} {K : Act → World → Prop} {a : Act} {w : World} (hQ : Calm Q) (hi : ops[i]? = some oi) (hk : ops[c]? = some ok) (hic : i ≠ c)
    (hsi : ∀ cs b, oi.op ≠ .select cs b) (hsk : ∀ cs b, ok.op ≠ .select cs b) (hni : newOp oi = true) (hap : oi.apart ops ok = true)
    (h : wpOpJ P ops c Q c (wpOpJ P ops c Q i K) a w) : wpOpJ P ops c Q i (wpOpJ P ops c Q c K) a w := by
  have hcc : (c == c || loadOp ok) = true := by simp
  obtain ⟨a1, a2, a3⟩ := Oper.apart_spec hap
  obtain ⟨u, hu, hh⟩ := look_at hQ hk hcc h
  unfold wpOpJ at hh
  rw [if_neg hic] at hh
  have h2 := hh.2
  have keep : ∀ (v : Value) (w' : World), Touch [] w w' → K ((a.put ok.dst u).put oi.dst v) w' → wpOpJ P ops c Q c K (a.put oi.dst v) w' := fun v w' t hK =>
    ((hu.grow hcc t).of_same (execOp_put ok hsk a oi.dst v a1) (wanted_put ok a oi.dst v a1)).wpOpJ hk hcc (by rw [Act.put_comm a v u a2]; exact hK)
  rw [wpOpJ_ne hic]
  refine ⟨fun o ho _ => by rw [hi] at ho; cases ho; exact nums_new hni, ?_⟩
  unfold wpOp at h2 ⊢
  simp only [hi] at h2 ⊢
  rw [wanted_put oi a ok.dst u a3] at h2
  split
  · rename_i hw
    simp only [hw, if_true] at h2
    rcases h2 with h2 | ⟨_, h2⟩
    case inr => exact absurd h2 hQ.out
    refine .inl ?_
    unfold Oper.wp at h2 ⊢
    rw [execOp_put oi hsi a ok.dst u a3] at h2
    obtain ⟨s, hs, hg⟩ := newOp_spec (P := P) (a := a) hni
    rw [hs] at h2 ⊢
    rw [Sem.run_bind] at h2 ⊢
    cases hr : s.run P w with
    | ok v w' =>
      rw [hr] at h2
      have := keep v w' (hg _ _ _ hr) h2
      exact this
    | halt h' w' =>
      rw [hr] at h2
      obtain ⟨n, w2, e2⟩ := calm_upon hQ h2
      cases e2
  · rename_i hw
    simp only [hw] at h2
    have := keep undef w (Touch.refl _ _) h2
    exact this

/-- Two operations that may come in either order. -/
def compatC (P : Program) (ops : Array Oper) (c k i : Nat) : Bool :=
  match ops[k]?, ops[i]? with
  | some x, some y => x.apart ops y && y.apart ops x && k != i && (if k = c then blindOp P y || (loadOp y || newOp y) else if i = c then blindOp P x || loadOp x else compat P ops k i)
  | _, _ => false

theorem swapAnyC (hQ : Calm Q) (hs : Region.noSelect ops = true) {k i : Nat} (h : compatC P ops c k i = true) {K : Act → World → Prop} {a : Act} {w : World}
    (hh : wpOpJ P ops c Q k (wpOpJ P ops c Q i K) a w) : wpOpJ P ops c Q i (wpOpJ P ops c Q k K) a w := by
  unfold compatC at h
  split at h
  · rename_i x y hx hy
    simp only [Bool.and_eq_true, bne_iff_ne, ne_eq] at h
    obtain ⟨⟨⟨h1, h2⟩, hne⟩, h3⟩ := h
    have sx := Region.noSelect_spec hs k x
    have sy := Region.noSelect_spec hs i y
    split at h3
    · rename_i hk
      subst hk
      simp only [Bool.or_eq_true] at h3
      rcases h3 with h3 | h3 | h3
      · exact swap2C hQ hy hx (fun e => hne e.symm) (fun cs b => sy cs b hy) (fun cs b => sx cs b hx) h3 h2 hh
      · exact swap3C hQ hy hx (fun cs b => sy cs b hy) (fun cs b => sx cs b hx) (by simp [h3]) (by simp) h2 hh
      · exact swap4C hQ hy hx (fun e => hne e.symm) (fun cs b => sy cs b hy) (fun cs b => sx cs b hx) h3 h2 hh
    · rename_i hk
      split at h3
      · rename_i hi
        subst hi
        simp only [Bool.or_eq_true] at h3
        rcases h3 with h3 | h3
        · exact swap1C hQ hx hy hne (fun cs b => sx cs b hx) (fun cs b => sy cs b hy) h3 h1 hh
        · exact swap3C hQ hy hx (fun cs b => sy cs b hy) (fun cs b => sx cs b hx) (by simp) (by simp [h3]) h2 hh
      · rename_i hi
        have e1 : ∀ K, wpOpJ P ops c Q k K = wpOpI P ops Q k K := fun K => by funext a w; unfold wpOpJ; rw [if_neg hk]
        have e2 : ∀ K, wpOpJ P ops c Q i K = wpOpI P ops Q i K := fun K => by funext a w; unfold wpOpJ; rw [if_neg hi]
        rw [e1, e2] at hh
        rw [e2, e1]
        exact swapAny hQ hs h3 hh
  · cases h

theorem moveFirstC (hQ : Calm Q) (hs : Region.noSelect ops = true) {i : Nat} {t2 : List Nat} : ∀ (t1 : List Nat), (∀ k, k ∈ t1 → compatC P ops c k i = true) → ∀ (a : Act) (w : World),
    wpOpsJ P ops c Q (t1 ++ i :: t2) a w → wpOpsJ P ops c Q (i :: (t1 ++ t2)) a w
  | [], _, a, w, h => h
  | k :: t1, hc, a, w, h => by
    have h1 : wpOpJ P ops c Q k (wpOpJ P ops c Q i (wpOpsJ P ops c Q (t1 ++ t2))) a w :=
      wpOpJ_mono (fun a' w' h' => moveFirstC hQ hs t1 (fun k hk => hc k (List.mem_cons_of_mem _ hk)) a' w' h') h
    exact swapAnyC hQ hs (hc k (by simp)) h1

def flatAtC (P : Program) (ops : Array Oper) (c : Nat) (M : Array Nat) (i : Nat) : Bool :=
  (match ops[i]? with
    | some o => o.after.all fun e => !Region.binds .any e || decide (e.on < i)
    | none => true) && ((List.range i).all fun k => (M.getD i 0).testBit k || compatC P ops c k i) && maskOk ops M i

def flatWithC (P : Program) (ops : Array Oper) (c : Nat) (M : Array Nat) : Bool := Region.noSelect ops && (List.range ops.size).all (flatAtC P ops c M)

/-- THE CHECK: what is not ordered commutes. -/
def flatOkC (P : Program) (ops : Array Oper) (c : Nat) : Bool := flatWithC P ops c (Region.before ops)

theorem flat_edgeC {M : Array Nat} (h : flatWithC P ops c M = true) {i : Nat} {o : Oper} (ho : ops[i]? = some o) {e : Edge} (he : e ∈ o.after) (hb : Region.binds .any e = true) : e.on < i := by
  unfold flatWithC at h
  simp only [Bool.and_eq_true, List.all_eq_true, List.mem_range] at h
  have h1 := h.2 i (Array.getElem?_eq_some_iff.1 ho).1
  unfold flatAtC at h1
  simp only [Bool.and_eq_true, ho] at h1
  have h2 := Array.all_eq_true_iff_forall_mem.1 h1.1.1 e he
  simpa [hb] using h2

theorem mask_listedC {M : Array Nat} (h : flatWithC P ops c M = true) {listed : Array Bool} (hc : Closed ops listed) : ∀ (i : Nat) (o : Oper), ops[i]? = some o → (∀ e ∈ o.after, Region.binds .any e = true → listed.getD e.on false = true) →
    ∀ k, k < i → (M.getD i 0).testBit k = true → listed.getD k false = true := by
  intro i
  induction i using Nat.strongRecOn with
  | ind i ih =>
    intro o ho hd k hk hb
    have h' := h
    unfold flatWithC at h'
    simp only [Bool.and_eq_true, List.all_eq_true, List.mem_range] at h'
    have h1 := h'.2 i (Array.getElem?_eq_some_iff.1 ho).1
    unfold flatAtC at h1
    simp only [Bool.and_eq_true] at h1
    have h2 := h1.2
    unfold maskOk at h2
    simp only [List.all_eq_true, List.mem_range, ho] at h2
    have h3 := h2 k hk
    simp only [hb, Bool.not_true, Bool.false_or] at h3
    obtain ⟨e, he, h4⟩ := Array.any_eq_true'.1 h3
    simp only [Bool.and_eq_true, Bool.or_eq_true, beq_iff_eq, decide_eq_true_eq] at h4
    have hlt := flat_edgeC h ho he h4.1
    have hl := hd e he h4.1
    rcases h4.2 with h5 | ⟨hke, h5⟩
    · rw [← h5]; exact hl
    · have hn : e.on < ops.size := Nat.lt_trans hlt (Array.getElem?_eq_some_iff.1 ho).1
      exact ih e.on hlt ops[e.on] (Array.getElem?_eq_getElem hn) (hc e.on _ hl (Array.getElem?_eq_getElem hn)) k hke h5

theorem any_of_flatC {M : Array Nat} (hQ : Calm Q) (h : flatWithC P ops c M = true) : ∀ (fuel : Nat) (listed : Array Bool) (a : Act) (w : World), listed.size = ops.size → Closed ops listed → (restOf ops.size listed).length ≤ fuel →
    wpOpsJ P ops c Q (restOf ops.size listed) a w → wpAny P .any ops Q fuel listed a w := by
  have hs : Region.noSelect ops = true := by
    unfold flatWithC at h
    simp only [Bool.and_eq_true] at h
    exact h.1
  have hat : ∀ i, i < ops.size → ∀ k, k < i → (M.getD i 0).testBit k = true ∨ compatC P ops c k i = true := by
    intro i hi k hk
    unfold flatWithC at h
    simp only [Bool.and_eq_true, List.all_eq_true, List.mem_range] at h
    have h1 := h.2 i hi
    unfold flatAtC at h1
    simp only [Bool.and_eq_true, List.all_eq_true, List.mem_range, Bool.or_eq_true] at h1
    exact h1.1.2 k hk
  have hready : ∀ (listed : Array Bool), Region.ready .any ops listed = [] → Closed ops listed → restOf ops.size listed = [] := by
    intro listed hr hc
    cases ht : restOf ops.size listed with
    | nil => rfl
    | cons j t =>
      exfalso
      have hj : j ∈ restOf ops.size listed := by rw [ht]; simp
      obtain ⟨hjn, hj0⟩ := mem_rest.1 hj
      have hle : ∀ k, k ∈ restOf ops.size listed → j ≤ k := by
        have hp : (restOf ops.size listed).Pairwise (· < ·) := by
          unfold restOf
          exact List.Pairwise.filter _ List.pairwise_lt_range
        rw [ht] at hp
        intro k hk
        rw [ht] at hk
        rcases List.mem_cons.1 hk with rfl | hk
        · exact Nat.le_refl _
        · exact Nat.le_of_lt ((List.pairwise_cons.1 hp).1 k hk)
      have : j ∈ Region.ready .any ops listed := by
        rw [mem_ready]
        refine ⟨hj0, ops[j], Array.getElem?_eq_getElem hjn, fun e he hb => ?_⟩
        have hlt := flat_edgeC h (Array.getElem?_eq_getElem hjn) he hb
        cases hl : listed.getD e.on true with
        | true =>
          by_cases hin : e.on < listed.size
          · simpa [hin] using hl
          · simp [Array.getElem?_eq_none (Nat.le_of_not_lt hin)] at hl
            have h2 := hle e.on
            by_cases hin2 : listed.size ≤ e.on
            · exfalso
              have h3 : e.on < ops.size := Nat.lt_trans hlt hjn
              have h4 : ¬ (j < listed.size) := fun hh => by
                exact absurd (Nat.lt_trans hlt hh) (Nat.not_lt.2 hin2)
              simp [Array.getElem?_eq_none (Nat.le_of_not_lt h4)] at hj0
            · omega
        | false =>
          have := hle e.on (mem_rest.2 ⟨Nat.lt_trans hlt hjn, hl⟩)
          omega
      rw [hr] at this
      cases this
  intro fuel
  induction fuel with
  | zero =>
    intro listed a w hsz hc hl hh
    have hnil : restOf ops.size listed = [] := List.eq_nil_of_length_eq_zero (by omega)
    rw [hnil] at hh
    refine ⟨?_, hh⟩
    cases hr : Region.ready .any ops listed with
    | nil => rfl
    | cons j t =>
      exfalso
      have hj : j ∈ Region.ready .any ops listed := by rw [hr]; simp
      obtain ⟨h0, o, ho, _⟩ := mem_ready.1 hj
      have : j ∈ restOf ops.size listed := mem_rest.2 ⟨(Array.getElem?_eq_some_iff.1 ho).1, h0⟩
      rw [hnil] at this
      cases this
  | succ fuel ih =>
    intro listed a w hsz hc hl hh
    refine ⟨fun hr => ?_, fun i hi => ?_⟩
    · rw [hready listed hr hc] at hh
      exact hh
    · obtain ⟨h0, o, ho, hd⟩ := mem_ready.1 hi
      have hin := (Array.getElem?_eq_some_iff.1 ho).1
      obtain ⟨t1, t2, e1, e2, ht⟩ := rest_split hin hsz h0
      rw [e1] at hh hl
      have hmv := moveFirstC hQ hs t1 (fun k hk => by
        obtain ⟨hki, hk0⟩ := ht k hk
        rcases hat i hin k hki with hb | hb
        · have := mask_listedC h hc i o ho hd k hki hb
          exfalso
          have hks : k < listed.size := by omega
          simp [hks] at this hk0
          rw [hk0] at this
          cases this
        · exact hb) a w hh
      refine wpOp_mono (fun a' w' h3 => ih _ a' w' (by simpa using hsz) ?_ ?_ ?_) (wpOpJ_wpOp hmv)
      · intro x ox hx hox e he hb
        by_cases hxi : i = x
        · subst hxi
          rw [ho] at hox
          cases hox
          exact getD_set_true (hd e he hb)
        · rw [getD_set_ne false hxi] at hx
          exact getD_set_true (hc x ox hx hox e he hb)
      · rw [e2]
        simp only [List.length_append, List.length_cons] at hl ⊢
        omega
      · rw [e2]
        exact h3


theorem wpOp_only {R : Exit → Act → World → Prop} {i : Nat} {K : Act → World → Prop} {a : Act} {w : World} (h : wpOp P ops (Only R) i K a w) : wpOp P ops (Only Q) i K a w := by
  unfold wpOp at *
  split at h
  · exact h
  · rename_i o ho
    split at h
    · rename_i hw
      rw [if_pos hw]
      rcases h with h | ⟨_, h⟩
      case inr => exact absurd h calm_only.out
      refine .inl ?_
      unfold Oper.wp at *
      generalize (execOp a.eval o).run P w = r at *
      cases r with
      | ok n w' =>
        cases n <;> simp only [Oper.upon] at h ⊢
        case value u => exact h
        case skip => exact h
        case defer d => exact h
        case enter f args =>
          refine Calls.mono h fun e w'' he => ?_
          cases e with
          | returned u => exact he
          | panicked c => exact absurd he (calm_only.panic _ _ _)
          | outgrown => exact absurd he calm_only.out
        case row row args => exact h
      | halt x w' =>
        cases x <;> simp only [Oper.upon] at h ⊢
        case panic u => exact absurd h (calm_only.panic _ _ _)
    · rename_i hw
      rw [if_neg hw]
      exact h

theorem opsJ_of_list {R : Exit → Act → World → Prop} {t : List Nat} (hR : ∀ a w, R .normal a w → wpOpsJ P ops c (Only Q) t a w) : ∀ (l : List Oper) (k : Nat), (∀ j, j < l.length → l[j]? = ops[k + j]?) → (c < k ∨ k + l.length ≤ c) → ∀ (a : Act) (w : World), wpList P ops (Only R) (probed l) a w → wpOpsJ P ops c (Only Q) (List.range' k l.length ++ t) a w
  | [], k, _, _, a, w, h => hR a w h
  | o :: l, k, hk, hck, a, w, h => by
    have hQ : Calm (Only R) := calm_only
    have ho : ops[k]? = some o := by simpa using (hk 0 (by simp)).symm
    have hl : ∀ j, j < l.length → l[j]? = ops[k + 1 + j]? := fun j hj => by have := hk (j + 1) (by simpa using hj); simpa [Nat.add_assoc, Nat.add_comm 1 j] using this
    have hne : k ≠ c := by rcases hck with h | h <;> simp only [List.length_cons] at * <;> omega
    have hck2 : c < k + 1 ∨ k + 1 + l.length ≤ c := by simp only [List.length_cons] at hck; omega
    rw [List.length_cons, List.range'_succ, List.cons_append]
    unfold probed at h
    have hn : (Region.wanted o (yielded ops a.tmps) = true → Nums o a) ∧ wpList P ops (Only R) (o :: probed l) a w := by
      unfold probes at h
      unfold Nums
      split at h
      · rename_i op t x y u hop
        rw [List.append_assoc] at h
        obtain ⟨h1, h⟩ := probe_look hQ h
        obtain ⟨h2, h⟩ := probe_look hQ h
        rw [hop]
        exact ⟨fun hw => ⟨h1 hw, h2 hw⟩, h⟩
      · rename_i s d x hop
        obtain ⟨h1, h⟩ := probe_look hQ h
        rw [hop]
        exact ⟨h1, h⟩
      · rename_i h1 h2
        refine ⟨fun _ => ?_, h⟩
        split
        · rename_i op t x y u hop
          exact absurd hop (h1 _ _ _ _ _)
        · rename_i s d x hop
          exact absurd hop (h2 _ _ _)
        · trivial
    show wpOpJ P ops c (Only Q) k (wpOpsJ P ops c (Only Q) (List.range' (k + 1) l.length ++ t)) a w
    unfold wpOpJ
    rw [if_neg hne]
    refine ⟨fun o' ho' hw => ?_, ?_⟩
    · rw [ho] at ho'
      cases ho'
      exact hn.1 hw
    · have h2 := hn.2
      refine wpOp_only (R := R) ?_
      unfold wpList at h2
      unfold wpOp
      simp only [ho]
      split
      · rename_i hw
        simp only [hw, if_true] at h2
        exact h2.imp (fun h => Oper.wp_mono (fun a' w' h' => opsJ_of_list hR l (k + 1) hl hck2 a' w' h') h) id
      · rename_i hw
        simp only [hw] at h2
        exact opsJ_of_list hR l (k + 1) hl hck2 _ _ h2

/-- What the walk shows: the text up to the call; the call; the rest. -/
def Half (P : Program) (ops : Array Oper) (Q : Exit → Act → World → Prop) (o : Oper) (l : List Oper) : Exit → Act → World → Prop := fun _ a w => ∃ v, CallAt P ops o v a w ∧ wpList P ops (Only Q) (probed l) (a.put o.dst v) w

/-- THE LAW: where what is not ordered commutes, the call borne as a load. -/
theorem region_flat_call {id : Nat} {l : List Oper} {o : Oper} {a : Act} {w : World} (c : Nat) (hc : l[c]? = some o) (hm : P.follows .mixedOrders = true) (hok : flatOkC P l.toArray c = true)
    (h : wpList P l.toArray (Only (Half P l.toArray Q o (l.drop (c + 1)))) (probed (l.take c)) a w.drew) : (Code.region id l.toArray true).wp P Q a w := by
  have hcl : c < l.length := (List.getElem?_eq_some_iff.1 hc).1
  have hr : restOf l.toArray.size (Array.replicate l.toArray.size false) = List.range' 0 (l.take c).length ++ (c :: List.range' (c + 1) (l.drop (c + 1)).length) := by
    have e1 : restOf l.toArray.size (Array.replicate l.toArray.size false) = List.range' 0 l.length := by
      unfold restOf
      rw [← List.range_eq_range']
      simp only [List.size_toArray]
      refine List.filter_eq_self.2 fun j hj => ?_
      have := List.mem_range.1 hj
      simp [this]
    rw [e1]
    have e2 : l.length = c + ((l.length - c - 1) + 1) := by omega
    rw [show (l.take c).length = c from by rw [List.length_take]; omega, show (l.drop (c + 1)).length = l.length - c - 1 from by rw [List.length_drop]; omega]
    conv => lhs; rw [e2]
    rw [← List.range'_append_1, Nat.zero_add, List.range'_succ]
  have h0 : ∀ a w, Half P l.toArray Q o (l.drop (c + 1)) .normal a w → wpOpsJ P l.toArray c (Only Q) (c :: List.range' (c + 1) (l.drop (c + 1)).length) a w := by
    rintro a w ⟨v, h1, h2⟩
    show wpOpJ P l.toArray c (Only Q) c (wpOpsJ P l.toArray c (Only Q) (List.range' (c + 1) (l.drop (c + 1)).length)) a w
    unfold wpOpJ
    rw [if_pos rfl]
    refine ⟨o, v, by simpa using hc, h1, ?_⟩
    have := opsJ_of_list (P := P) (ops := l.toArray) (c := c) (Q := Q) (R := Q) (t := []) (fun a w h => h) (l.drop (c + 1)) (c + 1) (fun j hj => by simp) (Or.inl (Nat.lt_succ_self c)) _ _ h2
    rw [List.append_nil] at this
    exact this
  have h1 := opsJ_of_list (P := P) (ops := l.toArray) (c := c) (Q := Q) (R := Half P l.toArray Q o (l.drop (c + 1))) h0 (l.take c) 0 (fun j hj => by
    rw [List.length_take] at hj
    rw [List.getElem?_take_of_lt (by omega)]
    simp) (Or.inr (by rw [List.length_take]; omega)) a w.drew h
  have h2 : wpAny P .any l.toArray (Only Q) l.toArray.size (Array.replicate l.toArray.size false) a w.drew :=
    any_of_flatC calm_only hok _ _ _ _ (by simp) (by
      intro x o hx
      exfalso
      by_cases hx' : x < l.toArray.size
      · simp at hx' hx
        simp [hx'] at hx
      · simp at hx' hx
        simp [Nat.not_lt.2 hx'] at hx) (by rw [hr]; simp; omega) (by rw [hr]; exact h1)
  refine Go.Code.wp_mono (Q := Only Q) ?_ (wp_region_any hm h2)
  intro e a' w' he
  cases e with
  | normal => exact he
  | _ => exact absurd he (by intro h; exact h)

theorem run_static {o : Oper} {a : Act} {w : World} {f : FuncId} {args : Array Operand} {ts : Array TypeId} (ho : o.op = .call { callee := .value (.func f), args := args, argTypes := ts })
    (eg : ∀ args w, (callFunc f args).run P w = .ok (.enter f args) w) : (execOp a.eval o).run P w = .ok (.enter f (args.map a.eval)) w := by
  unfold execOp
  simp [ho, resolve, Deferred.ofValue, Act.eval, invoke, eg]

/-- A call of a function by its number, with no guard: its contract says that the world is as it was. -/
theorem half_static {o : Oper} {l : List Oper} {a : Act} {w : World} {f : FuncId} {args : Array Operand} {ts : Array TypeId} {vs : Array Value} (v : Value) (hg : o.guard = none) (ho : o.op = .call { callee := .value (.func f), args := args, argTypes := ts })
    (eg : ∀ args w, (callFunc f args).run P w = .ok (.enter f args) w) (hv : args.map a.eval = vs) (hc : ∀ W, Touch [] w W → Calls P f vs W fun e w' => e = .returned v ∧ W = w')
    (h : wpList P ops (Only Q) (probed l) (a.put o.dst v) w) : Half P ops Q o l .normal a w :=
  ⟨v, .inl ⟨by unfold Region.wanted; rw [hg], fun W t => ⟨f, vs, by rw [← hv]; exact run_static ho eg, hc W t⟩⟩, h⟩

end
end Go.Proofs.Ytdffdppkdbbdoaa.Z

/- Package rf: a line leaves whose run it is. Written by genmat.py. -/
set_option linter.unusedVariables false
set_option linter.unusedSimpArgs false
namespace Go.Proofs.Ytdffdppkdbbdoaa.Z
open Go.RowKit

def SmRf (s s' : Rn) : Prop := s'.n = s.n ∧ s'.mode = s.mode ∧ s'.task = s.task
theorem rf10_same (s : Rn) : SmRf s (rf10 s) := by
  unfold rf10
  try unfold Rn.chosen
  try unfold Rn.swapped
  (try dsimp only)
  (repeat' split) <;> exact ⟨rfl, rfl, rfl⟩
theorem rf11_same (s : Rn) : SmRf s (rf11 s) := by
  unfold rf11
  try unfold Rn.chosen
  try unfold Rn.swapped
  (try dsimp only)
  (repeat' split) <;> exact ⟨rfl, rfl, rfl⟩
theorem rf20_same (s : Rn) : SmRf s (rf20 s) := by
  unfold rf20
  try unfold Rn.chosen
  try unfold Rn.swapped
  (try dsimp only)
  (repeat' split) <;> exact ⟨rfl, rfl, rfl⟩
theorem rf30_same (s : Rn) : SmRf s (rf30 s) := by
  unfold rf30
  try unfold Rn.chosen
  try unfold Rn.swapped
  (try dsimp only)
  (repeat' split) <;> exact ⟨rfl, rfl, rfl⟩
theorem rf31_same (s : Rn) : SmRf s (rf31 s) := by
  unfold rf31
  try unfold Rn.chosen
  try unfold Rn.swapped
  (try dsimp only)
  (repeat' split) <;> exact ⟨rfl, rfl, rfl⟩
theorem rf32_same (s : Rn) : SmRf s (rf32 s) := by
  unfold rf32
  try unfold Rn.chosen
  try unfold Rn.swapped
  (try dsimp only)
  (repeat' split) <;> exact ⟨rfl, rfl, rfl⟩
theorem rf40_same (s : Rn) : SmRf s (rf40 s) := by
  unfold rf40
  try unfold Rn.chosen
  try unfold Rn.swapped
  (try dsimp only)
  (repeat' split) <;> exact ⟨rfl, rfl, rfl⟩
theorem rf80_same (s : Rn) : SmRf s (rf80 s) := by
  unfold rf80
  try unfold Rn.chosen
  try unfold Rn.swapped
  (try dsimp only)
  (repeat' split) <;> exact ⟨rfl, rfl, rfl⟩
theorem rf50_same (s : Rn) : SmRf s (rf50 s) := by
  unfold rf50
  try unfold Rn.chosen
  try unfold Rn.swapped
  (try dsimp only)
  (repeat' split) <;> exact ⟨rfl, rfl, rfl⟩
theorem rf60_same (s : Rn) : SmRf s (rf60 s) := by
  unfold rf60
  try unfold Rn.chosen
  try unfold Rn.swapped
  (try dsimp only)
  (repeat' split) <;> exact ⟨rfl, rfl, rfl⟩
theorem rf70_same (s : Rn) : SmRf s (rf70 s) := by
  unfold rf70
  try unfold Rn.chosen
  try unfold Rn.swapped
  (try dsimp only)
  (repeat' split) <;> exact ⟨rfl, rfl, rfl⟩
theorem rf51_same (s : Rn) : SmRf s (rf51 s) := by
  unfold rf51
  try unfold Rn.chosen
  try unfold Rn.swapped
  (try dsimp only)
  (repeat' split) <;> exact ⟨rfl, rfl, rfl⟩
theorem rf61_same (s : Rn) : SmRf s (rf61 s) := by
  unfold rf61
  try unfold Rn.chosen
  try unfold Rn.swapped
  (try dsimp only)
  (repeat' split) <;> exact ⟨rfl, rfl, rfl⟩
theorem rf71_same (s : Rn) : SmRf s (rf71 s) := by
  unfold rf71
  try unfold Rn.chosen
  try unfold Rn.swapped
  (try dsimp only)
  (repeat' split) <;> exact ⟨rfl, rfl, rfl⟩
theorem rfA_same (s : Rn) : SmRf s (rfA s) := by
  unfold rfA
  by_cases h0 : s.f.op = 1 ∧ s.f.line = 0
  · rw [if_pos h0]; exact rf10_same s
  rw [if_neg h0]
  by_cases h1 : s.f.op = 1 ∧ s.f.line = 1
  · rw [if_pos h1]; exact rf11_same s
  rw [if_neg h1]
  by_cases h2 : s.f.op = 2 ∧ s.f.line = 0
  · rw [if_pos h2]; exact rf20_same s
  rw [if_neg h2]
  by_cases h3 : s.f.op = 3 ∧ s.f.line = 0
  · rw [if_pos h3]; exact rf30_same s
  rw [if_neg h3]
  by_cases h4 : s.f.op = 3 ∧ s.f.line = 1
  · rw [if_pos h4]; exact rf31_same s
  rw [if_neg h4]
  by_cases h5 : s.f.op = 3 ∧ s.f.line = 2
  · rw [if_pos h5]; exact rf32_same s
  rw [if_neg h5]
  by_cases h6 : s.f.op = 4 ∧ s.f.line = 0
  · rw [if_pos h6]; exact rf40_same s
  rw [if_neg h6]
  by_cases h7 : s.f.op = 8 ∧ s.f.line = 0
  · rw [if_pos h7]; exact rf80_same s
  rw [if_neg h7]
  by_cases h8 : s.f.op = 5 ∧ s.f.line = 0
  · rw [if_pos h8]; exact rf50_same s
  rw [if_neg h8]
  by_cases h9 : s.f.op = 6 ∧ s.f.line = 0
  · rw [if_pos h9]; exact rf60_same s
  rw [if_neg h9]
  by_cases h10 : s.f.op = 7 ∧ s.f.line = 0
  · rw [if_pos h10]; exact rf70_same s
  rw [if_neg h10]
  by_cases h11 : s.f.op = 5 ∧ s.f.line = 1
  · rw [if_pos h11]; exact rf51_same s
  rw [if_neg h11]
  by_cases h12 : s.f.op = 6 ∧ s.f.line = 1
  · rw [if_pos h12]; exact rf61_same s
  rw [if_neg h12]
  by_cases h13 : s.f.op = 7 ∧ s.f.line = 1
  · rw [if_pos h13]; exact rf71_same s
  rw [if_neg h13]
  exact ⟨rfl, rfl, rfl⟩
theorem rf_step_same (s : Rn) : (stepR rfA s).n = s.n ∧ (stepR rfA s).mode = s.mode ∧ (stepR rfA s).task = s.task := by
  unfold stepR
  split
  · exact ⟨rfl, rfl, rfl⟩
  · exact rfA_same s.fresh

end Go.Proofs.Ytdffdppkdbbdoaa.Z

/- Law 15: may, from, behind. Written by genmatch.py. -/
set_option linter.unusedVariables false
set_option linter.unusedSimpArgs false
namespace Go.Proofs.Ytdffdppkdbbdoaa.Z
open Go.RowKit

theorem rf_may (op hold : Int) (w : World) : Calls Try.prog 66 #[.int .i64 op, .int .i64 hold] w fun e w' => e = .returned (.bool (mayB op hold)) ∧ w = w' := by
  by_cases h0 : hold = 0
  · subst h0
    by_cases h1 : op = 1
    · subst h1
      go_enter Try.func66, Try.ntmps66
      go_wp2
      go_ret
      exact ⟨rfl, rfl⟩
    have e1 : (op == 1) = false := by simpa using h1
    by_cases h3 : op = 3
    · subst h3
      go_enter Try.func66, Try.ntmps66
      go_wp2
      go_ret
      exact ⟨rfl, rfl⟩
    have e3 : (op == 3) = false := by simpa using h3
    by_cases h5 : op = 5
    · subst h5
      go_enter Try.func66, Try.ntmps66
      go_wp2
      go_ret
      exact ⟨rfl, rfl⟩
    have e5 : (op == 5) = false := by simpa using h5
    by_cases h6 : op = 6
    · subst h6
      go_enter Try.func66, Try.ntmps66
      go_wp2
      go_ret
      exact ⟨rfl, rfl⟩
    have e6 : (op == 6) = false := by simpa using h6
    go_enter Try.func66, Try.ntmps66
    go_wp2
    go_ret
    exact ⟨by simp [mayB, e1, e3, e5, e6], rfl⟩
  by_cases k1 : hold = 1
  · subst k1
    by_cases h2 : op = 2
    · subst h2
      go_enter Try.func66, Try.ntmps66
      go_wp2
      go_ret
      exact ⟨rfl, rfl⟩
    have e2 : (op == 2) = false := by simpa using h2
    by_cases h7 : op = 7
    · subst h7
      go_enter Try.func66, Try.ntmps66
      go_wp2
      go_ret
      exact ⟨rfl, rfl⟩
    have e7 : (op == 7) = false := by simpa using h7
    go_enter Try.func66, Try.ntmps66
    go_wp2
    go_ret
    exact ⟨by simp [mayB, e2, e7], rfl⟩
  have f0 : (hold == 0) = false := by simpa using h0
  have f1 : (hold == 1) = false := by simpa using k1
  by_cases h4 : op = 4
  · subst h4
    go_enter Try.func66, Try.ntmps66
    go_wp2
    go_ret
    exact ⟨by simp [mayB, h0, k1], rfl⟩
  have e4 : (op == 4) = false := by simpa using h4
  by_cases h8 : op = 8
  · subst h8
    go_enter Try.func66, Try.ntmps66
    go_wp2
    go_ret
    exact ⟨by simp [mayB, h0, k1], rfl⟩
  have e8 : (op == 8) = false := by simpa using h8
  go_enter Try.func66, Try.ntmps66
  go_wp2
  go_ret
  exact ⟨by simp [mayB, h0, k1, e4, e8], rfl⟩
theorem rf_from (op hold : Int) (w : World) : Calls Try.prog 67 #[.int .i64 op, .int .i64 hold] w fun e w' => e = .returned (.int .i64 (fromA op hold)) ∧ w = w' := by
  by_cases h2 : op = 2
  · subst h2
    go_enter Try.func67, Try.ntmps67
    go_wp2
    go_ret
    exact ⟨by simp [fromA], rfl⟩
  have e2 : (op == 2) = false := by simpa using h2
  by_cases h4 : op = 4
  · subst h4
    go_enter Try.func67, Try.ntmps67
    go_wp2
    go_ret
    exact ⟨by simp [fromA], rfl⟩
  have e4 : (op == 4) = false := by simpa using h4
  by_cases h8 : op = 8
  · subst h8
    go_enter Try.func67, Try.ntmps67
    go_wp2
    go_ret
    exact ⟨by simp [fromA], rfl⟩
  have e8 : (op == 8) = false := by simpa using h8
  go_enter Try.func67, Try.ntmps67
  go_wp2
  go_ret
  exact ⟨by simp [fromA, h2, h4, h8], rfl⟩
theorem rf_behind (op ret hold : Int) (w : World) : Calls Try.prog 69 #[.int .i64 op, .int .i64 ret, .int .i64 hold] w fun e w' => e = .returned (.int .i64 (behindA op ret hold)) ∧ w = w' := by
  by_cases hr : ret = 2
  · subst hr
    by_cases h1 : op = 1
    · subst h1
      go_enter Try.func69, Try.ntmps69
      go_wp2
      go_ret
      exact ⟨by simp [behindA], rfl⟩
    have e1 : (op == 1) = false := by simpa using h1
    by_cases h5 : op = 5
    · subst h5
      go_enter Try.func69, Try.ntmps69
      go_wp2
      go_ret
      exact ⟨by simp [behindA], rfl⟩
    have e5 : (op == 5) = false := by simpa using h5
    by_cases h3 : op = 3
    · subst h3
      go_enter Try.func69, Try.ntmps69
      go_wp2
      go_ret
      exact ⟨by simp [behindA], rfl⟩
    have e3 : (op == 3) = false := by simpa using h3
    by_cases h6 : op = 6
    · subst h6
      go_enter Try.func69, Try.ntmps69
      go_wp2
      go_ret
      exact ⟨by simp [behindA], rfl⟩
    have e6 : (op == 6) = false := by simpa using h6
    by_cases h7 : op = 7
    · subst h7
      go_enter Try.func69, Try.ntmps69
      go_wp2
      go_ret
      exact ⟨by simp [behindA], rfl⟩
    have e7 : (op == 7) = false := by simpa using h7
    go_enter Try.func69, Try.ntmps69
    go_wp2
    go_ret
    exact ⟨by simp [behindA, h1, h5, h3, h6, h7], rfl⟩
  have er : (ret != 2) = true := by simpa using hr
  go_enter Try.func69, Try.ntmps69
  go_wp2
  go_ret
  exact ⟨by simp [behindA, hr], rfl⟩

end Go.Proofs.Ytdffdppkdbbdoaa.Z

/- Law 15: a pick. Written by genmat.py. -/
set_option linter.unusedVariables false
set_option linter.unusedSimpArgs false
namespace Go.Proofs.Ytdffdppkdbbdoaa.Z
open Go.RowKit

theorem getD_mem {α : Type} {l : List α} {i : Nat} {d : α} (h : i < l.length) : l.getD i d ∈ l := by
  simp [List.getD, h]
theorem set_getD {α : Type} {l : List α} {i : Nat} {d : α} (h : i < l.length) : l.set i (l.getD i d) = l := by
  simp [List.getD, h]
theorem i64s_set_at {l : List Int} {i : Nat} {v : Int} (h : i < l.length) : (i64s (l.set i v)).toArray[i]? = some (.int .i64 v) := by
  simp [i64s, h]
theorem i64s_set2 (l : List Int) (i : Nat) (v u : Int) : (i64s (l.set i v)).toArray.setIfInBounds i (.int .i64 u) = (i64s (l.set i u)).toArray := by
  simp [i64s, List.map_set]

set_option maxHeartbeats 3200000 in
set_option maxRecDepth 100000 in
theorem rf_play {S0 : List Nat} {w0 w : World} {m a x hb : Nat} {rs : List Res} {M : Mt} (H : MatchHas S0 w0 m a x hb rs M w) {i : Nat} (hi : i < M.fs.length) (op : Int) :
    Calls Try.prog 28 #[.pointer (some ⟨x, 0, none⟩), .int .i64 i, .int .i64 op] w fun e w' => e = .returned (.tuple #[]) ∧ MatchHas S0 w0 m a x hb rs (M.play rfA i op) w' := by
  obtain ⟨hf1, hf2, hf3, hf4⟩ := H.fit
  have hwd := H.words
  have hil : i < M.hold.length := by rw [hf1]; exact hi
  obtain ⟨r, b, off, cap, rest, s, e1, e2, e3, e4, e5, hO, hptr, hback⟩ := H.opened hi
  have HFOK : FrOk s.f := by rw [e1]; exact hf2 _ (getD_mem hi)
  have hO2 : Opn S0 w0 m a x hb r (.slice (some ⟨b, off, none⟩) M.fs.length cap) M.fs.length (M.hold.set i (M.hold.getD i 0)) rest s w := by rw [set_getD hil]; exact hO
  obtain ⟨p0, p1⟩ := hptr _ _ _ hO
  clear hptr hO
  have HH := Lib.hid H
  clear H
  generalize hk : M.fs.length = k at hi hO2 hf1 hf4 hback
  generalize hh : M.hold.getD i 0 = h0 at hO2
  obtain ⟨n, mode, task, ⟨o1, line, fa, fb, st, ⟨on, wc, wi, hit⟩, ret⟩, ⟨ak, ac, ax, ay, ao⟩, notes, L⟩ := s
  simp only at e1 e2 e3 e4 e5 HFOK
  subst e2 e3 e4 e5
  have hplay : M.play rfA i op = if o1 = 0 then if mayB op h0 = true then M.goes rfA i ⟨op, 0, 0, 0, 0, ⟨false, 0, 0, false⟩, 0⟩ (fromA op h0) else M else M.goes rfA i ⟨o1, line, fa, fb, st, ⟨on, wc, wi, hit⟩, ret⟩ h0 := by
    unfold Mt.play
    rw [← e1, hh]
    rfl
  have HPLAY := Lib.hid hplay
  have hi1 : (0 : Int) ≤ (i : Int) := Int.natCast_nonneg _
  have hi2 : (i : Int) < (k : Int) := by omega
  have HLEN := Lib.hid (show i < k ∧ i < M.hold.length ∧ I64 M.n ∧ Words M.L from ⟨hi, hil, hf3, hwd⟩)
  clear hplay e1 hh hk hf1 hf2 hf3 hf4 hwd hi hil
  have HBACK := Lib.hid hback
  clear hback
  by_cases ho : o1 = 0
  · subst ho
    obtain ⟨nv0, hO3⟩ := hO2
    simp only [rcells] at hO3
    obtain ⟨y0, y1, y2⟩ := hO3.blk1.own
    obtain ⟨z0, z1, z2⟩ := (hO3.at_ 3 rfl).own
    obtain ⟨u0, u1, u2⟩ := (hO3.at_ 4 rfl).own
    have v1 : w.cell? ⟨hb, i, none⟩ = some (.int .i64 h0) := (u1 i).trans (i64s_set_at HLEN.out.2.1)
    clear u1
    have HO := Lib.hid hO3
    clear hO3
    cases hm : mayB op h0 with
    | false =>
      have HM := Lib.hid hm
      clear hm
      go_enter Try.func28, Try.ntmps28
      go_wp2_with fail
      refine (rf_may _ _ _).mono ?_
      rintro e w1 ⟨rfl, rfl⟩
      rw [HM.out]
      go_wp2_with fail
      (try simp only [Exit.inBlock, Exit.then]); refine bodyPost_ret (results_none rfl _ _ _) rfl ?_
      refine ⟨rfl, ?_⟩
      rw [HPLAY.out, if_pos trivial, HM.out]
      exact HH.out
    | true =>
      have HM := Lib.hid hm
      clear hm
      go_enter Try.func28, Try.ntmps28
      go_wp2_with fail
      refine (rf_may _ _ _).mono ?_
      rintro e w1 ⟨rfl, rfl⟩
      rw [HM.out]
      go_wp2_with fail
      have d1 : w.drew.cell? ⟨x, 1, none⟩ = some (.slice (some ⟨hb, 0, none⟩) k k) := z1 1
      have d2 : w.drew.cell? ⟨hb, i, none⟩ = some (.int .i64 h0) := v1
      have d3 : w.cell? ⟨x, 1, none⟩ = some (.slice (some ⟨hb, 0, none⟩) k k) := z1 1
      refine region_flat_call 13 rfl (by kernel_rfl) (by kernel_rfl) ?_
      simp only [List.take_succ_cons, List.take_zero, List.drop_succ_cons, List.drop_zero, probed, probes, List.nil_append]
      go_wp2_with fail
      rw [only_normal]
      refine half_static (.int .i64 (fromA op h0)) rfl rfl (enters_of Try.func67 (by kernel_rfl) rfl) (by simp [Act.eval]) (fun W _ => rf_from _ _ W) ?_
      simp only [probed, probes, List.nil_append]
      go_wp2_with fail
      rw [only_normal]
      rename_i hK
      refine hK _ _ ?_
      clear hK
      have HO1 := (HO.out.set4 i (.int .i64 (fromA op h0))).drew
      rw [i64s_set2] at HO1
      refine wp_from (Facts := fun W => Has S0 w0 W (.mem m a M.L :: .blk r #[.pointer (some ⟨m, 0, none⟩), .int .i64 M.n, .int .i64 M.mode, .int .i64 i, .int .i64 0, .int .i64 line, .int .u32 fa, .int .u32 fb, .int .i64 st, .bool on, .int .i64 wc, .int .i64 wi, .bool hit, .int .i64 ret, .int .i64 ak, .int .i64 ac, .int .u32 ax, .int .u32 ay, .int .u32 ao, nv0] :: .own 115 4 nv0 notes.length (nts notes) :: .blk x #[.slice (some ⟨b, off, none⟩) k cap, .slice (some ⟨hb, 0, none⟩) k k] :: .blk hb (i64s (M.hold.set i (fromA op h0))).toArray :: rest)) ?_ HO1
      clear HO HO1 y0 y1 y2 z0 z1 z2 u0 u2 v1 d1 d2 d3 p0 p1
      intro W HW
      obtain ⟨y0, y1, y2⟩ := HW.blk1.own
      rename_i hK2 K0
      have HK2 := Lib.hid hK2
      clear hK2
      go_wp2_with fail
      refine HK2.out _ _ ?_
      clear HK2
      refine wp_from (Facts := fun W => Opn S0 w0 m a x hb r (.slice (some ⟨b, off, none⟩) k cap) k (M.hold.set i (fromA op h0)) rest ⟨M.n, M.mode, i, ⟨op, 0, 0, 0, 0, ⟨false, 0, 0, false⟩, 0⟩, ⟨ak, ac, ax, ay, ao⟩, notes, M.L⟩ W) ?_ ?_
      rotate_left
      · refine ⟨nv0, ?_⟩
        have H2 := ((((((((((HW.set1 4 (.int .i64 op)).set1 5 (.int .i64 0)).set1 6 (.int .u32 0)).set1 7 (.int .u32 0)).set1 8 (.int .i64 0)).set1 9 (.bool false)).set1 10 (.int .i64 0)).set1 11 (.int .i64 0)).set1 12 (.bool false)).set1 13 (.int .i64 0))
        simp only [List.setIfInBounds_toArray, List.set_cons_zero, List.set_cons_succ] at H2
        exact H2
      clear HW y0 y1 y2
      rename_i W0
      clear W0
      intro W HT
      have hstk := fun W rs (HX : Has S0 w0 W (.mem m a M.L :: rs)) nv => run_stuck (s := ⟨M.n, M.mode, i, ⟨op, 0, 0, 0, 0, ⟨false, 0, 0, false⟩, 0⟩, ⟨ak, ac, ax, ay, ao⟩, notes, M.L⟩) HX HLEN.out.2.2.1 nv
      have hok1 : FrOk ⟨op, 0, 0, 0, 0, ⟨false, 0, 0, false⟩, 0⟩ := ⟨by simp, by simp⟩
      have hstep := fun W rs (HX : RunHas S0 w0 m a r rs ⟨M.n, M.mode, i, ⟨op, 0, 0, 0, 0, ⟨false, 0, 0, false⟩, 0⟩, ⟨ak, ac, ax, ay, ao⟩, notes, M.L⟩ W) => rf_stepR HX ⟨HLEN.out.2.2.1, hok1⟩
      have hsok := (rf_stepok (s := ⟨M.n, M.mode, i, ⟨op, 0, 0, 0, 0, ⟨false, 0, 0, false⟩, 0⟩, ⟨ak, ac, ax, ay, ao⟩, notes, M.L⟩) HLEN.out.2.2.2 ⟨HLEN.out.2.2.1, hok1⟩).1
      have hsame := rf_step_same ⟨M.n, M.mode, i, ⟨op, 0, 0, 0, 0, ⟨false, 0, 0, false⟩, 0⟩, ⟨ak, ac, ax, ay, ao⟩, notes, M.L⟩
      generalize hS2 : stepR rfA ⟨M.n, M.mode, i, ⟨op, 0, 0, 0, 0, ⟨false, 0, 0, false⟩, 0⟩, ⟨ak, ac, ax, ay, ao⟩, notes, M.L⟩ = s2 at hstep hsok hsame
      have hgoes := goes_of (h := (fromA op h0)) (step_run rfA M i ⟨op, 0, 0, 0, 0, ⟨false, 0, 0, false⟩, 0⟩ ⟨ak, ac, ax, ay, ao⟩ notes hS2)
      clear hS2
      simp only at hgoes
      simp only [rcells] at hstk
      generalize hsb : (!false && stuckA M.L M.n M.mode i 0) = sb at hstk hgoes
      clear hsb hok1
      have HSTK := Lib.hid hstk
      have HSTEP := Lib.hid hstep
      have HGOES := Lib.hid hgoes
      have HSOK := Lib.hid hsok
      have HSAME := Lib.hid hsame
      clear hstk hstep hgoes hsok hsame
      obtain ⟨nv, HT⟩ := HT
      simp only [rcells] at HT
      obtain ⟨y0, y1, y2⟩ := HT.blk1.own
      have hld := rangeAt_list y1
      go_wp2_with (refine wpList_load_mid rfl 52 (.tmp 51) rfl r 0 rfl _ _ hld Try.underlying52 rfl (by kernel_rfl) ?_)
      refine (HSTK.out _ _ HT nv).mono ?_
      rintro e w2 ⟨rfl, HT2⟩
      clear y0 y1 y2 HT hld
      cases sb with
      | true =>
        go_wp2_with fail
        (try simp only [Exit.inBlock, Exit.then]); refine bodyPost_ret (results_none rfl _ _ _) rfl ?_
        refine ⟨rfl, ?_⟩
        rw [HPLAY.out, if_pos trivial, if_pos HM.out, HGOES.out, if_pos trivial]
        exact HBACK.out _ ⟨M.n, M.mode, i, ⟨op, 0, 0, 0, 0, ⟨false, 0, 0, false⟩, 0⟩, ⟨ak, ac, ax, ay, ao⟩, notes, M.L⟩ _ ⟨nv, HT2⟩ ⟨by simp, by simp⟩ rfl rfl rfl
      | false =>
        go_wp2_with fail
        refine (HSTEP.out _ _ ⟨nv, HT2⟩).mono ?_
        rintro e w3 ⟨rfl, HT3⟩
        clear HT2
        obtain ⟨n', mode', task', ⟨o2, line', fa', fb', st', ⟨on', wc', wi', hit'⟩, ret2⟩, ⟨ak', ac', ax', ay', ao'⟩, notes', L'⟩ := s2
        have hsm := HSAME.out
        simp only at hsm
        obtain ⟨q1, q2, q3⟩ := hsm
        subst q1 q2 q3
        have hg2 := HGOES.out
        rw [if_neg (by decide)] at hg2
        have HG2 := Lib.hid hg2
        clear hg2 HSTK HSTEP HGOES HSAME
        cases hov : (⟨M.n, M.mode, i, ⟨o2, line', fa', fb', st', ⟨on', wc', wi', hit'⟩, ret2⟩, ⟨ak', ac', ax', ay', ao'⟩, notes', L'⟩ : Rn).over with
        | false =>
          have HOV := Lib.hid hov
          clear hov
          go_wp2_with fail
          go_end0
          refine ⟨rfl, ?_⟩
          rw [HPLAY.out, if_pos trivial, if_pos HM.out, HG2.out, if_neg (by rw [HOV.out]; decide)]
          exact HBACK.out _ ⟨M.n, M.mode, i, ⟨o2, line', fa', fb', st', ⟨on', wc', wi', hit'⟩, ret2⟩, ⟨ak', ac', ax', ay', ao'⟩, notes', L'⟩ _ HT3 ⟨HSOK.out.2.1, HSOK.out.2.2⟩ rfl rfl rfl
        | true =>
          have HOV := Lib.hid hov
          clear hov
          obtain ⟨nv3, HT3⟩ := HT3
          simp only [rcells] at HT3
          obtain ⟨y0, y1, y2⟩ := HT3.blk1.own
          obtain ⟨z0, z1, z2⟩ := (HT3.at_ 3 rfl).own
          obtain ⟨u0, u1, u2⟩ := (HT3.at_ 4 rfl).own
          have v1 : w3.cell? ⟨hb, i, none⟩ = some (.int .i64 (fromA op h0)) := (u1 i).trans (i64s_set_at HLEN.out.2.1)
          clear u1
          go_wp2_with fail
          refine region_flat_call 22 rfl (by kernel_rfl) (by kernel_rfl) ?_
          simp only [List.take_succ_cons, List.take_zero, List.drop_succ_cons, List.drop_zero, probed, probes, List.nil_append]
          go_wp2_with fail
          rw [only_normal]
          refine half_static (.int .i64 (behindA o2 ret2 (fromA op h0))) rfl rfl (enters_of Try.func69 (by kernel_rfl) rfl) (by simp [Act.eval]) (fun W _ => rf_behind _ _ _ W) ?_
          simp only [probed, probes, List.nil_append]
          go_wp2_with fail
          rw [only_normal]
          rename_i hK
          refine hK _ _ ?_
          clear hK
          have HO1 := (HT3.set4 i (.int .i64 (behindA o2 ret2 (fromA op h0)))).drew
          rw [i64s_set2] at HO1
          refine wp_from (Facts := fun W => Has S0 w0 W (.mem m a L' :: .blk r #[.pointer (some ⟨m, 0, none⟩), .int .i64 M.n, .int .i64 M.mode, .int .i64 i, .int .i64 o2, .int .i64 line', .int .u32 fa', .int .u32 fb', .int .i64 st', .bool on', .int .i64 wc', .int .i64 wi', .bool hit', .int .i64 ret2, .int .i64 ak', .int .i64 ac', .int .u32 ax', .int .u32 ay', .int .u32 ao', nv3] :: .own 115 4 nv3 notes'.length (nts notes') :: .blk x #[.slice (some ⟨b, off, none⟩) k cap, .slice (some ⟨hb, 0, none⟩) k k] :: .blk hb (i64s (M.hold.set i (behindA o2 ret2 (fromA op h0)))).toArray :: rest)) ?_ HO1
          clear HT3 HO1 y0 y1 y2 z0 z1 z2 u0 u2 v1
          intro W2 HW
          obtain ⟨y0, y1, y2⟩ := HW.blk1.own
          go_wp2_with fail
          go_end0
          refine ⟨rfl, ?_⟩
          rw [HPLAY.out, if_pos trivial, if_pos HM.out, HG2.out, if_pos HOV.out]
          refine HBACK.out _ ⟨M.n, M.mode, i, ⟨0, 0, 0, 0, 0, ⟨false, 0, 0, false⟩, 0⟩, ⟨ak', ac', ax', ay', ao'⟩, notes', L'⟩ _ ⟨nv3, ?_⟩ ⟨by simp, by simp⟩ rfl rfl rfl
          have H2 := ((((((((((HW.set1 4 (.int .i64 0)).set1 5 (.int .i64 0)).set1 6 (.int .u32 0)).set1 7 (.int .u32 0)).set1 8 (.int .i64 0)).set1 9 (.bool false)).set1 10 (.int .i64 0)).set1 11 (.int .i64 0)).set1 12 (.bool false)).set1 13 (.int .i64 0))
          simp only [List.setIfInBounds_toArray, List.set_cons_zero, List.set_cons_succ] at H2
          exact H2
  · obtain ⟨nv0, hO3⟩ := hO2
    simp only [rcells] at hO3
    obtain ⟨y0, y1, y2⟩ := hO3.blk1.own
    obtain ⟨z0, z1, z2⟩ := (hO3.at_ 3 rfl).own
    have HO := Lib.hid hO3
    have ho1 : (o1 == 0) = false := by simpa using ho
    have HNO := Lib.hid ho
    clear hO3 ho
    go_enter Try.func28, Try.ntmps28
    refine wp_from (Facts := fun W => W = w) ?_ rfl
    rintro W rfl
    have HT : Opn S0 w0 m a x hb r (.slice (some ⟨b, off, none⟩) k cap) k (M.hold.set i h0) rest ⟨M.n, M.mode, i, ⟨o1, line, fa, fb, st, ⟨on, wc, wi, hit⟩, ret⟩, ⟨ak, ac, ax, ay, ao⟩, notes, M.L⟩ W := ⟨nv0, HO.out⟩
    clear y0 y1 y2
    have hstk := fun W rs (HX : Has S0 w0 W (.mem m a M.L :: rs)) nv => run_stuck (s := ⟨M.n, M.mode, i, ⟨o1, line, fa, fb, st, ⟨on, wc, wi, hit⟩, ret⟩, ⟨ak, ac, ax, ay, ao⟩, notes, M.L⟩) HX HLEN.out.2.2.1 nv
    have hok1 : FrOk ⟨o1, line, fa, fb, st, ⟨on, wc, wi, hit⟩, ret⟩ := HFOK
    have hstep := fun W rs (HX : RunHas S0 w0 m a r rs ⟨M.n, M.mode, i, ⟨o1, line, fa, fb, st, ⟨on, wc, wi, hit⟩, ret⟩, ⟨ak, ac, ax, ay, ao⟩, notes, M.L⟩ W) => rf_stepR HX ⟨HLEN.out.2.2.1, hok1⟩
    have hsok := (rf_stepok (s := ⟨M.n, M.mode, i, ⟨o1, line, fa, fb, st, ⟨on, wc, wi, hit⟩, ret⟩, ⟨ak, ac, ax, ay, ao⟩, notes, M.L⟩) HLEN.out.2.2.2 ⟨HLEN.out.2.2.1, hok1⟩).1
    have hsame := rf_step_same ⟨M.n, M.mode, i, ⟨o1, line, fa, fb, st, ⟨on, wc, wi, hit⟩, ret⟩, ⟨ak, ac, ax, ay, ao⟩, notes, M.L⟩
    generalize hS2 : stepR rfA ⟨M.n, M.mode, i, ⟨o1, line, fa, fb, st, ⟨on, wc, wi, hit⟩, ret⟩, ⟨ak, ac, ax, ay, ao⟩, notes, M.L⟩ = s2 at hstep hsok hsame
    have hgoes := goes_of (h := h0) (step_run rfA M i ⟨o1, line, fa, fb, st, ⟨on, wc, wi, hit⟩, ret⟩ ⟨ak, ac, ax, ay, ao⟩ notes hS2)
    clear hS2
    simp only at hgoes
    simp only [rcells] at hstk
    generalize hsb : (!on && stuckA M.L M.n M.mode i st) = sb at hstk hgoes
    clear hsb hok1
    have HSTK := Lib.hid hstk
    have HSTEP := Lib.hid hstep
    have HGOES := Lib.hid hgoes
    have HSOK := Lib.hid hsok
    have HSAME := Lib.hid hsame
    clear hstk hstep hgoes hsok hsame
    obtain ⟨nv, HT⟩ := HT
    simp only [rcells] at HT
    obtain ⟨y0, y1, y2⟩ := HT.blk1.own
    have hld := rangeAt_list y1
    go_wp2_with (refine wpList_load_mid rfl 52 (.tmp 51) rfl r 0 rfl _ _ hld Try.underlying52 rfl (by kernel_rfl) ?_)
    refine (HSTK.out _ _ HT nv).mono ?_
    rintro e w2 ⟨rfl, HT2⟩
    clear y0 y1 y2 HT hld
    cases sb with
    | true =>
      go_wp2_with fail
      (try simp only [Exit.inBlock, Exit.then]); refine bodyPost_ret (results_none rfl _ _ _) rfl ?_
      refine ⟨rfl, ?_⟩
      rw [HPLAY.out, if_neg HNO.out, HGOES.out, if_pos trivial]
      exact HBACK.out _ ⟨M.n, M.mode, i, ⟨o1, line, fa, fb, st, ⟨on, wc, wi, hit⟩, ret⟩, ⟨ak, ac, ax, ay, ao⟩, notes, M.L⟩ _ ⟨nv, HT2⟩ HFOK rfl rfl rfl
    | false =>
      go_wp2_with fail
      refine (HSTEP.out _ _ ⟨nv, HT2⟩).mono ?_
      rintro e w3 ⟨rfl, HT3⟩
      clear HT2
      obtain ⟨n', mode', task', ⟨o2, line', fa', fb', st', ⟨on', wc', wi', hit'⟩, ret2⟩, ⟨ak', ac', ax', ay', ao'⟩, notes', L'⟩ := s2
      have hsm := HSAME.out
      simp only at hsm
      obtain ⟨q1, q2, q3⟩ := hsm
      subst q1 q2 q3
      have hg2 := HGOES.out
      rw [if_neg (by decide)] at hg2
      have HG2 := Lib.hid hg2
      clear hg2 HSTK HSTEP HGOES HSAME
      cases hov : (⟨M.n, M.mode, i, ⟨o2, line', fa', fb', st', ⟨on', wc', wi', hit'⟩, ret2⟩, ⟨ak', ac', ax', ay', ao'⟩, notes', L'⟩ : Rn).over with
      | false =>
        have HOV := Lib.hid hov
        clear hov
        go_wp2_with fail
        go_end0
        refine ⟨rfl, ?_⟩
        rw [HPLAY.out, if_neg HNO.out, HG2.out, if_neg (by rw [HOV.out]; decide)]
        exact HBACK.out _ ⟨M.n, M.mode, i, ⟨o2, line', fa', fb', st', ⟨on', wc', wi', hit'⟩, ret2⟩, ⟨ak', ac', ax', ay', ao'⟩, notes', L'⟩ _ HT3 ⟨HSOK.out.2.1, HSOK.out.2.2⟩ rfl rfl rfl
      | true =>
        have HOV := Lib.hid hov
        clear hov
        obtain ⟨nv3, HT3⟩ := HT3
        simp only [rcells] at HT3
        obtain ⟨y0, y1, y2⟩ := HT3.blk1.own
        obtain ⟨z0, z1, z2⟩ := (HT3.at_ 3 rfl).own
        obtain ⟨u0, u1, u2⟩ := (HT3.at_ 4 rfl).own
        have v1 : w3.cell? ⟨hb, i, none⟩ = some (.int .i64 h0) := (u1 i).trans (i64s_set_at HLEN.out.2.1)
        clear u1
        go_wp2_with fail
        refine region_flat_call 22 rfl (by kernel_rfl) (by kernel_rfl) ?_
        simp only [List.take_succ_cons, List.take_zero, List.drop_succ_cons, List.drop_zero, probed, probes, List.nil_append]
        go_wp2_with fail
        rw [only_normal]
        refine half_static (.int .i64 (behindA o2 ret2 h0)) rfl rfl (enters_of Try.func69 (by kernel_rfl) rfl) (by simp [Act.eval]) (fun W _ => rf_behind _ _ _ W) ?_
        simp only [probed, probes, List.nil_append]
        go_wp2_with fail
        rw [only_normal]
        rename_i hK
        refine hK _ _ ?_
        clear hK
        have HO1 := (HT3.set4 i (.int .i64 (behindA o2 ret2 h0))).drew
        rw [i64s_set2] at HO1
        refine wp_from (Facts := fun W => Has S0 w0 W (.mem m a L' :: .blk r #[.pointer (some ⟨m, 0, none⟩), .int .i64 M.n, .int .i64 M.mode, .int .i64 i, .int .i64 o2, .int .i64 line', .int .u32 fa', .int .u32 fb', .int .i64 st', .bool on', .int .i64 wc', .int .i64 wi', .bool hit', .int .i64 ret2, .int .i64 ak', .int .i64 ac', .int .u32 ax', .int .u32 ay', .int .u32 ao', nv3] :: .own 115 4 nv3 notes'.length (nts notes') :: .blk x #[.slice (some ⟨b, off, none⟩) k cap, .slice (some ⟨hb, 0, none⟩) k k] :: .blk hb (i64s (M.hold.set i (behindA o2 ret2 h0))).toArray :: rest)) ?_ HO1
        clear HT3 HO1 y0 y1 y2 z0 z1 z2 u0 u2 v1
        intro W2 HW
        obtain ⟨y0, y1, y2⟩ := HW.blk1.own
        go_wp2_with fail
        go_end0
        refine ⟨rfl, ?_⟩
        rw [HPLAY.out, if_neg HNO.out, HG2.out, if_pos HOV.out]
        refine HBACK.out _ ⟨M.n, M.mode, i, ⟨0, 0, 0, 0, 0, ⟨false, 0, 0, false⟩, 0⟩, ⟨ak', ac', ax', ay', ao'⟩, notes', L'⟩ _ ⟨nv3, ?_⟩ ⟨by simp, by simp⟩ rfl rfl rfl
        have H2 := ((((((((((HW.set1 4 (.int .i64 0)).set1 5 (.int .i64 0)).set1 6 (.int .u32 0)).set1 7 (.int .u32 0)).set1 8 (.int .i64 0)).set1 9 (.bool false)).set1 10 (.int .i64 0)).set1 11 (.int .i64 0)).set1 12 (.bool false)).set1 13 (.int .i64 0))
        simp only [List.setIfInBounds_toArray, List.set_cons_zero, List.set_cons_succ] at H2
        exact H2

end Go.Proofs.Ytdffdppkdbbdoaa.Z
