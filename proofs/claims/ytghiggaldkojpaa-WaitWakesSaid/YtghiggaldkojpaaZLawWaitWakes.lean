/- The statement WaitWakes: its walk. -/
import Derived.Test.YtghiggaldkojpaaZLawWaitWakesP
import Derived.Test.YtghiggaldkojpaaZLaw07
import Derived.Test.YtghiggaldkojpaaZRun4
import Derived.Test.YtghiggaldkojpaaZElem
import Derived.Deep.RegionHeld3
import Derived.Deep.RegionWith
import Derived.Deep.DrawnRows
import Derived.Outline
set_option linter.unusedVariables false
set_option linter.unusedSimpArgs false
namespace Go.Proofs.Ytghiggaldkojpaa.Z
open Go.RowKit
attribute [local go_sem ↓] Go.wp_at_zero Go.wp_at_succ

def op07Dec (x : Int × Int) : List Value := [.int .i64 x.1, .int .u32 x.2]

theorem ww_load0 (v wt pm : Int) : ldA (wwL v wt pm) 0 = v := by
  unfold ldA
  rw [if_pos (by simp [wwL])]
  rfl
theorem ww_load10 (v wt pm : Int) : ldA (wwL v wt pm) 10 = wt := by
  unfold ldA
  rw [if_pos (by simp [wwL])]
  rfl
theorem ww_store0 (v wt pm x : Int) : stA (wwL v wt pm) 0 x = wwL x wt pm := by
  unfold stA
  rw [if_pos (by simp [wwL])]
  rfl
theorem ww_start (p : Int → Bool) : WWInv p 0 0 0 0 := ⟨by decide, Or.inl rfl, Or.inl ⟨Or.inl rfl, rfl⟩, by intro h; cases h⟩

theorem ww_unstuck {p : Int → Bool} {v wt pm st : Int} (h : WWInv p v wt pm st) (hp : p v = true) : stuckA (wwL v wt pm) 1 2 0 st = false := by
  unfold stuckA
  by_cases h3 : st = 3
  · obtain rfl := h.2.2.2 h3 hp
    rw [ww_stuck v wt 1 st (Or.inr rfl)]
    simp
  · have : (stageA 2 st == 3) = false := by
      rcases h.2.2.1 with ⟨rfl | rfl, _⟩ | ⟨rfl | rfl | rfl, _⟩
      all_goals first | exact absurd rfl h3 | rfl
    rw [this]
    rfl

/-- How many steps are left, while it holds. -/
def wwD (st : Int) : Nat := if st = 0 ∨ st = 4 then 1 else if st = 2 then 2 else 3
theorem wwD_pos (st : Int) : 1 ≤ wwD st := by
  unfold wwD
  split
  · omega
  · split <;> omega
theorem wwD_le (st : Int) : wwD st ≤ 3 := by
  unfold wwD
  split
  · omega
  · split <;> omega

theorem ww_step2 {p : Int → Bool} {v wt pm st : Int} (h : WWInv p v wt pm st) :
    ∃ (pm' : Int) (acc : Acc) (seen : Bool), waitA (wwL v wt pm) 1 2 0 st 0 p = ⟨0, acc, seen, true, wwL v 0 pm'⟩ ∨
      ∃ wt' st', waitA (wwL v wt pm) 1 2 0 st 0 p = ⟨st', acc, seen, false, wwL v wt' pm'⟩ ∧ WWInv p v wt' pm' st' ∧ (p v = true → wwD st' < wwD st) := by
  obtain ⟨wt', pm', acc, seen, ⟨_, _, h1⟩ | ⟨_, h1⟩ | ⟨st', h1, h2, h3⟩⟩ := ww_step p v wt pm st h
  · exact ⟨pm', acc, seen, Or.inl h1⟩
  · exact ⟨pm', acc, seen, Or.inl h1⟩
  · refine ⟨pm', acc, seen, Or.inr ⟨wt', st', h1, h2, fun hp => ?_⟩⟩
    rcases h3 with ⟨rfl, rfl, h4⟩ | ⟨rfl, rfl⟩ | ⟨rfl, rfl⟩ | ⟨rfl, rfl, h4⟩ | ⟨rfl, rfl⟩ | ⟨rfl, rfl, h4⟩
    · rw [hp] at h4; cases h4
    · decide
    · decide
    · rw [hp] at h4; cases h4
    · decide
    · have := h.2.2.2 rfl hp
      omega

theorem store_has {S0 : List Nat} {w0 w : World} {m a : Nat} {L : List Int} {rs : List Res} (H : Has S0 w0 w (.mem m a L :: rs)) (c x : Int) (hx : 0 ≤ x ∧ x < 4294967296) :
    Calls Try.prog 44 #[.pointer (some ⟨m, 0, none⟩), .int .i64 c, .int .u32 x] w fun e w' => e = .returned (.tuple #[]) ∧ Has S0 w0 w' (.mem m a (stA L c x) :: rs) :=
  (store_any H.mem c x hx).mono fun e w' h => ⟨h.1, H.words h.2.1 (by unfold stA; split <;> simp) h.2.2⟩

/-- What holds between the deeds, of the world. -/
def WWKeep (w : World) (m a b10 b9 b3 : Nat) (ro : Res) (L : List Int) (st k mk x : Int) (w' : World) : Prop :=
  Has [] w w' (.mem m a L :: .blk b10 #[.int .i64 st] :: .blk b9 #[.int .i64 1] :: ro :: .blk b3 #[.int .i64 k, .int .u32 mk, .int .u32 x] :: [])

theorem wwkeep {w : World} {m a b10 b9 b3 : Nat} {ro : Res} {L : List Int} {st k mk x : Int} {w' : World} (h : WWKeep w m a b10 b9 b3 ro L st k mk x w') :
    WWKeep w m a b10 b9 b3 ro L st k mk x w' ∧ (∀ i, w'.cell? ⟨b10, i, none⟩ = #[Value.int .i64 st][i]?) ∧ (∀ i, w'.cell? ⟨b9, i, none⟩ = #[Value.int .i64 1][i]?) ∧ (∀ i, w'.cell? ⟨b3, i, none⟩ = #[Value.int .i64 k, .int .u32 mk, .int .u32 x][i]?) :=
  ⟨h, (Has.blk1 h).cell, (Has.blk2 h).cell, (Has.blk4 h).cell⟩

set_option maxHeartbeats 6400000 in
set_option maxRecDepth 100000 in
theorem waitWakes_some {A : Option Addr} {ln cp : Nat} {l : List (Int × Int)} (w : World) (hr : Rd w 2 A ln (l.flatMap op07Dec)) (hl : ∀ y, y ∈ l → 0 ≤ y.2 ∧ y.2 < 4294967296) (k mk x : Int) (h60 : ln ≤ 60) :
    Calls Try.prog 10 #[.slice A ln cp, .agg #[.int .i64 k, .int .u32 mk, .int .u32 x]] w fun e w' => e = .returned (.bool true) ∧ Touch [] w w' := by
  have i1 : ¬ ((60 : Int) < (ln : Int)) := by omega
  have HR0 := Lib.hid hr
  have HL := Lib.hid hl
  clear hr hl h60
  go_enter Try.func10, Try.ntmps10
  go_wp2_with fail
  refine (first4 1 0 _ (by omega) (by decide)).mono ?_
  rintro e w1 h1'
  obtain ⟨p, g, cap, rfl, H1⟩ := has_newwords ((Has.start [] w).new1) h1'
  clear h1'
  rw [show own4 0 ++ List.replicate ((8 + 4 * (1 : Int)).toNat - 2) 0 = wwL 0 0 0 from rfl] at H1 ⊢
  go_wp2_with fail
  refine (fromRow_has H1 rfl).mono ?_
  rintro e w2 ⟨m, a, rfl, H2⟩
  clear H1
  go_wp2_with fail
  have H3 := H2.al2 (c0 := #[.int .i64 1]) (c1 := #[.int .i64 0]) (t0 := 38) (t1 := 24)
  clear H2
  generalize w2.heap.size + 1 = b10 at H3 ⊢
  generalize w2.heap.size = b9 at H3 ⊢
  generalize w.heap.size = b3 at H3 ⊢
  go_loopw [11] (fun i wr => ∃ (j : Nat) (v wt pm st : Int), j ≤ ln ∧ i = .int .i64 j ∧ WWInv (untilA k mk x) v wt pm st ∧ WWKeep w m a b10 b9 b3 (.row p g cap (wwL 0 0 0)) (wwL v wt pm) st k mk x wr) (fun i _ => ln - (intOf i).toNat)
  case atStart => exact ⟨0, 0, 0, 0, 0, Nat.zero_le _, rfl, ww_start _, H3⟩
  case round =>
    obtain ⟨j, v, wt, pm, st, hj, rfl, hinv, HK⟩ := hrel
    clear H3
    have HR := HK
    unfold WWKeep at HR
    have HI := Lib.hid hinv
    clear hinv
    obtain ⟨x0, x1, x2⟩ := HR.blk1.own
    obtain ⟨y0, y1, y2⟩ := HR.blk2.own
    obtain ⟨z0, z1, z2⟩ := HR.blk4.own
    by_cases hlt : j < ln
    · have hi : (j : Int) < (ln : Int) := by omega
      have hBB := HR0.out.touch HR.touch (by simp)
      obtain ⟨b, off, y, rfl, hb, hy, hyl⟩ := elem_head (dec := op07Dec) (size := 2) (by decide) (fun _ => rfl) HR0.out hlt
      obtain ⟨e1, e2⟩ := elem_cells (dec := op07Dec) (size := 2) (by decide) (fun _ => rfl) hBB hlt hy
      obtain ⟨kd, X⟩ := y
      have c0 : wr.cell? ⟨b, off + j * 2, none⟩ = some (.int .i64 kd) := e2 0 _ rfl
      have c1 : wr.cell? ⟨b, off + j * 2 + 1, none⟩ = some (.int .u32 X) := e2 1 _ rfl
      have HX := Lib.hid (HL.out _ hyl)
      clear e2 hBB hy hyl
      by_cases hk0 : kd = 0
      · subst hk0
        have hd := fun W rs (H : Has [] w W (.mem m a (wwL v wt pm) :: rs)) => wstep_pure H 1 2 0 st 0 (by unfold I64; decide) 19 #[.agg #[.int .i64 k, .int .u32 mk, .int .u32 x]] #[] (untilA k mk x) (enters_of Try.func19 (by kernel_rfl) rfl) (fun W v h0 h1 _ => until_any k mk x v W h0 h1)
        have hst := ww_step2 HI.out
        generalize (waitA (wwL v wt pm) 1 2 0 st 0 (untilA k mk x)) = R at hd hst
        obtain ⟨pm', ⟨rk, rc, rx, ry, ro⟩, seen, rfl | ⟨wt', st', rfl, hinv', hmove⟩⟩ := hst
        · simp only [WaitR.value, Acc.cells] at hd
          have HD := Lib.hid hd
          clear hd
          go_wp2_with fail
          refine (HD.out _ _ HR).mono ?_
          rintro e w5 ⟨rfl, H5⟩
          clear x0 x1 x2 y0 y1 y2 z0 z1 z2
          obtain ⟨y0, y1, y2⟩ := H5.blk2.own
          have y3 : b9 < w5.heap.size + 1 := by omega
          have y4 : b9 < w5.heap.size + 1 + 1 := by omega
          go_wp2_with fail
          refine (mapWatch 1 0 _ (by decide)).mono ?_
          rintro e w6 ⟨rfl, t6⟩
          rw [ww_cell2]
          go_wp2_with fail
          refine (load_has ((H5.grow (((Touch.refl [] _).alloc _).alloc _)).grow t6) 10).mono ?_
          rintro e w7 ⟨rfl, H7⟩
          rw [ww_load10]
          go_wp2_with fail
          refine (awake07 _).mono ?_
          rintro e w8 ⟨rfl, t8⟩
          go_wp2_with fail
          go_ret
          exact ⟨by simp, H7.touch.trans t8⟩
        · simp only [WaitR.value, Acc.cells] at hd
          have HD := Lib.hid hd
          have HI2 := Lib.hid hinv'
          have HMOVE := Lib.hid hmove
          clear hd hinv' hmove
          go_wp2_with fail
          refine (HD.out _ _ HR).mono ?_
          rintro e w5 ⟨rfl, H5⟩
          clear x0 x1 x2 y0 y1 y2 z0 z1 z2
          obtain ⟨x0, x1, x2⟩ := H5.blk1.own
          have x3 : b10 < w5.heap.size + 1 := by omega
          have x4 : b10 < w5.heap.size + 1 + 1 := by omega
          go_wp2_with fail
          refine wp_from (Facts := fun W => WWKeep w m a b10 b9 b3 (.row p g cap (wwL 0 0 0)) (wwL v wt' pm') st' k mk x W) ?_ ((H5.set1 0 _).grow (((Touch.refl [] _).alloc _).alloc _))
          have HINV := Lib.hid HI2.out
          rintro W HKW
          cases hp : untilA k mk x v with
          | false =>
            have hdrew : WWKeep w m a b10 b9 b3 (.row p g cap (wwL 0 0 0)) (wwL v wt' pm') st' k mk x W.drew := Has.drew HKW
            have hv := HINV.out.1
            have hload := Lib.hid (fun w' (H : WWKeep w m a b10 b9 b3 (.row p g cap (wwL 0 0 0)) (wwL v wt' pm') st' k mk x w') => (load_has H 0).mono (R' := fun e w'' => e = .returned (.int .u32 v) ∧ WWKeep w m a b10 b9 b3 (.row p g cap (wwL 0 0 0)) (wwL v wt' pm') st' k mk x w'') (fun e w'' h => ⟨by rw [h.1, ww_load0], h.2⟩))
            have his := Lib.hid (fun w' (H : WWKeep w m a b10 b9 b3 (.row p g cap (wwL 0 0 0)) (wwL v wt' pm') st' k mk x w') => (until_any k mk x v w' hv.1 hv.2).mono (R' := fun e w'' => e = .returned (.bool false) ∧ WWKeep w m a b10 b9 b3 (.row p g cap (wwL 0 0 0)) (wwL v wt' pm') st' k mk x w'') (fun e w'' h => ⟨by rw [h.1, hp], Has.grow H h.2⟩))
            clear hv
            have HP := Lib.hid hp
            clear hp
            obtain ⟨_, d1, d2, d3⟩ := wwkeep HKW
            obtain ⟨_, f1, f2, f3⟩ := wwkeep hdrew
            first
            | (go_region_with (first
              | (go_at_call 42; refine (hload.out _ (by first | with_reducible exact HKW | with_reducible exact hdrew | with_reducible assumption)).mono ?_; rintro e w14 ⟨rfl, H14⟩; obtain ⟨_, r1, r2, r3⟩ := wwkeep H14)
              | (go_at_call 19; refine (his.out _ (by first | with_reducible exact HKW | with_reducible exact hdrew | with_reducible assumption)).mono ?_; rintro e w15 ⟨rfl, H15⟩)))
            | fail
            all_goals
              try refine ‹∀ (a : Act) (w : World), Code.wp _ _ _ a w → _› _ _ ?_
              go_wp2_with fail
              exact ⟨⟨j + 1, v, wt', pm', st', by omega, by go_num, HINV.out, by first | exact H16 | exact H15⟩, by simp [intOf]; omega⟩
          | true =>
            have hdrew : WWKeep w m a b10 b9 b3 (.row p g cap (wwL 0 0 0)) (wwL v wt' pm') st' k mk x W.drew := Has.drew HKW
            have hv := HINV.out.1
            have hload := Lib.hid (fun w' (H : WWKeep w m a b10 b9 b3 (.row p g cap (wwL 0 0 0)) (wwL v wt' pm') st' k mk x w') => (load_has H 0).mono (R' := fun e w'' => e = .returned (.int .u32 v) ∧ WWKeep w m a b10 b9 b3 (.row p g cap (wwL 0 0 0)) (wwL v wt' pm') st' k mk x w'') (fun e w'' h => ⟨by rw [h.1, ww_load0], h.2⟩))
            have his := Lib.hid (fun w' (H : WWKeep w m a b10 b9 b3 (.row p g cap (wwL 0 0 0)) (wwL v wt' pm') st' k mk x w') => (until_any k mk x v w' hv.1 hv.2).mono (R' := fun e w'' => e = .returned (.bool true) ∧ WWKeep w m a b10 b9 b3 (.row p g cap (wwL 0 0 0)) (wwL v wt' pm') st' k mk x w'') (fun e w'' h => ⟨by rw [h.1, hp], Has.grow H h.2⟩))
            have hstuck := Lib.hid (fun w' (H : WWKeep w m a b10 b9 b3 (.row p g cap (wwL 0 0 0)) (wwL v wt' pm') st' k mk x w') => (stuck_any (Has.mem H) 1 2 0 st' (by unfold I64; decide)).mono (R' := fun e w'' => e = .returned (.bool false) ∧ WWKeep w m a b10 b9 b3 (.row p g cap (wwL 0 0 0)) (wwL v wt' pm') st' k mk x w'') (fun e w'' h => ⟨by rw [h.1, ww_unstuck HINV.out hp], Has.grow H h.2⟩))
            clear hv
            have HP := Lib.hid hp
            clear hp
            first
            | (go_region_held3 (fun w' => WWKeep w m a b10 b9 b3 (.row p g cap (wwL 0 0 0)) (wwL v wt' pm') st' k mk x w' ∧ (∀ i, w'.cell? ⟨b10, i, none⟩ = #[Value.int .i64 st'][i]?) ∧ (∀ i, w'.cell? ⟨b9, i, none⟩ = #[Value.int .i64 1][i]?) ∧ (∀ i, w'.cell? ⟨b3, i, none⟩ = #[Value.int .i64 k, .int .u32 mk, .int .u32 x][i]?))
                (first | (go_split_ands; refine wwkeep ?_; first | with_reducible assumption | with_reducible exact hdrew))
                (first | (go_at_call 42; refine (hload.out _ (by go_split_ands; first | with_reducible assumption | with_reducible exact hdrew)).mono ?_; rintro e w14 ⟨rfl, H14⟩) | (go_at_call 19; refine (his.out _ (by go_split_ands; first | with_reducible assumption | with_reducible exact hdrew)).mono ?_; rintro e w15 ⟨rfl, H15⟩) | (go_at_call 25; refine (hstuck.out _ (by go_split_ands; first | with_reducible assumption | with_reducible exact hdrew)).mono ?_; rintro e w16 ⟨rfl, H16⟩)))
            | fail
            all_goals
              try refine ‹∀ (a : Act) (w : World), Code.wp _ _ _ a w → _› _ _ ?_
              go_wp2_with fail
              exact ⟨⟨j + 1, v, wt', pm', st', by omega, by go_num, HINV.out, by first | exact H16 | exact H15⟩, by simp [intOf]; omega⟩
      by_cases hk2 : kd = 2
      · subst hk2
        go_wp2_with fail
        refine (store_has HR 0 X HX.out).mono ?_
        rintro e w5 ⟨rfl, H5⟩
        rw [ww_store0] at H5
        clear x0 x1 x2 y0 y1 y2 z0 z1 z2
        obtain ⟨y0, y1, y2⟩ := H5.blk2.own
        go_wp2_with fail
        refine (mapWatch 1 0 _ (by decide)).mono ?_
        rintro e w6 ⟨rfl, t6⟩
        rw [ww_cell2]
        go_wp2_with fail
        refine (load_has (H5.grow t6) 10).mono ?_
        rintro e w7 ⟨rfl, H7⟩
        rw [ww_load10]
        clear y0 y1 y2
        by_cases hwt : wt = 1
        · subst hwt
          obtain ⟨y0, y1, y2⟩ := H7.blk2.own
          have hgw := ww_give X 1 pm HI.out.2.1
          have hgv := give_has H7 1 0 (by unfold I64; decide)
          generalize giveA (wwL X 1 pm) 1 0 = G at hgw hgv
          obtain ⟨⟨rk, rc, rx, ry, ro⟩, rok, L2⟩ := G
          simp only [Acc.cells] at hgw hgv
          subst hgw
          have HG := Lib.hid hgv
          clear hgv
          go_wp2_with fail
          refine HG.out.mono ?_
          rintro e w8 ⟨rfl, H8⟩
          clear HG
          go_wp2_with fail
          refine wp_from (Facts := fun W => WWKeep w m a b10 b9 b3 (.row p g cap (wwL 0 0 0)) (wwL X 1 1) st k mk x W) ?_ (H8)
          have HINV := Lib.hid (show WWInv (untilA k mk x) X 1 1 st from ⟨HX.out, Or.inr rfl, HI.out.2.2.1, fun _ _ => rfl⟩)
          rintro W HKW
          cases hp : untilA k mk x X with
          | false =>
            have hdrew : WWKeep w m a b10 b9 b3 (.row p g cap (wwL 0 0 0)) (wwL X 1 1) st k mk x W.drew := Has.drew HKW
            have hv := HINV.out.1
            have hload := Lib.hid (fun w' (H : WWKeep w m a b10 b9 b3 (.row p g cap (wwL 0 0 0)) (wwL X 1 1) st k mk x w') => (load_has H 0).mono (R' := fun e w'' => e = .returned (.int .u32 X) ∧ WWKeep w m a b10 b9 b3 (.row p g cap (wwL 0 0 0)) (wwL X 1 1) st k mk x w'') (fun e w'' h => ⟨by rw [h.1, ww_load0], h.2⟩))
            have his := Lib.hid (fun w' (H : WWKeep w m a b10 b9 b3 (.row p g cap (wwL 0 0 0)) (wwL X 1 1) st k mk x w') => (until_any k mk x X w' hv.1 hv.2).mono (R' := fun e w'' => e = .returned (.bool false) ∧ WWKeep w m a b10 b9 b3 (.row p g cap (wwL 0 0 0)) (wwL X 1 1) st k mk x w'') (fun e w'' h => ⟨by rw [h.1, hp], Has.grow H h.2⟩))
            clear hv
            have HP := Lib.hid hp
            clear hp
            obtain ⟨_, d1, d2, d3⟩ := wwkeep HKW
            obtain ⟨_, f1, f2, f3⟩ := wwkeep hdrew
            first
            | (go_region_with (first
              | (go_at_call 42; refine (hload.out _ (by first | with_reducible exact HKW | with_reducible exact hdrew | with_reducible assumption)).mono ?_; rintro e w14 ⟨rfl, H14⟩; obtain ⟨_, r1, r2, r3⟩ := wwkeep H14)
              | (go_at_call 19; refine (his.out _ (by first | with_reducible exact HKW | with_reducible exact hdrew | with_reducible assumption)).mono ?_; rintro e w15 ⟨rfl, H15⟩)))
            | fail
            all_goals
              try refine ‹∀ (a : Act) (w : World), Code.wp _ _ _ a w → _› _ _ ?_
              go_wp2_with fail
              exact ⟨⟨j + 1, X, 1, 1, st, by omega, by go_num, HINV.out, by first | exact H16 | exact H15⟩, by simp [intOf]; omega⟩
          | true =>
            have hdrew : WWKeep w m a b10 b9 b3 (.row p g cap (wwL 0 0 0)) (wwL X 1 1) st k mk x W.drew := Has.drew HKW
            have hv := HINV.out.1
            have hload := Lib.hid (fun w' (H : WWKeep w m a b10 b9 b3 (.row p g cap (wwL 0 0 0)) (wwL X 1 1) st k mk x w') => (load_has H 0).mono (R' := fun e w'' => e = .returned (.int .u32 X) ∧ WWKeep w m a b10 b9 b3 (.row p g cap (wwL 0 0 0)) (wwL X 1 1) st k mk x w'') (fun e w'' h => ⟨by rw [h.1, ww_load0], h.2⟩))
            have his := Lib.hid (fun w' (H : WWKeep w m a b10 b9 b3 (.row p g cap (wwL 0 0 0)) (wwL X 1 1) st k mk x w') => (until_any k mk x X w' hv.1 hv.2).mono (R' := fun e w'' => e = .returned (.bool true) ∧ WWKeep w m a b10 b9 b3 (.row p g cap (wwL 0 0 0)) (wwL X 1 1) st k mk x w'') (fun e w'' h => ⟨by rw [h.1, hp], Has.grow H h.2⟩))
            have hstuck := Lib.hid (fun w' (H : WWKeep w m a b10 b9 b3 (.row p g cap (wwL 0 0 0)) (wwL X 1 1) st k mk x w') => (stuck_any (Has.mem H) 1 2 0 st (by unfold I64; decide)).mono (R' := fun e w'' => e = .returned (.bool false) ∧ WWKeep w m a b10 b9 b3 (.row p g cap (wwL 0 0 0)) (wwL X 1 1) st k mk x w'') (fun e w'' h => ⟨by rw [h.1, ww_unstuck HINV.out hp], Has.grow H h.2⟩))
            clear hv
            have HP := Lib.hid hp
            clear hp
            first
            | (go_region_held3 (fun w' => WWKeep w m a b10 b9 b3 (.row p g cap (wwL 0 0 0)) (wwL X 1 1) st k mk x w' ∧ (∀ i, w'.cell? ⟨b10, i, none⟩ = #[Value.int .i64 st][i]?) ∧ (∀ i, w'.cell? ⟨b9, i, none⟩ = #[Value.int .i64 1][i]?) ∧ (∀ i, w'.cell? ⟨b3, i, none⟩ = #[Value.int .i64 k, .int .u32 mk, .int .u32 x][i]?))
                (first | (go_split_ands; refine wwkeep ?_; first | with_reducible assumption | with_reducible exact hdrew))
                (first | (go_at_call 42; refine (hload.out _ (by go_split_ands; first | with_reducible assumption | with_reducible exact hdrew)).mono ?_; rintro e w14 ⟨rfl, H14⟩) | (go_at_call 19; refine (his.out _ (by go_split_ands; first | with_reducible assumption | with_reducible exact hdrew)).mono ?_; rintro e w15 ⟨rfl, H15⟩) | (go_at_call 25; refine (hstuck.out _ (by go_split_ands; first | with_reducible assumption | with_reducible exact hdrew)).mono ?_; rintro e w16 ⟨rfl, H16⟩)))
            | fail
            all_goals
              try refine ‹∀ (a : Act) (w : World), Code.wp _ _ _ a w → _› _ _ ?_
              go_wp2_with fail
              exact ⟨⟨j + 1, X, 1, 1, st, by omega, by go_num, HINV.out, by first | exact H16 | exact H15⟩, by simp [intOf]; omega⟩
        · have e1 : (wt == 1) = false := by simpa using hwt
          have HWT := Lib.hid hwt
          clear hwt
          go_wp2_with fail
          refine wp_from (Facts := fun W => WWKeep w m a b10 b9 b3 (.row p g cap (wwL 0 0 0)) (wwL X wt pm) st k mk x W) ?_ (H7)
          have HINV := Lib.hid (ww_stored HI.out HX.out HWT.out)
          rintro W HKW
          cases hp : untilA k mk x X with
          | false =>
            have hdrew : WWKeep w m a b10 b9 b3 (.row p g cap (wwL 0 0 0)) (wwL X wt pm) st k mk x W.drew := Has.drew HKW
            have hv := HINV.out.1
            have hload := Lib.hid (fun w' (H : WWKeep w m a b10 b9 b3 (.row p g cap (wwL 0 0 0)) (wwL X wt pm) st k mk x w') => (load_has H 0).mono (R' := fun e w'' => e = .returned (.int .u32 X) ∧ WWKeep w m a b10 b9 b3 (.row p g cap (wwL 0 0 0)) (wwL X wt pm) st k mk x w'') (fun e w'' h => ⟨by rw [h.1, ww_load0], h.2⟩))
            have his := Lib.hid (fun w' (H : WWKeep w m a b10 b9 b3 (.row p g cap (wwL 0 0 0)) (wwL X wt pm) st k mk x w') => (until_any k mk x X w' hv.1 hv.2).mono (R' := fun e w'' => e = .returned (.bool false) ∧ WWKeep w m a b10 b9 b3 (.row p g cap (wwL 0 0 0)) (wwL X wt pm) st k mk x w'') (fun e w'' h => ⟨by rw [h.1, hp], Has.grow H h.2⟩))
            clear hv
            have HP := Lib.hid hp
            clear hp
            obtain ⟨_, d1, d2, d3⟩ := wwkeep HKW
            obtain ⟨_, f1, f2, f3⟩ := wwkeep hdrew
            first
            | (go_region_with (first
              | (go_at_call 42; refine (hload.out _ (by first | with_reducible exact HKW | with_reducible exact hdrew | with_reducible assumption)).mono ?_; rintro e w14 ⟨rfl, H14⟩; obtain ⟨_, r1, r2, r3⟩ := wwkeep H14)
              | (go_at_call 19; refine (his.out _ (by first | with_reducible exact HKW | with_reducible exact hdrew | with_reducible assumption)).mono ?_; rintro e w15 ⟨rfl, H15⟩)))
            | fail
            all_goals
              try refine ‹∀ (a : Act) (w : World), Code.wp _ _ _ a w → _› _ _ ?_
              go_wp2_with fail
              exact ⟨⟨j + 1, X, wt, pm, st, by omega, by go_num, HINV.out, by first | exact H16 | exact H15⟩, by simp [intOf]; omega⟩
          | true =>
            have hdrew : WWKeep w m a b10 b9 b3 (.row p g cap (wwL 0 0 0)) (wwL X wt pm) st k mk x W.drew := Has.drew HKW
            have hv := HINV.out.1
            have hload := Lib.hid (fun w' (H : WWKeep w m a b10 b9 b3 (.row p g cap (wwL 0 0 0)) (wwL X wt pm) st k mk x w') => (load_has H 0).mono (R' := fun e w'' => e = .returned (.int .u32 X) ∧ WWKeep w m a b10 b9 b3 (.row p g cap (wwL 0 0 0)) (wwL X wt pm) st k mk x w'') (fun e w'' h => ⟨by rw [h.1, ww_load0], h.2⟩))
            have his := Lib.hid (fun w' (H : WWKeep w m a b10 b9 b3 (.row p g cap (wwL 0 0 0)) (wwL X wt pm) st k mk x w') => (until_any k mk x X w' hv.1 hv.2).mono (R' := fun e w'' => e = .returned (.bool true) ∧ WWKeep w m a b10 b9 b3 (.row p g cap (wwL 0 0 0)) (wwL X wt pm) st k mk x w'') (fun e w'' h => ⟨by rw [h.1, hp], Has.grow H h.2⟩))
            have hstuck := Lib.hid (fun w' (H : WWKeep w m a b10 b9 b3 (.row p g cap (wwL 0 0 0)) (wwL X wt pm) st k mk x w') => (stuck_any (Has.mem H) 1 2 0 st (by unfold I64; decide)).mono (R' := fun e w'' => e = .returned (.bool false) ∧ WWKeep w m a b10 b9 b3 (.row p g cap (wwL 0 0 0)) (wwL X wt pm) st k mk x w'') (fun e w'' h => ⟨by rw [h.1, ww_unstuck HINV.out hp], Has.grow H h.2⟩))
            clear hv
            have HP := Lib.hid hp
            clear hp
            first
            | (go_region_held3 (fun w' => WWKeep w m a b10 b9 b3 (.row p g cap (wwL 0 0 0)) (wwL X wt pm) st k mk x w' ∧ (∀ i, w'.cell? ⟨b10, i, none⟩ = #[Value.int .i64 st][i]?) ∧ (∀ i, w'.cell? ⟨b9, i, none⟩ = #[Value.int .i64 1][i]?) ∧ (∀ i, w'.cell? ⟨b3, i, none⟩ = #[Value.int .i64 k, .int .u32 mk, .int .u32 x][i]?))
                (first | (go_split_ands; refine wwkeep ?_; first | with_reducible assumption | with_reducible exact hdrew))
                (first | (go_at_call 42; refine (hload.out _ (by go_split_ands; first | with_reducible assumption | with_reducible exact hdrew)).mono ?_; rintro e w14 ⟨rfl, H14⟩) | (go_at_call 19; refine (his.out _ (by go_split_ands; first | with_reducible assumption | with_reducible exact hdrew)).mono ?_; rintro e w15 ⟨rfl, H15⟩) | (go_at_call 25; refine (hstuck.out _ (by go_split_ands; first | with_reducible assumption | with_reducible exact hdrew)).mono ?_; rintro e w16 ⟨rfl, H16⟩)))
            | fail
            all_goals
              try refine ‹∀ (a : Act) (w : World), Code.wp _ _ _ a w → _› _ _ ?_
              go_wp2_with fail
              exact ⟨⟨j + 1, X, wt, pm, st, by omega, by go_num, HINV.out, by first | exact H16 | exact H15⟩, by simp [intOf]; omega⟩
      by_cases hk3 : kd = 3
      · subst hk3
        have hgw := ww_give v wt pm HI.out.2.1
        have hgv := give_has HR 1 0 (by unfold I64; decide)
        generalize giveA (wwL v wt pm) 1 0 = G at hgw hgv
        obtain ⟨⟨rk, rc, rx, ry, ro⟩, rok, L2⟩ := G
        simp only [Acc.cells] at hgw hgv
        subst hgw
        have HG := Lib.hid hgv
        clear hgv
        go_wp2_with fail
        refine HG.out.mono ?_
        rintro e w8 ⟨rfl, H8⟩
        clear HG
        go_wp2_with fail
        refine wp_from (Facts := fun W => WWKeep w m a b10 b9 b3 (.row p g cap (wwL 0 0 0)) (wwL v wt 1) st k mk x W) ?_ (H8)
        have HINV := Lib.hid (ww_given HI.out)
        rintro W HKW
        cases hp : untilA k mk x v with
        | false =>
          have hdrew : WWKeep w m a b10 b9 b3 (.row p g cap (wwL 0 0 0)) (wwL v wt 1) st k mk x W.drew := Has.drew HKW
          have hv := HINV.out.1
          have hload := Lib.hid (fun w' (H : WWKeep w m a b10 b9 b3 (.row p g cap (wwL 0 0 0)) (wwL v wt 1) st k mk x w') => (load_has H 0).mono (R' := fun e w'' => e = .returned (.int .u32 v) ∧ WWKeep w m a b10 b9 b3 (.row p g cap (wwL 0 0 0)) (wwL v wt 1) st k mk x w'') (fun e w'' h => ⟨by rw [h.1, ww_load0], h.2⟩))
          have his := Lib.hid (fun w' (H : WWKeep w m a b10 b9 b3 (.row p g cap (wwL 0 0 0)) (wwL v wt 1) st k mk x w') => (until_any k mk x v w' hv.1 hv.2).mono (R' := fun e w'' => e = .returned (.bool false) ∧ WWKeep w m a b10 b9 b3 (.row p g cap (wwL 0 0 0)) (wwL v wt 1) st k mk x w'') (fun e w'' h => ⟨by rw [h.1, hp], Has.grow H h.2⟩))
          clear hv
          have HP := Lib.hid hp
          clear hp
          obtain ⟨_, d1, d2, d3⟩ := wwkeep HKW
          obtain ⟨_, f1, f2, f3⟩ := wwkeep hdrew
          first
          | (go_region_with (first
            | (go_at_call 42; refine (hload.out _ (by first | with_reducible exact HKW | with_reducible exact hdrew | with_reducible assumption)).mono ?_; rintro e w14 ⟨rfl, H14⟩; obtain ⟨_, r1, r2, r3⟩ := wwkeep H14)
            | (go_at_call 19; refine (his.out _ (by first | with_reducible exact HKW | with_reducible exact hdrew | with_reducible assumption)).mono ?_; rintro e w15 ⟨rfl, H15⟩)))
          | fail
          all_goals
            try refine ‹∀ (a : Act) (w : World), Code.wp _ _ _ a w → _› _ _ ?_
            go_wp2_with fail
            exact ⟨⟨j + 1, v, wt, 1, st, by omega, by go_num, HINV.out, by first | exact H16 | exact H15⟩, by simp [intOf]; omega⟩
        | true =>
          have hdrew : WWKeep w m a b10 b9 b3 (.row p g cap (wwL 0 0 0)) (wwL v wt 1) st k mk x W.drew := Has.drew HKW
          have hv := HINV.out.1
          have hload := Lib.hid (fun w' (H : WWKeep w m a b10 b9 b3 (.row p g cap (wwL 0 0 0)) (wwL v wt 1) st k mk x w') => (load_has H 0).mono (R' := fun e w'' => e = .returned (.int .u32 v) ∧ WWKeep w m a b10 b9 b3 (.row p g cap (wwL 0 0 0)) (wwL v wt 1) st k mk x w'') (fun e w'' h => ⟨by rw [h.1, ww_load0], h.2⟩))
          have his := Lib.hid (fun w' (H : WWKeep w m a b10 b9 b3 (.row p g cap (wwL 0 0 0)) (wwL v wt 1) st k mk x w') => (until_any k mk x v w' hv.1 hv.2).mono (R' := fun e w'' => e = .returned (.bool true) ∧ WWKeep w m a b10 b9 b3 (.row p g cap (wwL 0 0 0)) (wwL v wt 1) st k mk x w'') (fun e w'' h => ⟨by rw [h.1, hp], Has.grow H h.2⟩))
          have hstuck := Lib.hid (fun w' (H : WWKeep w m a b10 b9 b3 (.row p g cap (wwL 0 0 0)) (wwL v wt 1) st k mk x w') => (stuck_any (Has.mem H) 1 2 0 st (by unfold I64; decide)).mono (R' := fun e w'' => e = .returned (.bool false) ∧ WWKeep w m a b10 b9 b3 (.row p g cap (wwL 0 0 0)) (wwL v wt 1) st k mk x w'') (fun e w'' h => ⟨by rw [h.1, ww_unstuck HINV.out hp], Has.grow H h.2⟩))
          clear hv
          have HP := Lib.hid hp
          clear hp
          first
          | (go_region_held3 (fun w' => WWKeep w m a b10 b9 b3 (.row p g cap (wwL 0 0 0)) (wwL v wt 1) st k mk x w' ∧ (∀ i, w'.cell? ⟨b10, i, none⟩ = #[Value.int .i64 st][i]?) ∧ (∀ i, w'.cell? ⟨b9, i, none⟩ = #[Value.int .i64 1][i]?) ∧ (∀ i, w'.cell? ⟨b3, i, none⟩ = #[Value.int .i64 k, .int .u32 mk, .int .u32 x][i]?))
              (first | (go_split_ands; refine wwkeep ?_; first | with_reducible assumption | with_reducible exact hdrew))
              (first | (go_at_call 42; refine (hload.out _ (by go_split_ands; first | with_reducible assumption | with_reducible exact hdrew)).mono ?_; rintro e w14 ⟨rfl, H14⟩) | (go_at_call 19; refine (his.out _ (by go_split_ands; first | with_reducible assumption | with_reducible exact hdrew)).mono ?_; rintro e w15 ⟨rfl, H15⟩) | (go_at_call 25; refine (hstuck.out _ (by go_split_ands; first | with_reducible assumption | with_reducible exact hdrew)).mono ?_; rintro e w16 ⟨rfl, H16⟩)))
          | fail
          all_goals
            try refine ‹∀ (a : Act) (w : World), Code.wp _ _ _ a w → _› _ _ ?_
            go_wp2_with fail
            exact ⟨⟨j + 1, v, wt, 1, st, by omega, by go_num, HINV.out, by first | exact H16 | exact H15⟩, by simp [intOf]; omega⟩
      have n0 : (kd == 0) = false := by simpa using hk0
      have n2 : (kd == 2) = false := by simpa using hk2
      have n3 : (kd == 3) = false := by simpa using hk3
      clear hk0 hk2 hk3
      go_wp2_with fail
      refine wp_from (Facts := fun W => WWKeep w m a b10 b9 b3 (.row p g cap (wwL 0 0 0)) (wwL v wt pm) st k mk x W) ?_ (HR)
      have HINV := Lib.hid HI.out
      rintro W HKW
      cases hp : untilA k mk x v with
      | false =>
        have hdrew : WWKeep w m a b10 b9 b3 (.row p g cap (wwL 0 0 0)) (wwL v wt pm) st k mk x W.drew := Has.drew HKW
        have hv := HINV.out.1
        have hload := Lib.hid (fun w' (H : WWKeep w m a b10 b9 b3 (.row p g cap (wwL 0 0 0)) (wwL v wt pm) st k mk x w') => (load_has H 0).mono (R' := fun e w'' => e = .returned (.int .u32 v) ∧ WWKeep w m a b10 b9 b3 (.row p g cap (wwL 0 0 0)) (wwL v wt pm) st k mk x w'') (fun e w'' h => ⟨by rw [h.1, ww_load0], h.2⟩))
        have his := Lib.hid (fun w' (H : WWKeep w m a b10 b9 b3 (.row p g cap (wwL 0 0 0)) (wwL v wt pm) st k mk x w') => (until_any k mk x v w' hv.1 hv.2).mono (R' := fun e w'' => e = .returned (.bool false) ∧ WWKeep w m a b10 b9 b3 (.row p g cap (wwL 0 0 0)) (wwL v wt pm) st k mk x w'') (fun e w'' h => ⟨by rw [h.1, hp], Has.grow H h.2⟩))
        clear hv
        have HP := Lib.hid hp
        clear hp
        obtain ⟨_, d1, d2, d3⟩ := wwkeep HKW
        obtain ⟨_, f1, f2, f3⟩ := wwkeep hdrew
        first
        | (go_region_with (first
          | (go_at_call 42; refine (hload.out _ (by first | with_reducible exact HKW | with_reducible exact hdrew | with_reducible assumption)).mono ?_; rintro e w14 ⟨rfl, H14⟩; obtain ⟨_, r1, r2, r3⟩ := wwkeep H14)
          | (go_at_call 19; refine (his.out _ (by first | with_reducible exact HKW | with_reducible exact hdrew | with_reducible assumption)).mono ?_; rintro e w15 ⟨rfl, H15⟩)))
        | fail
        all_goals
          try refine ‹∀ (a : Act) (w : World), Code.wp _ _ _ a w → _› _ _ ?_
          go_wp2_with fail
          exact ⟨⟨j + 1, v, wt, pm, st, by omega, by go_num, HINV.out, by first | exact H16 | exact H15⟩, by simp [intOf]; omega⟩
      | true =>
        have hdrew : WWKeep w m a b10 b9 b3 (.row p g cap (wwL 0 0 0)) (wwL v wt pm) st k mk x W.drew := Has.drew HKW
        have hv := HINV.out.1
        have hload := Lib.hid (fun w' (H : WWKeep w m a b10 b9 b3 (.row p g cap (wwL 0 0 0)) (wwL v wt pm) st k mk x w') => (load_has H 0).mono (R' := fun e w'' => e = .returned (.int .u32 v) ∧ WWKeep w m a b10 b9 b3 (.row p g cap (wwL 0 0 0)) (wwL v wt pm) st k mk x w'') (fun e w'' h => ⟨by rw [h.1, ww_load0], h.2⟩))
        have his := Lib.hid (fun w' (H : WWKeep w m a b10 b9 b3 (.row p g cap (wwL 0 0 0)) (wwL v wt pm) st k mk x w') => (until_any k mk x v w' hv.1 hv.2).mono (R' := fun e w'' => e = .returned (.bool true) ∧ WWKeep w m a b10 b9 b3 (.row p g cap (wwL 0 0 0)) (wwL v wt pm) st k mk x w'') (fun e w'' h => ⟨by rw [h.1, hp], Has.grow H h.2⟩))
        have hstuck := Lib.hid (fun w' (H : WWKeep w m a b10 b9 b3 (.row p g cap (wwL 0 0 0)) (wwL v wt pm) st k mk x w') => (stuck_any (Has.mem H) 1 2 0 st (by unfold I64; decide)).mono (R' := fun e w'' => e = .returned (.bool false) ∧ WWKeep w m a b10 b9 b3 (.row p g cap (wwL 0 0 0)) (wwL v wt pm) st k mk x w'') (fun e w'' h => ⟨by rw [h.1, ww_unstuck HINV.out hp], Has.grow H h.2⟩))
        clear hv
        have HP := Lib.hid hp
        clear hp
        first
        | (go_region_held3 (fun w' => WWKeep w m a b10 b9 b3 (.row p g cap (wwL 0 0 0)) (wwL v wt pm) st k mk x w' ∧ (∀ i, w'.cell? ⟨b10, i, none⟩ = #[Value.int .i64 st][i]?) ∧ (∀ i, w'.cell? ⟨b9, i, none⟩ = #[Value.int .i64 1][i]?) ∧ (∀ i, w'.cell? ⟨b3, i, none⟩ = #[Value.int .i64 k, .int .u32 mk, .int .u32 x][i]?))
            (first | (go_split_ands; refine wwkeep ?_; first | with_reducible assumption | with_reducible exact hdrew))
            (first | (go_at_call 42; refine (hload.out _ (by go_split_ands; first | with_reducible assumption | with_reducible exact hdrew)).mono ?_; rintro e w14 ⟨rfl, H14⟩) | (go_at_call 19; refine (his.out _ (by go_split_ands; first | with_reducible assumption | with_reducible exact hdrew)).mono ?_; rintro e w15 ⟨rfl, H15⟩) | (go_at_call 25; refine (hstuck.out _ (by go_split_ands; first | with_reducible assumption | with_reducible exact hdrew)).mono ?_; rintro e w16 ⟨rfl, H16⟩)))
        | fail
        all_goals
          try refine ‹∀ (a : Act) (w : World), Code.wp _ _ _ a w → _› _ _ ?_
          go_wp2_with fail
          exact ⟨⟨j + 1, v, wt, pm, st, by omega, by go_num, HINV.out, by first | exact H16 | exact H15⟩, by simp [intOf]; omega⟩
    · obtain rfl : j = ln := by omega
      go_wp2_with fail
      cases hp : untilA k mk x v with
      | false =>
        have hdrew : WWKeep w m a b10 b9 b3 (.row p g cap (wwL 0 0 0)) (wwL v wt pm) st k mk x wr.drew := Has.drew HK
        have hv := HI.out.1
        have hload := Lib.hid (fun w' (H : WWKeep w m a b10 b9 b3 (.row p g cap (wwL 0 0 0)) (wwL v wt pm) st k mk x w') => (load_has H 0).mono (R' := fun e w'' => e = .returned (.int .u32 v) ∧ WWKeep w m a b10 b9 b3 (.row p g cap (wwL 0 0 0)) (wwL v wt pm) st k mk x w'') (fun e w'' h => ⟨by rw [h.1, ww_load0], h.2⟩))
        have his := Lib.hid (fun w' (H : WWKeep w m a b10 b9 b3 (.row p g cap (wwL 0 0 0)) (wwL v wt pm) st k mk x w') => (until_any k mk x v w' hv.1 hv.2).mono (R' := fun e w'' => e = .returned (.bool false) ∧ WWKeep w m a b10 b9 b3 (.row p g cap (wwL 0 0 0)) (wwL v wt pm) st k mk x w'') (fun e w'' h => ⟨by rw [h.1, hp], Has.grow H h.2⟩))
        clear hv
        have HP := Lib.hid hp
        clear hp
        first
        | (go_region_held3 (fun w' => WWKeep w m a b10 b9 b3 (.row p g cap (wwL 0 0 0)) (wwL v wt pm) st k mk x w' ∧ (∀ i, w'.cell? ⟨b10, i, none⟩ = #[Value.int .i64 st][i]?) ∧ (∀ i, w'.cell? ⟨b9, i, none⟩ = #[Value.int .i64 1][i]?) ∧ (∀ i, w'.cell? ⟨b3, i, none⟩ = #[Value.int .i64 k, .int .u32 mk, .int .u32 x][i]?))
            (first | (go_split_ands; refine wwkeep ?_; first | with_reducible assumption | with_reducible exact hdrew))
            (first | (go_at_call 42; refine (hload.out _ (by go_split_ands; first | with_reducible assumption | with_reducible exact hdrew)).mono ?_; rintro e w14 ⟨rfl, H14⟩) | (go_at_call 19; refine (his.out _ (by go_split_ands; first | with_reducible assumption | with_reducible exact hdrew)).mono ?_; rintro e w15 ⟨rfl, H15⟩)))
        | fail
        all_goals
          refine ‹∀ (a : Act) (w : World), Code.wp _ _ _ a w → _› _ _ ?_
          go_wp2_with fail
          refine (awake07 _).mono ?_
          rintro e w8 ⟨rfl, t8⟩
          go_wp2_with fail
          go_ret
          exact ⟨rfl, (Has.touch H15).trans t8⟩
      | true =>
        have hdrew : WWKeep w m a b10 b9 b3 (.row p g cap (wwL 0 0 0)) (wwL v wt pm) st k mk x wr.drew := Has.drew HK
        have hv := HI.out.1
        have hload := Lib.hid (fun w' (H : WWKeep w m a b10 b9 b3 (.row p g cap (wwL 0 0 0)) (wwL v wt pm) st k mk x w') => (load_has H 0).mono (R' := fun e w'' => e = .returned (.int .u32 v) ∧ WWKeep w m a b10 b9 b3 (.row p g cap (wwL 0 0 0)) (wwL v wt pm) st k mk x w'') (fun e w'' h => ⟨by rw [h.1, ww_load0], h.2⟩))
        have his := Lib.hid (fun w' (H : WWKeep w m a b10 b9 b3 (.row p g cap (wwL 0 0 0)) (wwL v wt pm) st k mk x w') => (until_any k mk x v w' hv.1 hv.2).mono (R' := fun e w'' => e = .returned (.bool true) ∧ WWKeep w m a b10 b9 b3 (.row p g cap (wwL 0 0 0)) (wwL v wt pm) st k mk x w'') (fun e w'' h => ⟨by rw [h.1, hp], Has.grow H h.2⟩))
        clear hv
        have HP := Lib.hid hp
        clear hp
        first
        | (go_region_held3 (fun w' => WWKeep w m a b10 b9 b3 (.row p g cap (wwL 0 0 0)) (wwL v wt pm) st k mk x w' ∧ (∀ i, w'.cell? ⟨b10, i, none⟩ = #[Value.int .i64 st][i]?) ∧ (∀ i, w'.cell? ⟨b9, i, none⟩ = #[Value.int .i64 1][i]?) ∧ (∀ i, w'.cell? ⟨b3, i, none⟩ = #[Value.int .i64 k, .int .u32 mk, .int .u32 x][i]?))
            (first | (go_split_ands; refine wwkeep ?_; first | with_reducible assumption | with_reducible exact hdrew))
            (first | (go_at_call 42; refine (hload.out _ (by go_split_ands; first | with_reducible assumption | with_reducible exact hdrew)).mono ?_; rintro e w14 ⟨rfl, H14⟩) | (go_at_call 19; refine (his.out _ (by go_split_ands; first | with_reducible assumption | with_reducible exact hdrew)).mono ?_; rintro e w15 ⟨rfl, H15⟩)))
        | fail
        all_goals
          refine ‹∀ (a : Act) (w : World), Code.wp _ _ _ a w → _› _ _ ?_
          clear x0 x1 x2 y0 y1 y2 z0 z1 z2 hdrew HK HR
          go_wp2_with fail
          go_loopw [16] (fun i wr => ∃ (i2 : Nat) (wt1 pm1 st1 : Int), i = .int .i64 i2 ∧ i2 + wwD st1 ≤ 8 ∧ WWInv (untilA k mk x) v wt1 pm1 st1 ∧ WWKeep w m a b10 b9 b3 (.row p g cap (wwL 0 0 0)) (wwL v wt1 pm1) st1 k mk x wr) (fun i _ => 8 - (intOf i).toNat)
          case atStart => exact ⟨0, wt, pm, st, rfl, by have := wwD_le st; omega, HI.out, H15⟩
          case round =>
            obtain ⟨i2, wt1, pm1, st1, rfl, hbud, hinv1, HK⟩ := hrel
            clear HI H14 H15
            have HI := Lib.hid hinv1
            have HR := HK
            unfold WWKeep at HR
            clear hinv1
            have hpos := wwD_pos st1
            have hi8 : (i2 : Int) < 8 := by omega
            obtain ⟨x0, x1, x2⟩ := HR.blk1.own
            obtain ⟨y0, y1, y2⟩ := HR.blk2.own
            obtain ⟨z0, z1, z2⟩ := HR.blk4.own
            have hd := fun W rs (H : Has [] w W (.mem m a (wwL v wt1 pm1) :: rs)) => wstep_pure H 1 2 0 st1 0 (by unfold I64; decide) 19 #[.agg #[.int .i64 k, .int .u32 mk, .int .u32 x]] #[] (untilA k mk x) (enters_of Try.func19 (by kernel_rfl) rfl) (fun W v h0 h1 _ => until_any k mk x v W h0 h1)
            have hst := ww_step2 HI.out
            generalize (waitA (wwL v wt1 pm1) 1 2 0 st1 0 (untilA k mk x)) = R at hd hst
            obtain ⟨pm', ⟨rk, rc, rx, ry, ro⟩, seen, rfl | ⟨wt', st', rfl, hinv', hmove⟩⟩ := hst
            · simp only [WaitR.value, Acc.cells] at hd
              have HD := Lib.hid hd
              clear hd
              go_wp2_with fail
              refine (HD.out _ _ HR).mono ?_
              rintro e w5 ⟨rfl, H5⟩
              clear x0 x1 x2 y0 y1 y2 z0 z1 z2
              obtain ⟨y0, y1, y2⟩ := H5.blk2.own
              have y3 : b9 < w5.heap.size + 1 := by omega
              have y4 : b9 < w5.heap.size + 1 + 1 := by omega
              go_wp2_with fail
              refine (mapWatch 1 0 _ (by decide)).mono ?_
              rintro e w6 ⟨rfl, t6⟩
              rw [ww_cell2]
              go_wp2_with fail
              refine (load_has ((H5.grow (((Touch.refl [] _).alloc _).alloc _)).grow t6) 10).mono ?_
              rintro e w7 ⟨rfl, H7⟩
              rw [ww_load10]
              go_wp2_with fail
              refine (awake07 _).mono ?_
              rintro e w8 ⟨rfl, t8⟩
              go_wp2_with fail
              go_ret
              exact ⟨by simp, H7.touch.trans t8⟩
            · simp only [WaitR.value, Acc.cells] at hd
              have HD := Lib.hid hd
              have HI2 := Lib.hid hinv'
              have HMOVE := Lib.hid hmove
              clear hd hinv' hmove
              go_wp2_with fail
              refine (HD.out _ _ HR).mono ?_
              rintro e w5 ⟨rfl, H5⟩
              clear x0 x1 x2 y0 y1 y2 z0 z1 z2
              obtain ⟨x0, x1, x2⟩ := H5.blk1.own
              have x3 : b10 < w5.heap.size + 1 := by omega
              have x4 : b10 < w5.heap.size + 1 + 1 := by omega
              go_wp2_with fail
              exact ⟨⟨i2 + 1, wt', pm', st', by go_num, by have := HMOVE.out HP.out; omega, HI2.out, (H5.set1 0 _).grow (((Touch.refl [] _).alloc _).alloc _)⟩, by simp [intOf]; omega⟩

theorem waitWakes_any {A : Option Addr} {ln cp : Nat} {l : List (Int × Int)} (w : World) (hr : Rd w 2 A ln (l.flatMap op07Dec)) (hl : ∀ y, y ∈ l → 0 ≤ y.2 ∧ y.2 < 4294967296) (k mk x : Int) :
    Calls Try.prog 10 #[.slice A ln cp, .agg #[.int .i64 k, .int .u32 mk, .int .u32 x]] w fun e w' => e = .returned (.bool true) ∧ Touch [] w w' := by
  by_cases h : ln ≤ 60
  · exact waitWakes_some w hr hl k mk x h
  · have i1 : ((60 : Int) < (ln : Int)) := by omega
    go_enter Try.func10, Try.ntmps10
    go_wp2_with fail
    refine (awake07 _).mono ?_
    rintro e w9 ⟨rfl, t9⟩
    go_wp2_with fail
    go_ret
    exact ⟨rfl, ((Touch.refl [] w).alloc _).trans t9⟩

end Go.Proofs.Ytghiggaldkojpaa.Z
