/- The statement WakeAll: its walk. -/
import Derived.Test.YtghiggaldkojpaaZLawWakeAllP
import Derived.Test.YtghiggaldkojpaaZLaw08
import Derived.Deep.RegionHeld3
import Derived.Deep.DrawnRows
import Derived.Outline
set_option linter.unusedVariables false
set_option linter.unusedSimpArgs false
namespace Go.Proofs.Ytghiggaldkojpaa.Z
open Go.RowKit
attribute [local go_sem ↓] Go.wp_at_zero Go.wp_at_succ

theorem wa1_words (n : Nat) (ws : List Int) (i : Nat) (hn : n ≤ 64) (hl : ws.length = n) (hw : ∀ x, x ∈ ws → 0 ≤ x ∧ x < 4294967296) : Words (wa1 n ws i) := by
  refine ⟨?_, fun x hx => ?_⟩
  · unfold wa1
    simp
    omega
  · unfold wa1 at hx
    simp only [List.mem_append, List.mem_replicate] at hx
    rcases hx with ⟨_, rfl⟩ | (hx | ⟨_, rfl⟩) | ⟨_, rfl⟩
    · omega
    · exact hw x (List.mem_of_mem_take hx)
    · omega
    · omega

/-- The words at the end. -/
def waT (mode : Int) (n : Nat) (ws : List Int) (c : Int) (j : Nat) : List Int := if mode = 2 then waL n ws c j else waL n ws c 0

/-- What the round that lays a watch keeps. -/
def WAKeep (w : World) (p : Option Addr) (g cap Ln : Nat) (w' : World) : Prop := ∃ L', L'.length = Ln ∧ Has [] w w' (.row p g cap L' :: [])

theorem WAKeep.drew {w : World} {p : Option Addr} {g cap Ln : Nat} {w' : World} (h : WAKeep w p g cap Ln w') : WAKeep w p g cap Ln w'.drew := by
  obtain ⟨L', hl, H⟩ := h
  exact ⟨L', hl, H.drew⟩

theorem WAKeep.set {w : World} {p : Option Addr} {g cap Ln : Nat} {w' : World} (h : WAKeep w p g cap Ln w') (i : Nat) (v : Int) (hi : i < Ln) (hv : 0 ≤ v ∧ v < 4294967296) : WAKeep w p g cap Ln (w'.setCell ⟨g, i, none⟩ (.int .u32 v)) := by
  obtain ⟨L', hl, H⟩ := h
  exact ⟨L'.set i v, by simpa using hl, H.rowSet i (by omega) v hv⟩

theorem wakeep {w : World} {g cap Ln : Nat} {w' : World} (h : WAKeep w (some ⟨g, 0, none⟩) g cap Ln w') {b o q : Nat} {v : Value} (hA : ∀ w', Touch [] w w' → w'.cell? ⟨b, o, none⟩ = some v) (hq : q < Ln) :
    WAKeep w (some ⟨g, 0, none⟩) g cap Ln w' ∧ w'.cell? ⟨b, o, none⟩ = some v ∧ w'.cell? ⟨g, q, none⟩ = some (cellD w' g q) ∧ w'.frozen? ⟨g, q, none⟩ = false := by
  refine ⟨h, ?_⟩
  obtain ⟨L', hl, H⟩ := h
  obtain ⟨rest, hr⟩ := H.row.body (by omega)
  exact ⟨hA _ H.touch, cellD_is hr (by simp [u32s]; omega), hr.free _⟩

set_option maxHeartbeats 3200000 in
set_option maxRecDepth 100000 in
theorem wakeAll_some {A : Option Addr} {ln cp : Nat} {ws : List Int} (w : World) (hr : Rd w 1 A ln (u32s ws)) (hw : ∀ x, x ∈ ws → 0 ≤ x ∧ x < 4294967296) (c mode : Int) (hc : 0 ≤ c ∧ c < 256) (h1 : 1 ≤ ln) (h64 : ln ≤ 64) :
    Calls Try.prog 9 #[.slice A ln cp, .int .u8 c, .int .i64 mode] w fun e w' => e = .returned (.bool true) ∧ Touch [] w w' := by
  have hl := len_of_rd hr
  have i1 : ¬ ((ln : Int) < 1) := by omega
  have i2 : ¬ ((64 : Int) < (ln : Int)) := by omega
  have HW := Lib.hid hw
  have HN := Lib.hid (show 1 ≤ ln ∧ ln ≤ 64 ∧ ws.length = ln ∧ I64 ln from ⟨h1, h64, hl, by unfold I64; omega⟩)
  obtain ⟨c0, c1⟩ := hc
  have hlen0 : ((8 + 4 * (ln : Int)).toNat : Nat) = 8 + 4 * ln := by omega
  have hz : own4 0 ++ List.replicate ((8 + 4 * (ln : Int)).toNat - 2) 0 = wa1 ln ws 0 := by
    rw [wa1_zero, hlen0]
    obtain ⟨q, hq⟩ : ∃ q, 8 + 4 * ln = q + 2 := ⟨8 + 4 * ln - 2, by omega⟩
    rw [hq]
    rfl
  have hlw : ∀ i, (wa1 ln ws i).length = 8 + 4 * ln := by
    intro i
    by_cases hi : i ≤ ln
    · unfold wa1; simp [hl]; omega
    · unfold wa1; simp [hl]; omega
  have HLW := Lib.hid hlw
  have HZ := Lib.hid hz
  clear hw hz hlw hlen0 hl
  go_enter Try.func9, Try.ntmps9
  go_wp2_with fail
  refine (first4 ln 0 _ (by omega) (by decide)).mono ?_
  rintro e w1 h1'
  obtain ⟨p, g, cap, rfl, H1⟩ := has_newwords (Has.start [] w) h1'
  clear h1'
  rw [HZ.out] at H1 ⊢
  have l0 : (((wa1 ln ws 0).length : Nat) : Int) = 8 + 4 * (ln : Int) := by rw [HLW.out]; omega
  generalize hL : (wa1 ln ws 0).length = Ln at l0 ⊢
  have HL := Lib.hid hL
  clear hL
  go_wp2_with fail
  obtain ⟨bA, oA, rfl, hbA, hcA⟩ := hr.lit (by omega) (by decide)
  have hws : ∀ j, j < ln → ∀ w', Touch [] w w' → w'.cell? ⟨bA, oA + j, none⟩ = some (.int .u32 (ws.getD j 0)) := by
    intro j hj w' t
    have hl := HN.out.2.2.1
    refine (t.cell (p := ⟨bA, oA + j, none⟩) hbA (by simp)).trans (hcA j _ ?_)
    simp [u32s, List.getD, hl, hj]
  have HWS := Lib.hid hws
  clear hws hcA hr
  obtain rfl := H1.row.at_ (by rw [HLW.out]; omega)
  have hLn : Ln = 8 + 4 * ln := by omega
  have HLN := Lib.hid hLn
  clear hLn l0
  go_loopw [10] (fun i wr => ∃ j : Nat, j ≤ ln ∧ i = .int .i64 j ∧ Has [] w wr (.row (some ⟨g, 0, none⟩) g cap (wa1 ln ws j) :: [])) (fun i _ => ln - (intOf i).toNat)
  case atStart => exact ⟨0, Nat.zero_le _, rfl, H1⟩
  case round =>
    obtain ⟨j, hj, rfl, HR⟩ := hrel
    clear H1
    by_cases hlt : j < ln
    · have hk : WAKeep w (some ⟨g, 0, none⟩) g cap Ln _ := ⟨_, (HLW.out j).trans HLN.out.symm, HR⟩
      have hdrew := hk.drew
      have hq := fun W => refCell_any ln 2 j W (by decide)
      have hcell := cell_of ln 2 j ⟨HN.out.1, HN.out.2.1⟩ hlt
      generalize cellP ln 2 j = q at hq hcell
      have q0 : 0 ≤ q := by omega
      have q1 : q < (Ln : Int) := by have := HLN.out; omega
      have hqn : q.toNat = 8 + 2 * ln + j := by omega
      have hqL : q.toNat < Ln := by omega
      have hA := HWS.out j hlt
      have hv : 0 ≤ ws.getD j 0 ∧ ws.getD j 0 < 4294967296 := by
        have hl := HN.out.2.2.1
        have : ws.getD j 0 = ws[j] := by simp [List.getD, hl, hlt]
        rw [this]
        exact HW.out _ (List.getElem_mem _)
      generalize hgv : ws.getD j 0 = v at hA hv
      have HQ := Lib.hid hq
      have HC := Lib.hid hcell
      have HQN := Lib.hid hqn
      have HQL := Lib.hid hqL
      have HA := Lib.hid hA
      have HV := Lib.hid hv
      have HGV := Lib.hid hgv
      clear hq hcell hqn hqL hA hv hgv
      have hji : (0 : Int) ≤ (j : Int) := by omega
      have hji2 : (j : Int) < (ln : Int) := by omega
      have hafter := (WAKeep.set hk q.toNat v HQL.out HV.out).drew
      have hafter2 := wakeep hafter HA.out HQL.out
      go_wp2_with fail
      first
      | (go_region_held3 (fun w' => WAKeep w (some ⟨g, 0, none⟩) g cap Ln w' ∧ w'.cell? ⟨bA, oA + j, none⟩ = some (.int .u32 v) ∧ w'.cell? ⟨g, q.toNat, none⟩ = some (cellD w' g q.toNat) ∧ w'.frozen? ⟨g, q.toNat, none⟩ = false)
        (first | (go_split_ands; refine wakeep ?_ HA.out HQL.out; first | with_reducible assumption | with_reducible exact hdrew | with_reducible exact (hdrew.set _ _ HQL.out HV.out)))
        (first | (go_at_call 24; refine (HQ.out _).mono ?_; rintro e w3 ⟨rfl, rfl⟩)))
      | fail
      all_goals
        refine ‹∀ (a : Act) (w : World), Code.wp _ _ _ a w → _› _ _ ?_
        have hset : Has [] w _ _ := (HR.rowSet q.toNat (by rw [HLW.out]; have := HQN.out; omega) v HV.out).drew
        rw [HQN.out, ← HGV.out, wa1_set ln ws j hlt HN.out.2.2.1, HGV.out, ← HQN.out] at hset
        clear hafter hafter2 hdrew hk HR
        go_wp2_with fail
        exact ⟨⟨j + 1, by omega, by go_num, hset⟩, by simp [intOf]; omega⟩
    · obtain rfl : j = ln := by omega
      rw [wa1_full j ws c HN.out.2.2.1] at HR
      have hll : ∀ q, (waL j ws c q).length = Ln := fun q => (waL_length j ws c q HN.out.2.2.1).trans HLN.out.symm
      have HLL := Lib.hid hll
      clear hll
      go_wp2_with fail
      refine (fromRow_has HR (HLL.out 0)).mono ?_
      rintro e w2 ⟨m, a, rfl, H2⟩
      clear HR
      go_wp2_with fail
      refine (begin_any mode c _).mono ?_
      rintro e w3 ⟨rfl, t3⟩
      have H3 := (H2.al1 (c0 := #[.int .i64 j]) (t0 := 38)).grow t3
      clear H2 t3
      by_cases hm : mode = 2
      · subst hm
        simp only [beginA, if_true, Wk.cells]
        go_wp2_with fail
        have H4 := H3.al1 (c0 := (Wk.mk true c 0 false).cells) (t0 := 65)
        generalize w2.heap.size = bp at H4 ⊢
        generalize w3.heap.size = bw at H4 ⊢
        clear H3
        go_loopw [15] (fun n wr => ∃ (s q : Nat) (k : Wk), n = .int .i64 s ∧ WAState j ws c q s k ∧ Has [] w wr (.mem m a (waL j ws c q) :: .blk bw k.cells :: .blk bp #[.int .i64 j] :: .row (some ⟨g, 0, none⟩) g cap (waL j ws c 0) :: [])) (fun n _ => 2 * j + 1 - (intOf n).toNat)
        case atStart => exact ⟨0, 0, _, rfl, Or.inl ⟨rfl, by omega, by omega, by omega⟩, H4⟩
        case round =>
          obtain ⟨s, q, k, rfl, hst, HR⟩ := hrel
          clear H4
          obtain ⟨q0, q1, q2⟩ := HR.blk2.own
          cases hon : k.on with
          | true =>
            obtain ⟨q', hst', hL', hk', hs'⟩ := wa_step j ws c q s k ⟨h1, h64⟩ HN.out.2.2.1 ⟨c0, c1⟩ hst hon
            have hwk := fun W rs (H : Has [] w W (.mem m a (waL j ws c q) :: rs)) => wake_any H j HN.out.2.2.2 k
            generalize wakeA (waL j ws c q) j k = R at hst' hL' hk' hwk
            obtain ⟨k', ⟨rk, rc, rx, ry, ro⟩, L'⟩ := R
            simp only at hst' hL' hk' hwk
            subst hL'
            obtain ⟨on, kc, ki, kh⟩ := k
            simp only at hon
            subst hon
            have HST := Lib.hid hst'
            obtain ⟨on', kc', ki', kh'⟩ := k'
            simp only [Wk.cells, Acc.cells] at *
            have hkn : (rk == 0) = false := by simpa using hk'
            have HWK := Lib.hid hwk
            clear hwk hst hst' hk'
            obtain ⟨k0, k1, k2⟩ := HR.blk1.own
            have s2 : ¬ (2 * (j : Int) ≤ (s : Int)) := by omega
            go_wp2_with fail
            refine (HWK.out _ _ HR).mono ?_
            rintro e w5 ⟨rfl, H5⟩
            clear k0 k1 k2 q0 q1 q2
            obtain ⟨k0, k1, k2⟩ := H5.blk1.own
            go_wp2_with fail
            exact ⟨⟨s + 1, q', ⟨on', kc', ki', kh'⟩, by go_num, HST.out, ((((H5.set1 0 _).set1 1 _).set1 2 _).set1 3 _).grow (((Touch.refl [] _).alloc _).alloc _)⟩, by simp [intOf]; omega⟩
          | false =>
            rcases hst with ⟨rfl, _⟩ | ⟨rfl, _⟩ | ⟨rfl, hqj, s1, s2⟩
            · cases hon
            · cases hon
            · clear hon
              rw [hqj] at HR
              clear hqj
              simp only [Wk.cells, Wk.zero] at HR
              obtain ⟨k0, k1, k2⟩ := HR.blk1.own
              have sge : (j : Int) ≤ (s : Int) := by omega
              go_wp2_with fail
              go_loopw [18] (fun i0 wr => ∃ i : Nat, i ≤ j ∧ i0 = .int .i64 i ∧ Has [] w wr (.mem m a (waL j ws c j) :: .blk bw #[.bool false, .int .i64 0, .int .i64 0, .bool false] :: .blk bp #[.int .i64 j] :: .row (some ⟨g, 0, none⟩) g cap (waL j ws c i) :: [])) (fun i _ => j - (intOf i).toNat)
              case atStart => exact ⟨0, Nat.zero_le _, rfl, HR⟩
              case round =>
                obtain ⟨i, hi, rfl, HI⟩ := hrel
                clear HR k0 k1 k2 q0 q1 q2
                by_cases hlt : i < j
                · have hii : (0 : Int) ≤ (i : Int) := by omega
                  have hii2 : (i : Int) < (j : Int) := by omega
                  have hA := HWS.out i hlt _ HI.touch
                  have hcell := cell_of j 3 i ⟨HN.out.1, HN.out.2.1⟩ hlt
                  have hq := fun W => refCell_any j 3 i W (by decide)
                  by_cases hwi : ws.getD i 0 = c + 1
                  · rw [hwi] at hA
                    have hrw := HI.perm ((perm_past3 _ _ _ [_] []).symm)
                    have hst := hrw.rowSet (8 + 3 * j + i) (by rw [HLL.out]; have := HLN.out; omega) 1 (by decide)
                    rw [waL_permit j ws c i HN.out.2.2.1 hlt hwi] at hst
                    have hst2 := hst.perm (perm_past3 _ _ _ [_] [])
                    obtain ⟨p1, p2, p3, _⟩ := hrw.row.at_cell (8 + 3 * j + i) _ (by omega) (by rw [HLL.out]; have := HLN.out; omega) rfl
                    have hqn : (8 + 3 * (j : Int) + i).toNat = 8 + 3 * j + i := by omega
                    rw [hqn] at p2 p3
                    generalize cellP j 3 i = q at hq hcell
                    have q0 : 0 ≤ q := by omega
                    have q1 : q < (Ln : Int) := by have := HLN.out; omega
                    have hqq : q.toNat = 8 + 3 * j + i := by omega
                    rw [← hqq] at p2 p3 hst2
                    have HQ := Lib.hid hq
                    have HST := Lib.hid hst2
                    clear hq hcell hqn hqq hst hst2 hrw p1
                    go_wp2_with fail
                    refine (HQ.out _).mono ?_
                    rintro e w6 ⟨rfl, rfl⟩
                    go_wp2_with fail
                    exact ⟨⟨i + 1, by omega, by go_num, HST.out⟩, by simp [intOf]; omega⟩
                  · have hne : (ws.getD i 0 == c + 1) = false := by simpa using hwi
                    generalize hv : ws.getD i 0 = v at hA hne
                    rw [← waL_skip j ws c i (by rw [hv]; simpa using hne)] at HI
                    clear hv hwi hcell hq
                    go_wp2_with fail
                    exact ⟨⟨i + 1, by omega, by go_num, HI⟩, by simp [intOf]; omega⟩
                · obtain rfl : i = j := by omega
                  go_wp2_with fail
                  refine (all_has HI).mono ?_
                  rintro e w7 ⟨p', g', cap', rfl, H7⟩
                  have H8 := H7.perm (List.Perm.cons _ (perm_front _ 3 (by simp)))
                  have hsm := same_has (c := cap') (d := cap) H8 rfl (HLL.out _)
                  simp only [decide_true] at hsm
                  clear H7 HI
                  go_wp2_with fail
                  refine hsm.mono ?_
                  rintro e w8 ⟨rfl, H9⟩
                  clear H8 hsm
                  go_wp2_with fail
                  refine (awake08 _).mono ?_
                  rintro e w9 ⟨rfl, t9⟩
                  go_wp2_with fail
                  go_ret
                  exact ⟨by simp, H9.touch.trans t9⟩
      · rw [show beginA mode c = Wk.zero from if_neg hm]
        simp only [Wk.cells, Wk.zero]
        have hm1 : (mode == 2) = false := by simpa using hm
        have hm2 : (mode != 2) = true := by simpa using hm
        clear hm
        go_wp2_with fail
        have HR := H3.al1 (c0 := Wk.zero.cells) (t0 := 65)
        generalize w2.heap.size = bp at HR ⊢
        generalize w3.heap.size = bw at HR ⊢
        clear H3
        simp only [Wk.cells, Wk.zero] at HR
        go_loopw [15] (fun n wr => n = .int .i64 0 ∧ Has [] w wr (.mem m a (waL j ws c 0) :: .blk bw #[.bool false, .int .i64 0, .int .i64 0, .bool false] :: .blk bp #[.int .i64 j] :: .row (some ⟨g, 0, none⟩) g cap (waL j ws c 0) :: [])) (fun _ _ => 0)
        case atStart => exact ⟨rfl, HR⟩
        case round =>
          obtain ⟨rfl, HR'⟩ := hrel
          clear HR
          have HR := HR'
          clear HR'
          obtain ⟨k0, k1, k2⟩ := HR.blk1.own
          go_wp2_with fail
          go_loopw [18] (fun i0 wr => ∃ i : Nat, i ≤ j ∧ i0 = .int .i64 i ∧ Has [] w wr (.mem m a (waL j ws c 0) :: .blk bw #[.bool false, .int .i64 0, .int .i64 0, .bool false] :: .blk bp #[.int .i64 j] :: .row (some ⟨g, 0, none⟩) g cap (waL j ws c 0) :: [])) (fun i _ => j - (intOf i).toNat)
          case atStart => exact ⟨0, Nat.zero_le _, rfl, HR⟩
          case round =>
            obtain ⟨i, hi, rfl, HI⟩ := hrel
            clear HR k0 k1 k2
            by_cases hlt : i < j
            · go_wp2_with fail
              exact ⟨⟨i + 1, by omega, by go_num, HI⟩, by simp [intOf]; omega⟩
            · obtain rfl : i = j := by omega
              go_wp2_with fail
              refine (all_has HI).mono ?_
              rintro e w7 ⟨p', g', cap', rfl, H7⟩
              have H8 := H7.perm (List.Perm.cons _ (perm_front _ 3 (by simp)))
              have hsm := same_has (c := cap') (d := cap) H8 rfl (HLL.out _)
              simp only [decide_true] at hsm
              clear H7 HI
              go_wp2_with fail
              refine hsm.mono ?_
              rintro e w8 ⟨rfl, H9⟩
              clear H8 hsm
              go_wp2_with fail
              refine (awake08 _).mono ?_
              rintro e w9 ⟨rfl, t9⟩
              go_wp2_with fail
              go_ret
              exact ⟨by simp, H9.touch.trans t9⟩

theorem wakeAll_other {A : Option Addr} {ln cp : Nat} (w : World) (c mode : Int) (h : ln < 1 ∨ 64 < ln) :
    Calls Try.prog 9 #[.slice A ln cp, .int .u8 c, .int .i64 mode] w fun e w' => e = .returned (.bool true) ∧ Touch [] w w' := by
  rcases h with h | h
  · have i1 : ((ln : Int) < 1) := by omega
    go_enter Try.func9, Try.ntmps9
    go_wp2_with (go_at_call 37; refine (awake08 _).mono ?_; rintro e w9 ⟨rfl, t9⟩)
    go_ret
    exact ⟨rfl, t9⟩
  · have i1 : ¬ ((ln : Int) < 1) := by omega
    have i2 : ((64 : Int) < (ln : Int)) := by omega
    go_enter Try.func9, Try.ntmps9
    go_wp2_with (go_at_call 37; refine (awake08 _).mono ?_; rintro e w9 ⟨rfl, t9⟩)
    go_ret
    exact ⟨rfl, t9⟩

/-- WHATEVER THE INPUT. -/
theorem wakeAll_any {A : Option Addr} {ln cp : Nat} {L : List Int} (w : World) (hr : Rd w 1 A ln (L.flatMap fun x => [Value.int .u32 x])) (hL : ∀ x, x ∈ L → 0 ≤ x ∧ x < 4294967296) (c mode : Int) (hc : 0 ≤ c ∧ c < 256) :
    Calls Try.prog 9 #[.slice A ln cp, .int .u8 c, .int .i64 mode] w fun e w' => e = .returned (.bool true) ∧ Touch [] w w' := by
  have hr' : Rd w 1 A ln (u32s L) := by
    rw [← u32s_flatMap]
    exact hr
  by_cases hl : 1 ≤ ln ∧ ln ≤ 64
  · exact wakeAll_some w hr' hL c mode hc hl.1 hl.2
  · exact wakeAll_other w c mode (by omega)

end Go.Proofs.Ytghiggaldkojpaa.Z
