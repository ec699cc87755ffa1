/- The document's answer for wake-ups: a step. -/
import Derived.Test.YtlndihdlodempaaZWake
import Derived.Test.YtlndihdlodempaaZRef06
set_option linter.unusedVariables false
set_option linter.unusedSimpArgs false
namespace Go.Proofs.Ytlndihdlodempaa.Z
open Go.RowKit

theorem rgive_has {S0 : List Nat} {w0 w : World} {p : Option Addr} {g cap : Nat} {L : List Int} {rs : List Res} (H : Has S0 w0 w (.row p g cap L :: rs)) (n i : Int) :
    Calls Try.prog 130 #[.slice p L.length cap, .int .i64 n, .int .i64 i] w
      fun e w' => e = .returned (.tuple #[.agg (giveA L n i).1.cells, .bool (giveA L n i).2.1]) ∧ Has S0 w0 w' (.row p g cap (giveA L n i).2.2 :: rs) :=
  (rgive_any H.row H.cap.1 H.cap.2 n i).mono fun e w' ⟨he, hM, t⟩ => ⟨he, H.wordsRow hM (doA_length _ _) t⟩

theorem rdo_has {S0 : List Nat} {w0 w : World} {p : Option Addr} {g cap : Nat} {L : List Int} {rs : List Res} (H : Has S0 w0 w (.row p g cap L :: rs)) (b : Acc) (hx : 0 ≤ b.x ∧ b.x < 4294967296) (hy : 0 ≤ b.y ∧ b.y < 4294967296) :
    Calls Try.prog 131 #[.slice p L.length cap, .agg b.cells] w
      fun e w' => e = .returned (.tuple #[.agg (doA L b).1.cells, .bool (doA L b).2.1]) ∧ Has S0 w0 w' (.row p g cap (doA L b).2.2 :: rs) :=
  (rdo_any H.row H.cap.1 H.cap.2 b hx hy).mono fun e w' ⟨he, hM, t⟩ => ⟨he, H.wordsRow hM (doA_length _ _) t⟩

theorem rbegin_any (mode c : Int) (w : World) : Calls Try.prog 135 #[.int .i64 mode, .int .i64 c] w fun e w' => e = .returned (.agg (beginA mode c).cells) ∧ Touch [] w w' := by
  by_cases h : mode = 2
  · subst h
    simp only [beginA, if_true, Wk.cells]
    go_enter Try.func135, Try.ntmps135
    go_wp2
    refine bodyPost_ret (v := .agg #[.bool true, .int .i64 c, .int .i64 0, .bool false]) (by simp [results, Try.results135, go_sem]) rfl ⟨rfl, ?_⟩
    repeat (first | with_reducible exact Touch.refl _ _ | with_reducible apply Touch.alloc | with_reducible refine Touch.setNew ?_ (by simp) _)
  · rw [show beginA mode c = Wk.zero from if_neg h]
    have h' : (mode == 2) = false := by simpa using h
    clear h
    simp only [Wk.cells, Wk.zero]
    go_enter Try.func135, Try.ntmps135
    go_wp2
    refine bodyPost_ret (v := .agg #[.bool false, .int .i64 0, .int .i64 0, .bool false]) (by simp [results, Try.results135, go_sem]) rfl ⟨rfl, ?_⟩
    repeat (first | with_reducible exact Touch.refl _ _ | with_reducible apply Touch.alloc | with_reducible refine Touch.setNew ?_ (by simp) _)

set_option maxHeartbeats 1600000 in
theorem rwake_off {S0 : List Nat} {w0 w : World} {rs : List Res} (H : Has S0 w0 w rs) (sl : Value) (n cell i : Int) (hit : Bool) :
    Calls Try.prog 62 #[sl, .int .i64 n, .agg (Wk.mk false cell i hit).cells] w
      fun e w' => e = .returned (.tuple #[.agg Wk.zero.cells, .agg Acc.zero.cells]) ∧ Has S0 w0 w' rs := by
  simp only [Wk.cells, Wk.zero, Acc.zero, Acc.cells]
  go_enter Try.func62, Try.ntmps62
  go_wp2
  refine bodyPost_ret (v := .tuple #[.agg #[.bool false, .int .i64 0, .int .i64 0, .bool false], .agg #[.int .i64 0, .int .i64 0, .int .u32 0, .int .u32 0, .int .u32 0]]) (by simp [results, Try.results62, go_sem]) rfl ⟨rfl, ?_⟩
  exact H.grow (by repeat (first | with_reducible exact Touch.refl _ _ | with_reducible apply Touch.alloc | with_reducible refine Touch.setNew ?_ (by simp) _))

set_option maxHeartbeats 1600000 in
set_option maxRecDepth 100000 in
theorem rwake_neg {S0 : List Nat} {w0 w : World} {p : Option Addr} {g cap : Nat} {L : List Int} {rs : List Res} (H : Has S0 w0 w (.row p g cap L :: rs)) (n cell i : Int) (hit : Bool) (hc : cellP n 2 i < 0) :
    Calls Try.prog 62 #[.slice p L.length cap, .int .i64 n, .agg (Wk.mk true cell i hit).cells] w
      fun e w' => e = .returned (.tuple #[.agg Wk.zero.cells, .agg Acc.zero.cells]) ∧ Has S0 w0 w' (.row p g cap L :: rs) := by
  have hq := fun W => refCell_any n 2 i W (by decide)
  generalize cellP n 2 i = q at hq hc
  have HQ := Lib.hid hq
  clear hq
  simp only [Wk.cells, Wk.zero, Acc.zero, Acc.cells]
  go_enter Try.func62, Try.ntmps62
  go_wp2_with fail
  refine (HQ.out _).mono ?_
  rintro e w' ⟨rfl, rfl⟩
  go_wp2_with fail
  refine bodyPost_ret (v := .tuple #[.agg #[.bool false, .int .i64 0, .int .i64 0, .bool false], .agg #[.int .i64 0, .int .i64 0, .int .u32 0, .int .u32 0, .int .u32 0]]) (by simp [results, Try.results62, go_sem]) rfl ⟨rfl, ?_⟩
  exact H.grow (by repeat (first | with_reducible exact Touch.refl _ _ | with_reducible apply Touch.alloc | with_reducible refine Touch.setNew ?_ (by simp) _))

set_option maxHeartbeats 1600000 in
set_option maxRecDepth 100000 in
theorem rwake_hit_no {S0 : List Nat} {w0 w : World} {p : Option Addr} {g cap : Nat} {L : List Int} {rs : List Res} (H : Has S0 w0 w (.row p g cap L :: rs)) (n cell i : Int) (hc : 0 ≤ cellP n 2 i) (hb : (giveA L n i).2.1 = false) :
    Calls Try.prog 62 #[.slice p L.length cap, .int .i64 n, .agg (Wk.mk true cell i true).cells] w
      fun e w' => e = .returned (.tuple #[.agg Wk.zero.cells, .agg Acc.zero.cells]) ∧ Has S0 w0 w' (.row p g cap L :: rs) := by
  have hq := fun W => refCell_any n 2 i W (by decide)
  have hg := fun W rs (H : Has S0 w0 W (.row p g cap L :: rs)) => rgive_has H n i
  rw [show giveA L n i = (Acc.zero, false, L) from doA_no hb] at hg
  clear hb
  generalize cellP n 2 i = q at *
  simp only [Wk.cells, Wk.zero, Acc.cells, Acc.zero] at *
  have HG := Lib.hid hg
  have HH := Lib.hid H
  have HQ := Lib.hid hq
  clear hg H hq
  go_enter Try.func62, Try.ntmps62
  go_wp2_with fail
  refine (HQ.out _).mono ?_
  rintro e w' ⟨rfl, rfl⟩
  go_wp2_with fail
  refine (HG.out _ _ HH.out.al4).mono ?_
  rintro e w2 ⟨rfl, H2⟩
  obtain ⟨x0, x1, x2⟩ := (H2.at_ 1 rfl).own
  obtain ⟨k0, k1, k2⟩ := (H2.at_ 4 rfl).own
  obtain ⟨y0, y1, y2⟩ := (H2.at_ 2 rfl).own
  obtain ⟨z0, z1, z2⟩ := (H2.at_ 3 rfl).own
  go_wp2_with fail
  refine bodyPost_ret (v := .tuple #[.agg #[.bool false, .int .i64 0, .int .i64 0, .bool false], .agg #[.int .i64 0, .int .i64 0, .int .u32 0, .int .u32 0, .int .u32 0]]) (by simp [results, Try.results62, go_sem, x0, x1, x2, y0, y1, y2, z0, z1, z2]) rfl ⟨rfl, ?_⟩
  exact H2.done4 (by repeat (first | with_reducible exact Touch.refl _ _ | with_reducible apply Touch.drew | with_reducible apply Touch.alloc | with_reducible refine Touch.set ?_ (by simp) _))

set_option maxHeartbeats 1600000 in
set_option maxRecDepth 100000 in
theorem rwake_look_no {S0 : List Nat} {w0 w : World} {p : Option Addr} {g cap : Nat} {L : List Int} {rs : List Res} (H : Has S0 w0 w (.row p g cap L :: rs)) (n cell i : Int) (hc : 0 ≤ cellP n 2 i) (hb : (doA L ⟨1, cellP n 2 i, 0, 0, 0⟩).2.1 = false) :
    Calls Try.prog 62 #[.slice p L.length cap, .int .i64 n, .agg (Wk.mk true cell i false).cells] w
      fun e w' => e = .returned (.tuple #[.agg Wk.zero.cells, .agg Acc.zero.cells]) ∧ Has S0 w0 w' (.row p g cap L :: rs) := by
  have hq := fun W => refCell_any n 2 i W (by decide)
  have hg := fun W rs (H : Has S0 w0 W (.row p g cap L :: rs)) => rdo_has H ⟨1, cellP n 2 i, 0, 0, 0⟩ (by simp) (by simp)
  rw [doA_no hb] at hg
  clear hb
  generalize cellP n 2 i = q at *
  simp only [Wk.cells, Wk.zero, Acc.cells, Acc.zero] at *
  have HG := Lib.hid hg
  have HH := Lib.hid H
  have HQ := Lib.hid hq
  clear hg H hq
  go_enter Try.func62, Try.ntmps62
  go_wp2_with fail
  refine (HQ.out _).mono ?_
  rintro e w' ⟨rfl, rfl⟩
  go_wp2_with fail
  refine (HQ.out _).mono ?_
  rintro e w' ⟨rfl, rfl⟩
  go_wp2_with fail
  refine (HG.out _ _ HH.out.al4).mono ?_
  rintro e w2 ⟨rfl, H2⟩
  obtain ⟨x0, x1, x2⟩ := (H2.at_ 1 rfl).own
  obtain ⟨k0, k1, k2⟩ := (H2.at_ 4 rfl).own
  obtain ⟨y0, y1, y2⟩ := (H2.at_ 2 rfl).own
  obtain ⟨z0, z1, z2⟩ := (H2.at_ 3 rfl).own
  go_wp2_with fail
  refine bodyPost_ret (v := .tuple #[.agg #[.bool false, .int .i64 0, .int .i64 0, .bool false], .agg #[.int .i64 0, .int .i64 0, .int .u32 0, .int .u32 0, .int .u32 0]]) (by simp [results, Try.results62, go_sem, x0, x1, x2, y0, y1, y2, z0, z1, z2]) rfl ⟨rfl, ?_⟩
  exact H2.done4 (by repeat (first | with_reducible exact Touch.refl _ _ | with_reducible apply Touch.drew | with_reducible apply Touch.alloc | with_reducible refine Touch.set ?_ (by simp) _))

set_option maxHeartbeats 1600000 in
set_option maxRecDepth 100000 in
theorem rwake_hit_end {S0 : List Nat} {w0 w : World} {p : Option Addr} {g cap : Nat} {L : List Int} {rs : List Res} (H : Has S0 w0 w (.row p g cap L :: rs)) (n cell i : Int) (hc : 0 ≤ cellP n 2 i) (hi : 0 ≤ i ∧ i < 64) (hb : (giveA L n i).2.1 = true) (hend : n ≤ i + 1) :
    Calls Try.prog 62 #[.slice p L.length cap, .int .i64 n, .agg (Wk.mk true cell i true).cells] w
      fun e w' => e = .returned (.tuple #[.agg Wk.zero.cells, .agg (giveA L n i).1.cells]) ∧ Has S0 w0 w' (.row p g cap (giveA L n i).2.2 :: rs) := by
  obtain ⟨i0, i1⟩ := hi
  have hq := fun W => refCell_any n 2 i W (by decide)
  have hg := fun W rs (H : Has S0 w0 W (.row p g cap L :: rs)) => rgive_has H n i
  generalize giveA L n i = R at *
  generalize cellP n 2 i = q at *
  obtain ⟨⟨rk, rc, rx, ry, ro⟩, rok, L2⟩ := R
  simp only [Wk.cells, Wk.zero, Acc.cells, Acc.zero] at *
  subst hb
  try have hne2 := hne2 _ rfl
  try have he2 := he2 _ rfl
  have HG := Lib.hid hg
  have HH := Lib.hid H
  have HQ := Lib.hid hq
  clear hg H hq
  go_enter Try.func62, Try.ntmps62
  go_wp2_with fail
  refine (HQ.out _).mono ?_
  rintro e w' ⟨rfl, rfl⟩
  go_wp2_with fail
  refine (HG.out _ _ HH.out.al4).mono ?_
  rintro e w2 ⟨rfl, H2⟩
  obtain ⟨x0, x1, x2⟩ := (H2.at_ 1 rfl).own
  obtain ⟨k0, k1, k2⟩ := (H2.at_ 4 rfl).own
  obtain ⟨y0, y1, y2⟩ := (H2.at_ 2 rfl).own
  obtain ⟨z0, z1, z2⟩ := (H2.at_ 3 rfl).own
  go_wp2_with fail
  refine wp_from (Facts := fun W => Has S0 w0 W (.row p g cap L2 :: .blk (w.heap.size + 3) #[.int .i64 rk, .int .i64 rc, .int .u32 rx, .int .u32 ry, .int .u32 ro] :: .blk (w.heap.size + 2) #[.int .i64 0, .int .i64 0, .int .u32 0, .int .u32 0, .int .u32 0] :: .blk (w.heap.size + 1) #[.bool false, .int .i64 0, .int .i64 0, .bool false] :: .blk w.heap.size #[.bool true, .int .i64 cell, .int .i64 i, .bool true] :: rs)) ?_ ((((((H2.set1 0 _).set1 1 _).set1 2 _).set1 3 _).set1 4 _))
  clear x0 x1 x2 y0 y1 y2 z0 z1 z2 k0 k1 k2 H2
  intro W HW
  obtain ⟨x0, x1, x2⟩ := (HW.at_ 1 rfl).own
  obtain ⟨y0, y1, y2⟩ := (HW.at_ 2 rfl).own
  obtain ⟨z0, z1, z2⟩ := (HW.at_ 3 rfl).own
  obtain ⟨k0, k1, k2⟩ := (HW.at_ 4 rfl).own
  go_region
  all_goals go_wp2
  refine bodyPost_ret (v := .tuple #[.agg #[.bool false, .int .i64 0, .int .i64 0, .bool false], .agg #[.int .i64 rk, .int .i64 rc, .int .u32 rx, .int .u32 ry, .int .u32 ro]]) (by simp [results, Try.results62, go_sem, x0, x1, x2, y0, y1, y2, z0, z1, z2]) rfl ⟨rfl, ?_⟩
  exact HW.done4 (by repeat (first | with_reducible exact Touch.refl _ _ | with_reducible apply Touch.drew | with_reducible apply Touch.alloc | with_reducible refine Touch.set ?_ (by simp) _))

set_option maxHeartbeats 1600000 in
set_option maxRecDepth 100000 in
theorem rwake_hit_next {S0 : List Nat} {w0 w : World} {p : Option Addr} {g cap : Nat} {L : List Int} {rs : List Res} (H : Has S0 w0 w (.row p g cap L :: rs)) (n cell i : Int) (hc : 0 ≤ cellP n 2 i) (hi : 0 ≤ i ∧ i < 64) (hb : (giveA L n i).2.1 = true) (hend : ¬ n ≤ i + 1) :
    Calls Try.prog 62 #[.slice p L.length cap, .int .i64 n, .agg (Wk.mk true cell i true).cells] w
      fun e w' => e = .returned (.tuple #[.agg (Wk.mk true cell (i + 1) false).cells, .agg (giveA L n i).1.cells]) ∧ Has S0 w0 w' (.row p g cap (giveA L n i).2.2 :: rs) := by
  obtain ⟨i0, i1⟩ := hi
  have hq := fun W => refCell_any n 2 i W (by decide)
  have hg := fun W rs (H : Has S0 w0 W (.row p g cap L :: rs)) => rgive_has H n i
  generalize giveA L n i = R at *
  generalize cellP n 2 i = q at *
  obtain ⟨⟨rk, rc, rx, ry, ro⟩, rok, L2⟩ := R
  simp only [Wk.cells, Wk.zero, Acc.cells, Acc.zero] at *
  subst hb
  try have hne2 := hne2 _ rfl
  try have he2 := he2 _ rfl
  have HG := Lib.hid hg
  have HH := Lib.hid H
  have HQ := Lib.hid hq
  clear hg H hq
  go_enter Try.func62, Try.ntmps62
  go_wp2_with fail
  refine (HQ.out _).mono ?_
  rintro e w' ⟨rfl, rfl⟩
  go_wp2_with fail
  refine (HG.out _ _ HH.out.al4).mono ?_
  rintro e w2 ⟨rfl, H2⟩
  obtain ⟨x0, x1, x2⟩ := (H2.at_ 1 rfl).own
  obtain ⟨k0, k1, k2⟩ := (H2.at_ 4 rfl).own
  obtain ⟨y0, y1, y2⟩ := (H2.at_ 2 rfl).own
  obtain ⟨z0, z1, z2⟩ := (H2.at_ 3 rfl).own
  go_wp2_with fail
  refine wp_from (Facts := fun W => Has S0 w0 W (.row p g cap L2 :: .blk (w.heap.size + 3) #[.int .i64 rk, .int .i64 rc, .int .u32 rx, .int .u32 ry, .int .u32 ro] :: .blk (w.heap.size + 2) #[.int .i64 0, .int .i64 0, .int .u32 0, .int .u32 0, .int .u32 0] :: .blk (w.heap.size + 1) #[.bool false, .int .i64 0, .int .i64 0, .bool false] :: .blk w.heap.size #[.bool true, .int .i64 cell, .int .i64 i, .bool true] :: rs)) ?_ ((((((H2.set1 0 _).set1 1 _).set1 2 _).set1 3 _).set1 4 _))
  clear x0 x1 x2 y0 y1 y2 z0 z1 z2 k0 k1 k2 H2
  intro W HW
  obtain ⟨x0, x1, x2⟩ := (HW.at_ 1 rfl).own
  obtain ⟨y0, y1, y2⟩ := (HW.at_ 2 rfl).own
  obtain ⟨z0, z1, z2⟩ := (HW.at_ 3 rfl).own
  obtain ⟨k0, k1, k2⟩ := (HW.at_ 4 rfl).own
  go_region
  all_goals go_wp2
  refine bodyPost_ret (v := .tuple #[.agg #[.bool true, .int .i64 cell, .int .i64 (i + 1), .bool false], .agg #[.int .i64 rk, .int .i64 rc, .int .u32 rx, .int .u32 ry, .int .u32 ro]]) (by simp [results, Try.results62, go_sem, x0, x1, x2, y0, y1, y2, z0, z1, z2]) rfl ⟨rfl, ?_⟩
  exact HW.done4 (by repeat (first | with_reducible exact Touch.refl _ _ | with_reducible apply Touch.drew | with_reducible apply Touch.alloc | with_reducible refine Touch.set ?_ (by simp) _))

set_option maxHeartbeats 1600000 in
set_option maxRecDepth 100000 in
theorem rwake_look_end {S0 : List Nat} {w0 w : World} {p : Option Addr} {g cap : Nat} {L : List Int} {rs : List Res} (H : Has S0 w0 w (.row p g cap L :: rs)) (n cell i : Int) (hc : 0 ≤ cellP n 2 i) (hi : 0 ≤ i ∧ i < 64) (hb : (doA L ⟨1, cellP n 2 i, 0, 0, 0⟩).2.1 = true) (hne : (doA L ⟨1, cellP n 2 i, 0, 0, 0⟩).1.old ≠ (cell + 1) % 4294967296) (hend : n ≤ i + 1) :
    Calls Try.prog 62 #[.slice p L.length cap, .int .i64 n, .agg (Wk.mk true cell i false).cells] w
      fun e w' => e = .returned (.tuple #[.agg Wk.zero.cells, .agg (doA L ⟨1, cellP n 2 i, 0, 0, 0⟩).1.cells]) ∧ Has S0 w0 w' (.row p g cap (doA L ⟨1, cellP n 2 i, 0, 0, 0⟩).2.2 :: rs) := by
  have hne2 : ∀ x, (doA L ⟨1, cellP n 2 i, 0, 0, 0⟩).1.old = x → (x == (cell % 4294967296 + 1) % 4294967296) = false := fun x hx => by
    have : ¬ (x = (cell % 4294967296 + 1) % 4294967296) := fun h => hne (by rw [hx, h]; omega)
    simpa using this
  clear hne
  obtain ⟨i0, i1⟩ := hi
  have hq := fun W => refCell_any n 2 i W (by decide)
  have hg := fun W rs (H : Has S0 w0 W (.row p g cap L :: rs)) => rdo_has H ⟨1, cellP n 2 i, 0, 0, 0⟩ (by simp) (by simp)
  generalize doA L ⟨1, cellP n 2 i, 0, 0, 0⟩ = R at *
  generalize cellP n 2 i = q at *
  obtain ⟨⟨rk, rc, rx, ry, ro⟩, rok, L2⟩ := R
  simp only [Wk.cells, Wk.zero, Acc.cells, Acc.zero] at *
  subst hb
  try have hne2 := hne2 _ rfl
  try have he2 := he2 _ rfl
  have HG := Lib.hid hg
  have HH := Lib.hid H
  have HQ := Lib.hid hq
  clear hg H hq
  go_enter Try.func62, Try.ntmps62
  go_wp2_with fail
  refine (HQ.out _).mono ?_
  rintro e w' ⟨rfl, rfl⟩
  go_wp2_with fail
  refine (HQ.out _).mono ?_
  rintro e w' ⟨rfl, rfl⟩
  go_wp2_with fail
  refine (HG.out _ _ HH.out.al4).mono ?_
  rintro e w2 ⟨rfl, H2⟩
  obtain ⟨x0, x1, x2⟩ := (H2.at_ 1 rfl).own
  obtain ⟨k0, k1, k2⟩ := (H2.at_ 4 rfl).own
  obtain ⟨y0, y1, y2⟩ := (H2.at_ 2 rfl).own
  obtain ⟨z0, z1, z2⟩ := (H2.at_ 3 rfl).own
  go_wp2_with fail
  refine wp_from (Facts := fun W => Has S0 w0 W (.row p g cap L2 :: .blk (w.heap.size + 3) #[.int .i64 rk, .int .i64 rc, .int .u32 rx, .int .u32 ry, .int .u32 ro] :: .blk (w.heap.size + 2) #[.int .i64 0, .int .i64 0, .int .u32 0, .int .u32 0, .int .u32 0] :: .blk (w.heap.size + 1) #[.bool false, .int .i64 0, .int .i64 0, .bool false] :: .blk w.heap.size #[.bool true, .int .i64 cell, .int .i64 i, .bool false] :: rs)) ?_ ((((((H2.set1 0 _).set1 1 _).set1 2 _).set1 3 _).set1 4 _))
  clear x0 x1 x2 y0 y1 y2 z0 z1 z2 k0 k1 k2 H2
  intro W HW
  obtain ⟨x0, x1, x2⟩ := (HW.at_ 1 rfl).own
  obtain ⟨y0, y1, y2⟩ := (HW.at_ 2 rfl).own
  obtain ⟨z0, z1, z2⟩ := (HW.at_ 3 rfl).own
  obtain ⟨k0, k1, k2⟩ := (HW.at_ 4 rfl).own
  go_region
  all_goals go_wp2
  refine bodyPost_ret (v := .tuple #[.agg #[.bool false, .int .i64 0, .int .i64 0, .bool false], .agg #[.int .i64 rk, .int .i64 rc, .int .u32 rx, .int .u32 ry, .int .u32 ro]]) (by simp [results, Try.results62, go_sem, x0, x1, x2, y0, y1, y2, z0, z1, z2]) rfl ⟨rfl, ?_⟩
  exact HW.done4 (by repeat (first | with_reducible exact Touch.refl _ _ | with_reducible apply Touch.drew | with_reducible apply Touch.alloc | with_reducible refine Touch.set ?_ (by simp) _))

set_option maxHeartbeats 1600000 in
set_option maxRecDepth 100000 in
theorem rwake_look_next {S0 : List Nat} {w0 w : World} {p : Option Addr} {g cap : Nat} {L : List Int} {rs : List Res} (H : Has S0 w0 w (.row p g cap L :: rs)) (n cell i : Int) (hc : 0 ≤ cellP n 2 i) (hi : 0 ≤ i ∧ i < 64) (hb : (doA L ⟨1, cellP n 2 i, 0, 0, 0⟩).2.1 = true) (hne : (doA L ⟨1, cellP n 2 i, 0, 0, 0⟩).1.old ≠ (cell + 1) % 4294967296) (hend : ¬ n ≤ i + 1) :
    Calls Try.prog 62 #[.slice p L.length cap, .int .i64 n, .agg (Wk.mk true cell i false).cells] w
      fun e w' => e = .returned (.tuple #[.agg (Wk.mk true cell (i + 1) false).cells, .agg (doA L ⟨1, cellP n 2 i, 0, 0, 0⟩).1.cells]) ∧ Has S0 w0 w' (.row p g cap (doA L ⟨1, cellP n 2 i, 0, 0, 0⟩).2.2 :: rs) := by
  have hne2 : ∀ x, (doA L ⟨1, cellP n 2 i, 0, 0, 0⟩).1.old = x → (x == (cell % 4294967296 + 1) % 4294967296) = false := fun x hx => by
    have : ¬ (x = (cell % 4294967296 + 1) % 4294967296) := fun h => hne (by rw [hx, h]; omega)
    simpa using this
  clear hne
  obtain ⟨i0, i1⟩ := hi
  have hq := fun W => refCell_any n 2 i W (by decide)
  have hg := fun W rs (H : Has S0 w0 W (.row p g cap L :: rs)) => rdo_has H ⟨1, cellP n 2 i, 0, 0, 0⟩ (by simp) (by simp)
  generalize doA L ⟨1, cellP n 2 i, 0, 0, 0⟩ = R at *
  generalize cellP n 2 i = q at *
  obtain ⟨⟨rk, rc, rx, ry, ro⟩, rok, L2⟩ := R
  simp only [Wk.cells, Wk.zero, Acc.cells, Acc.zero] at *
  subst hb
  try have hne2 := hne2 _ rfl
  try have he2 := he2 _ rfl
  have HG := Lib.hid hg
  have HH := Lib.hid H
  have HQ := Lib.hid hq
  clear hg H hq
  go_enter Try.func62, Try.ntmps62
  go_wp2_with fail
  refine (HQ.out _).mono ?_
  rintro e w' ⟨rfl, rfl⟩
  go_wp2_with fail
  refine (HQ.out _).mono ?_
  rintro e w' ⟨rfl, rfl⟩
  go_wp2_with fail
  refine (HG.out _ _ HH.out.al4).mono ?_
  rintro e w2 ⟨rfl, H2⟩
  obtain ⟨x0, x1, x2⟩ := (H2.at_ 1 rfl).own
  obtain ⟨k0, k1, k2⟩ := (H2.at_ 4 rfl).own
  obtain ⟨y0, y1, y2⟩ := (H2.at_ 2 rfl).own
  obtain ⟨z0, z1, z2⟩ := (H2.at_ 3 rfl).own
  go_wp2_with fail
  refine wp_from (Facts := fun W => Has S0 w0 W (.row p g cap L2 :: .blk (w.heap.size + 3) #[.int .i64 rk, .int .i64 rc, .int .u32 rx, .int .u32 ry, .int .u32 ro] :: .blk (w.heap.size + 2) #[.int .i64 0, .int .i64 0, .int .u32 0, .int .u32 0, .int .u32 0] :: .blk (w.heap.size + 1) #[.bool false, .int .i64 0, .int .i64 0, .bool false] :: .blk w.heap.size #[.bool true, .int .i64 cell, .int .i64 i, .bool false] :: rs)) ?_ ((((((H2.set1 0 _).set1 1 _).set1 2 _).set1 3 _).set1 4 _))
  clear x0 x1 x2 y0 y1 y2 z0 z1 z2 k0 k1 k2 H2
  intro W HW
  obtain ⟨x0, x1, x2⟩ := (HW.at_ 1 rfl).own
  obtain ⟨y0, y1, y2⟩ := (HW.at_ 2 rfl).own
  obtain ⟨z0, z1, z2⟩ := (HW.at_ 3 rfl).own
  obtain ⟨k0, k1, k2⟩ := (HW.at_ 4 rfl).own
  go_region
  all_goals go_wp2
  refine bodyPost_ret (v := .tuple #[.agg #[.bool true, .int .i64 cell, .int .i64 (i + 1), .bool false], .agg #[.int .i64 rk, .int .i64 rc, .int .u32 rx, .int .u32 ry, .int .u32 ro]]) (by simp [results, Try.results62, go_sem, x0, x1, x2, y0, y1, y2, z0, z1, z2]) rfl ⟨rfl, ?_⟩
  exact HW.done4 (by repeat (first | with_reducible exact Touch.refl _ _ | with_reducible apply Touch.drew | with_reducible apply Touch.alloc | with_reducible refine Touch.set ?_ (by simp) _))

set_option maxHeartbeats 1600000 in
set_option maxRecDepth 100000 in
theorem rwake_look_is {S0 : List Nat} {w0 w : World} {p : Option Addr} {g cap : Nat} {L : List Int} {rs : List Res} (H : Has S0 w0 w (.row p g cap L :: rs)) (n cell i : Int) (hc : 0 ≤ cellP n 2 i) (hb : (doA L ⟨1, cellP n 2 i, 0, 0, 0⟩).2.1 = true) (he : (doA L ⟨1, cellP n 2 i, 0, 0, 0⟩).1.old = (cell + 1) % 4294967296) :
    Calls Try.prog 62 #[.slice p L.length cap, .int .i64 n, .agg (Wk.mk true cell i false).cells] w
      fun e w' => e = .returned (.tuple #[.agg (Wk.mk true cell i true).cells, .agg (doA L ⟨1, cellP n 2 i, 0, 0, 0⟩).1.cells]) ∧ Has S0 w0 w' (.row p g cap (doA L ⟨1, cellP n 2 i, 0, 0, 0⟩).2.2 :: rs) := by
  have he2 : ∀ x, (doA L ⟨1, cellP n 2 i, 0, 0, 0⟩).1.old = x → (x == (cell % 4294967296 + 1) % 4294967296) = true := fun x hx => by
    have : (x = (cell % 4294967296 + 1) % 4294967296) := by rw [← hx, he]; omega
    simpa using this
  clear he
  have hq := fun W => refCell_any n 2 i W (by decide)
  have hg := fun W rs (H : Has S0 w0 W (.row p g cap L :: rs)) => rdo_has H ⟨1, cellP n 2 i, 0, 0, 0⟩ (by simp) (by simp)
  generalize doA L ⟨1, cellP n 2 i, 0, 0, 0⟩ = R at *
  generalize cellP n 2 i = q at *
  obtain ⟨⟨rk, rc, rx, ry, ro⟩, rok, L2⟩ := R
  simp only [Wk.cells, Wk.zero, Acc.cells, Acc.zero] at *
  subst hb
  try have hne2 := hne2 _ rfl
  try have he2 := he2 _ rfl
  have HG := Lib.hid hg
  have HH := Lib.hid H
  have HQ := Lib.hid hq
  clear hg H hq
  go_enter Try.func62, Try.ntmps62
  go_wp2_with fail
  refine (HQ.out _).mono ?_
  rintro e w' ⟨rfl, rfl⟩
  go_wp2_with fail
  refine (HQ.out _).mono ?_
  rintro e w' ⟨rfl, rfl⟩
  go_wp2_with fail
  refine (HG.out _ _ HH.out.al4).mono ?_
  rintro e w2 ⟨rfl, H2⟩
  obtain ⟨x0, x1, x2⟩ := (H2.at_ 1 rfl).own
  obtain ⟨k0, k1, k2⟩ := (H2.at_ 4 rfl).own
  obtain ⟨y0, y1, y2⟩ := (H2.at_ 2 rfl).own
  obtain ⟨z0, z1, z2⟩ := (H2.at_ 3 rfl).own
  go_wp2_with fail
  refine wp_from (Facts := fun W => Has S0 w0 W (.row p g cap L2 :: .blk (w.heap.size + 3) #[.int .i64 rk, .int .i64 rc, .int .u32 rx, .int .u32 ry, .int .u32 ro] :: .blk (w.heap.size + 2) #[.int .i64 0, .int .i64 0, .int .u32 0, .int .u32 0, .int .u32 0] :: .blk (w.heap.size + 1) #[.bool false, .int .i64 0, .int .i64 0, .bool false] :: .blk w.heap.size #[.bool true, .int .i64 cell, .int .i64 i, .bool true] :: rs)) ?_ (((((((H2.set1 0 _).set1 1 _).set1 2 _).set1 3 _).set1 4 _).set4 3 _))
  clear x0 x1 x2 y0 y1 y2 z0 z1 z2 k0 k1 k2 H2
  intro W HW
  obtain ⟨x0, x1, x2⟩ := (HW.at_ 1 rfl).own
  obtain ⟨y0, y1, y2⟩ := (HW.at_ 2 rfl).own
  obtain ⟨z0, z1, z2⟩ := (HW.at_ 3 rfl).own
  obtain ⟨k0, k1, k2⟩ := (HW.at_ 4 rfl).own
  go_region
  all_goals go_wp2
  refine bodyPost_ret (v := .tuple #[.agg #[.bool true, .int .i64 cell, .int .i64 i, .bool true], .agg #[.int .i64 rk, .int .i64 rc, .int .u32 rx, .int .u32 ry, .int .u32 ro]]) (by simp [results, Try.results62, go_sem, x0, x1, x2, y0, y1, y2, z0, z1, z2]) rfl ⟨rfl, ?_⟩
  exact HW.done4 (by repeat (first | with_reducible exact Touch.refl _ _ | with_reducible apply Touch.drew | with_reducible apply Touch.alloc | with_reducible refine Touch.set ?_ (by simp) _))

end Go.Proofs.Ytlndihdlodempaa.Z
