/- Package wake: a step of a wake-up. -/
import Derived.Test.YtlndihdlodempaaZHas2
import Derived.Test.YtlndihdlodempaaZFlat3
import Derived.Test.YtlndihdlodempaaZWait2
import Derived.Deep.RegionHeld3
import Derived.Deep.DrawnRows
import Derived.Outline
set_option linter.unusedVariables false
set_option linter.unusedSimpArgs false
namespace Go.Proofs.Ytlndihdlodempaa.Z
open Go.RowKit
attribute [local go_sem ↓] Go.wp_at_zero Go.wp_at_succ

/-- How far a wake-up is. -/
structure Wk where
  on : Bool
  cell : Int
  i : Int
  hit : Bool
deriving DecidableEq

def Wk.zero : Wk := ⟨false, 0, 0, false⟩
def Wk.cells (k : Wk) : Array Value := #[.bool k.on, .int .i64 k.cell, .int .i64 k.i, .bool k.hit]

def nextA (n : Int) (k : Wk) : Wk := if n ≤ k.i + 1 then Wk.zero else ⟨k.on, k.cell, k.i + 1, false⟩

/-- What a step of a wake-up does and tells. -/
def wakeA (L : List Int) (n : Int) (k : Wk) : Wk × Acc × List Int :=
  if k.on then
    if k.hit then (if (giveA L n k.i).2.1 then (nextA n k, (giveA L n k.i).1, (giveA L n k.i).2.2) else (Wk.zero, Acc.zero, L))
    else if (doA L ⟨1, cellP n 2 k.i, 0, 0, 0⟩).2.1 then
      (if (doA L ⟨1, cellP n 2 k.i, 0, 0, 0⟩).1.old = (k.cell + 1) % 4294967296 then ⟨k.on, k.cell, k.i, true⟩ else nextA n k, (doA L ⟨1, cellP n 2 k.i, 0, 0, 0⟩).1, L)
    else (Wk.zero, Acc.zero, L)
  else (Wk.zero, Acc.zero, L)

/-- How a wake-up begins. -/
def beginA (mode c : Int) : Wk := if mode = 2 then ⟨true, c, 0, false⟩ else Wk.zero

theorem cellP_task {n row i : Int} (h : 0 ≤ cellP n row i) : 0 ≤ i ∧ i < 64 := by
  unfold cellP at h
  split at h <;> omega

theorem doA_ok_cell {L : List Int} {b : Acc} (h : (doA L b).2.1 = true) : 0 ≤ b.cell ∧ b.cell < L.length := by
  unfold doA at h
  split at h
  · assumption
  · simp at h

theorem doA_no {L : List Int} {b : Acc} (h : (doA L b).2.1 = false) : doA L b = (Acc.zero, false, L) := by
  unfold doA at h ⊢
  split
  · rename_i hc
    rw [if_pos hc] at h
    dsimp only at h ⊢
    split
    · rename_i h1; rw [if_pos h1] at h; simp at h
    · rename_i h1; rw [if_neg h1] at h
      split
      · rename_i h3; rw [if_pos h3] at h; simp at h
      · rename_i h3; rw [if_neg h3] at h
        split
        · rename_i h5; rw [if_pos h5] at h; simp at h
        · rename_i h5; rw [if_neg h5] at h
          split
          · rename_i h24; rw [if_pos h24] at h; simp at h
          · rfl
  · rfl

theorem begin_any (mode c : Int) (w : World) : Calls Try.prog 123 #[.int .i64 mode, .int .i64 c] w fun e w' => e = .returned (.agg (beginA mode c).cells) ∧ Touch [] w w' := by
  by_cases h : mode = 2
  · subst h
    simp only [beginA, if_true, Wk.cells]
    go_enter Try.func123, Try.ntmps123
    go_wp2
    refine bodyPost_ret (v := .agg #[.bool true, .int .i64 c, .int .i64 0, .bool false]) (by simp [results, Try.results123, go_sem]) rfl ⟨rfl, ?_⟩
    repeat (first | with_reducible exact Touch.refl _ _ | with_reducible apply Touch.alloc | with_reducible refine Touch.setNew ?_ (by simp) _)
  · rw [show beginA mode c = Wk.zero from if_neg h]
    have h' : (mode != 2) = true := by simpa using h
    clear h
    simp only [Wk.cells, Wk.zero]
    go_enter Try.func123, Try.ntmps123
    go_wp2
    refine bodyPost_ret (v := .agg #[.bool false, .int .i64 0, .int .i64 0, .bool false]) (by simp [results, Try.results123, go_sem]) rfl ⟨rfl, ?_⟩
    repeat (first | with_reducible exact Touch.refl _ _ | with_reducible apply Touch.alloc | with_reducible refine Touch.setNew ?_ (by simp) _)

theorem wnext_any (n : Int) (k : Wk) (w : World) (hi : 0 ≤ k.i ∧ k.i < 64) :
    Calls Try.prog 126 #[.agg #[.int .i64 n], .agg k.cells] w fun e w' => e = .returned (.agg (nextA n k).cells) ∧ Touch [] w w' := by
  obtain ⟨on, cell, i, hit⟩ := k
  obtain ⟨i0, i1⟩ := hi
  simp only at i0 i1
  by_cases h : n ≤ i + 1
  · rw [show nextA n ⟨on, cell, i, hit⟩ = Wk.zero from if_pos h]
    simp only [Wk.cells, Wk.zero]
    go_enter Try.func126, Try.ntmps126
    go_wp2
    refine bodyPost_ret (v := .agg #[.bool false, .int .i64 0, .int .i64 0, .bool false]) (by simp [results, Try.results126, go_sem]) rfl ⟨rfl, ?_⟩
    repeat (first | with_reducible exact Touch.refl _ _ | with_reducible apply Touch.alloc | with_reducible refine Touch.setNew ?_ (by simp) _)
  · rw [show nextA n ⟨on, cell, i, hit⟩ = ⟨on, cell, i + 1, false⟩ from if_neg h]
    simp only [Wk.cells]
    go_enter Try.func126, Try.ntmps126
    go_wp2
    refine bodyPost_ret (v := .agg #[.bool on, .int .i64 cell, .int .i64 (i + 1), .bool false]) (by simp [results, Try.results126, go_sem]) rfl ⟨rfl, ?_⟩
    repeat (first | with_reducible exact Touch.refl _ _ | with_reducible apply Touch.alloc | with_reducible refine Touch.setNew ?_ (by simp) _)

theorem give_has {S0 : List Nat} {w0 w : World} {m a : Nat} {L : List Int} {rs : List Res} (H : Has S0 w0 w (.mem m a L :: rs)) (n i : Int) (hn : I64 n) :
    Calls Try.prog 125 #[.pointer (some ⟨m, 0, none⟩), .agg #[.int .i64 n], .int .i64 i] w
      fun e w' => e = .returned (.tuple #[.agg (giveA L n i).1.cells, .bool (giveA L n i).2.1]) ∧ Has S0 w0 w' (.mem m a (giveA L n i).2.2 :: rs) :=
  (give_any H.mem n i hn).mono fun e w' ⟨he, hM, t⟩ => ⟨he, H.words hM (doA_length _ _) t⟩

theorem do_has {S0 : List Nat} {w0 w : World} {m a : Nat} {L : List Int} {rs : List Res} (H : Has S0 w0 w (.mem m a L :: rs)) (b : Acc) (hx : 0 ≤ b.x ∧ b.x < 4294967296) (hy : 0 ≤ b.y ∧ b.y < 4294967296) :
    Calls Try.prog 124 #[.pointer (some ⟨m, 0, none⟩), .agg b.cells] w
      fun e w' => e = .returned (.tuple #[.agg (doA L b).1.cells, .bool (doA L b).2.1]) ∧ Has S0 w0 w' (.mem m a (doA L b).2.2 :: rs) :=
  (do_any H.mem b hx hy).mono fun e w' ⟨he, hM, t⟩ => ⟨he, H.words hM (doA_length _ _) t⟩

theorem doload_has {S0 : List Nat} {w0 w : World} {m a : Nat} {L : List Int} {rs : List Res} (H : Has S0 w0 w (.mem m a L :: rs)) (c : Int) :
    Calls Try.prog 124 #[.pointer (some ⟨m, 0, none⟩), .agg #[.int .i64 1, .int .i64 c, .int .u32 0, .int .u32 0, .int .u32 0]] w
      fun e w' => e = .returned (.tuple #[.agg (doA L ⟨1, c, 0, 0, 0⟩).1.cells, .bool (doA L ⟨1, c, 0, 0, 0⟩).2.1]) ∧ Has S0 w0 w' (.mem m a L :: rs) :=
  (doload_any H.mem c).mono fun e w' ⟨he, t⟩ => ⟨he, H.grow t⟩

/-- The boxes with which a step begins. -/
def boxes (w : World) (n : Int) (k : Wk) (rs : List Res) : List Res :=
  .blk (w.heap.size + 4) Wk.zero.cells :: .blk (w.heap.size + 3) Acc.zero.cells :: .blk (w.heap.size + 2) Wk.zero.cells :: .blk (w.heap.size + 1) k.cells :: .blk w.heap.size #[.int .i64 n] :: rs

set_option maxHeartbeats 1600000 in
set_option maxRecDepth 100000 in
theorem wake_off {S0 : List Nat} {w0 w : World} {rs : List Res} (H : Has S0 w0 w rs) (mm : Value) (n cell i : Int) (hit : Bool) :
    Calls Try.prog 52 #[mm, .agg #[.int .i64 n], .agg (Wk.mk false cell i hit).cells] w
      fun e w' => e = .returned (.tuple #[.agg Wk.zero.cells, .agg Acc.zero.cells]) ∧ Has S0 w0 w' rs := by
  simp only [Wk.cells, Wk.zero, Acc.zero, Acc.cells]
  go_enter Try.func52, Try.ntmps52
  go_wp2
  refine bodyPost_ret (v := .tuple #[.agg #[.bool false, .int .i64 0, .int .i64 0, .bool false], .agg #[.int .i64 0, .int .i64 0, .int .u32 0, .int .u32 0, .int .u32 0]]) (by simp [results, Try.results52, go_sem]) rfl ⟨rfl, H.grow ?_⟩
  repeat (first | with_reducible exact Touch.refl _ _ | with_reducible apply Touch.alloc | with_reducible refine Touch.setNew ?_ (by simp) _)

set_option maxHeartbeats 1600000 in
set_option maxRecDepth 100000 in
theorem wake_hit_no {S0 : List Nat} {w0 w : World} {m a : Nat} {L : List Int} {rs : List Res} (H : Has S0 w0 w (.mem m a L :: rs)) (n cell i : Int) (hn : I64 n) (hb : (giveA L n i).2.1 = false) :
    Calls Try.prog 52 #[.pointer (some ⟨m, 0, none⟩), .agg #[.int .i64 n], .agg (Wk.mk true cell i true).cells] w
      fun e w' => e = .returned (.tuple #[.agg Wk.zero.cells, .agg Acc.zero.cells]) ∧ Has S0 w0 w' (.mem m a L :: rs) := by
  have hg := fun W rs (H : Has S0 w0 W (.mem m a L :: rs)) => give_has H n i hn
  rw [show giveA L n i = (Acc.zero, false, L) from doA_no hb] at hg
  have HG := Lib.hid hg
  have HH := Lib.hid H
  clear hg hb hn H
  simp only [Wk.cells, Wk.zero, Acc.zero, Acc.cells]
  go_enter Try.func52, Try.ntmps52
  go_wp2_with fail
  refine (HG.out _ _ HH.out.al5).mono ?_
  rintro e w1 ⟨rfl, H1⟩
  obtain ⟨x0, x1, x2⟩ := H1.blk1.own
  obtain ⟨y0, y1, y2⟩ := H1.blk2.own
  obtain ⟨z0, z1, z2⟩ := H1.blk3.own
  simp only [Acc.cells, Acc.zero]
  go_wp2_with fail
  refine bodyPost_ret (v := .tuple #[.agg #[.bool false, .int .i64 0, .int .i64 0, .bool false], .agg #[.int .i64 0, .int .i64 0, .int .u32 0, .int .u32 0, .int .u32 0]]) (by simp [results, Try.results52, go_sem, y0, y1, y2, z0, z1, z2]) rfl ⟨rfl, ?_⟩
  exact H1.done5 (by repeat (first | with_reducible exact Touch.refl _ _ | with_reducible apply Touch.alloc | with_reducible refine Touch.set ?_ (by simp) _))

/-- What a step keeps while its answers are written. -/
def WKeep (S0 : List Nat) (w0 : World) (m a : Nat) (L : List Int) (g : Nat) (ga : Array Value) (b : Nat) (gn gk : Array Value) (rs : List Res) (w' : World) : Prop :=
  ∃ c2 c3 : Array Value, c2.size = 4 ∧ c3.size = 5 ∧ Has S0 w0 w' (.mem m a L :: .blk g ga :: .blk (b + 4) #[.bool false, .int .i64 0, .int .i64 0, .bool false] :: .blk (b + 3) c3 :: .blk (b + 2) c2 :: .blk (b + 1) gk :: .blk b gn :: rs)

theorem WKeep.set2 {S0 : List Nat} {w0 : World} {m a : Nat} {L : List Int} {g : Nat} {ga : Array Value} {b : Nat} {gn gk : Array Value} {rs : List Res} {w' : World} (h : WKeep S0 w0 m a L g ga b gn gk rs w') (i : Nat) (v : Value) : WKeep S0 w0 m a L g ga b gn gk rs (w'.setCell ⟨b + 1 + 1, i, none⟩ v) := by
  obtain ⟨c2, c3, e2, e3, H⟩ := h
  exact ⟨c2.setIfInBounds i v, c3, by simpa using e2, e3, ((H.perm (perm_past4 _ _ _ _ [_] _).symm).set i v).perm (perm_past4 _ _ _ _ [_] _)⟩

theorem WKeep.set3 {S0 : List Nat} {w0 : World} {m a : Nat} {L : List Int} {g : Nat} {ga : Array Value} {b : Nat} {gn gk : Array Value} {rs : List Res} {w' : World} (h : WKeep S0 w0 m a L g ga b gn gk rs w') (i : Nat) (v : Value) : WKeep S0 w0 m a L g ga b gn gk rs (w'.setCell ⟨b + 1 + 1 + 1, i, none⟩ v) := by
  obtain ⟨c2, c3, e2, e3, H⟩ := h
  exact ⟨c2, c3.setIfInBounds i v, e2, by simpa using e3, H.set3 i v⟩

/-- What the walk reads then. -/
abbrev WFacts (g : Nat) (ga : Array Value) (b : Nat) (gn gk : Array Value) (w' : World) : Prop :=
  (∀ i, w'.cell? ⟨g, i, none⟩ = ga[i]?) ∧ (∀ i, w'.cell? ⟨b + 1, i, none⟩ = gk[i]?) ∧ (∀ i, w'.cell? ⟨b, i, none⟩ = gn[i]?) ∧
  (∀ i, w'.frozen? ⟨b + 1 + 1, i, none⟩ = false) ∧ (∀ i, w'.frozen? ⟨b + 1 + 1 + 1, i, none⟩ = false) ∧
  (∀ i, i < 4 → w'.cell? ⟨b + 1 + 1, i, none⟩ = some (cellD w' (b + 2) i)) ∧ (∀ i, i < 5 → w'.cell? ⟨b + 1 + 1 + 1, i, none⟩ = some (cellD w' (b + 3) i))

theorem wkeep_facts {S0 : List Nat} {w0 : World} {m a : Nat} {L : List Int} {g : Nat} {ga : Array Value} {b : Nat} {gn gk : Array Value} {rs : List Res} {w' : World} (h : WKeep S0 w0 m a L g ga b gn gk rs w') :
    WKeep S0 w0 m a L g ga b gn gk rs w' ∧ WFacts g ga b gn gk w' := by
  refine ⟨h, ?_⟩
  obtain ⟨c2, c3, e2, e3, H⟩ := h
  exact ⟨H.blk1.cell, H.blk5.cell, (H.at_ 6 rfl).cell, H.blk4.free, H.blk3.free, fun i hi => cellD_is H.blk4 (by omega), fun i hi => cellD_is H.blk3 (by omega)⟩

theorem WKeep.grow {S0 : List Nat} {w0 : World} {m a : Nat} {L : List Int} {g : Nat} {ga : Array Value} {b : Nat} {gn gk : Array Value} {rs : List Res} {w' w'' : World} (h : WKeep S0 w0 m a L g ga b gn gk rs w') (t : Touch [] w' w'') : WKeep S0 w0 m a L g ga b gn gk rs w'' := by
  obtain ⟨c2, c3, e2, e3, H⟩ := h
  exact ⟨c2, c3, e2, e3, H.grow t⟩

set_option maxHeartbeats 1600000 in
set_option maxRecDepth 100000 in
theorem wake_hit {S0 : List Nat} {w0 w : World} {m a : Nat} {L : List Int} {rs : List Res} (H : Has S0 w0 w (.mem m a L :: rs)) (n cell i : Int) (hn : I64 n) (hb : (giveA L n i).2.1 = true) :
    Calls Try.prog 52 #[.pointer (some ⟨m, 0, none⟩), .agg #[.int .i64 n], .agg (Wk.mk true cell i true).cells] w
      fun e w' => e = .returned (.tuple #[.agg (nextA n (Wk.mk true cell i true)).cells, .agg (giveA L n i).1.cells]) ∧ Has S0 w0 w' (.mem m a (giveA L n i).2.2 :: rs) := by
  have hi : 0 ≤ i ∧ i < 64 := cellP_task (doA_ok_cell hb).1
  have hg := fun W rs (H : Has S0 w0 W (.mem m a L :: rs)) => give_has H n i hn
  have hx := fun W => wnext_any n (Wk.mk true cell i true) W hi
  rw [hb] at hg
  generalize (giveA L n i).1 = r at hg ⊢
  generalize (giveA L n i).2.2 = L2 at hg ⊢
  generalize nextA n (Wk.mk true cell i true) = k2 at hx ⊢
  obtain ⟨rk, rc, rx, ry, ro⟩ := r
  obtain ⟨o2, c2, i2, h2⟩ := k2
  simp only [Wk.cells, Wk.zero, Acc.zero, Acc.cells] at hg hx ⊢
  have HG := Lib.hid hg
  have HX := Lib.hid hx
  have HH := Lib.hid H
  clear hg hb hn H hi hx
  go_enter Try.func52, Try.ntmps52
  go_wp2_with fail
  refine (HG.out _ _ HH.out.al5).mono ?_
  rintro e w1 ⟨rfl, H1⟩
  go_wp2_with fail
  refine wp_from (Facts := fun W => Has S0 w0 W (.mem m a L2 :: .blk w1.heap.size #[.int .i64 rk, .int .i64 rc, .int .u32 rx, .int .u32 ry, .int .u32 ro] :: .blk (w.heap.size + 4) #[.bool false, .int .i64 0, .int .i64 0, .bool false] :: .blk (w.heap.size + 3) #[.int .i64 0, .int .i64 0, .int .u32 0, .int .u32 0, .int .u32 0] :: .blk (w.heap.size + 2) #[.bool false, .int .i64 0, .int .i64 0, .bool false] :: .blk (w.heap.size + 1) #[.bool true, .int .i64 cell, .int .i64 i, .bool true] :: .blk w.heap.size #[.int .i64 n] :: rs)) ?_ H1.al1
  intro W HW
  obtain ⟨a0, a1, a2⟩ := HW.blk1.own
  obtain ⟨y0, y1, y2⟩ := HW.blk3.own
  obtain ⟨z0, z1, z2⟩ := HW.blk4.own
  obtain ⟨k0, k1, k2⟩ := HW.blk5.own
  obtain ⟨n0, n1, n2⟩ := (HW.at_ 6 rfl).own
  clear a0 a1 a2 y0 y1 y2 z0 z1 z2 k0 k1 k2 n0 n1 n2
  have hkeep : WKeep S0 w0 m a L2 w1.heap.size #[.int .i64 rk, .int .i64 rc, .int .u32 rx, .int .u32 ry, .int .u32 ro] w.heap.size #[.int .i64 n] #[.bool true, .int .i64 cell, .int .i64 i, .bool true] rs W := ⟨_, _, rfl, rfl, HW⟩
  generalize w1.heap.size = g at hkeep ⊢
  have hdrew := hkeep.grow ((Touch.refl [] W).drew)
  have HC := Lib.hid (fun w' (t : WKeep S0 w0 m a L2 g #[.int .i64 rk, .int .i64 rc, .int .u32 rx, .int .u32 ry, .int .u32 ro] w.heap.size #[.int .i64 n] #[.bool true, .int .i64 cell, .int .i64 i, .bool true] rs w') => (HX.out w').mono (R' := fun e w'' => e = .returned (.agg #[.bool o2, .int .i64 c2, .int .i64 i2, .bool h2]) ∧ WKeep S0 w0 m a L2 g #[.int .i64 rk, .int .i64 rc, .int .u32 rx, .int .u32 ry, .int .u32 ro] w.heap.size #[.int .i64 n] #[.bool true, .int .i64 cell, .int .i64 i, .bool true] rs w'') (fun e w'' h => ⟨h.1, t.grow h.2⟩))
  go_region_held3 (fun w' => WKeep S0 w0 m a L2 g #[.int .i64 rk, .int .i64 rc, .int .u32 rx, .int .u32 ry, .int .u32 ro] w.heap.size #[.int .i64 n] #[.bool true, .int .i64 cell, .int .i64 i, .bool true] rs w' ∧ WFacts g #[.int .i64 rk, .int .i64 rc, .int .u32 rx, .int .u32 ry, .int .u32 ro] w.heap.size #[.int .i64 n] #[.bool true, .int .i64 cell, .int .i64 i, .bool true] w')
    (first | (go_split_ands; refine wkeep_facts ?_; first | with_reducible assumption | with_reducible exact hdrew | (repeat (first | with_reducible assumption | with_reducible apply WKeep.set2 | with_reducible apply WKeep.set3))))
    (first | (go_at_call 126; refine (HC.out _ (by go_split_ands; first | with_reducible assumption | with_reducible exact hdrew)).mono ?_; rintro e w5 ⟨rfl, t5⟩))
  all_goals
    obtain ⟨d2, d3, e2, e3, H5⟩ := t5
    refine ‹∀ (a : Act) (w : World), Code.wp _ _ _ a w → _› _ _ ?_
    refine wp_from (Facts := fun W => Has S0 w0 W (.mem m a L2 :: .blk g #[.int .i64 rk, .int .i64 rc, .int .u32 rx, .int .u32 ry, .int .u32 ro] :: .blk (w.heap.size + 4) #[.bool false, .int .i64 0, .int .i64 0, .bool false] :: .blk (w.heap.size + 3) #[.int .i64 rk, .int .i64 rc, .int .u32 rx, .int .u32 ry, .int .u32 ro] :: .blk (w.heap.size + 2) #[.bool o2, .int .i64 c2, .int .i64 i2, .bool h2] :: .blk (w.heap.size + 1) #[.bool true, .int .i64 cell, .int .i64 i, .bool true] :: .blk w.heap.size #[.int .i64 n] :: rs)) ?_
      (by
        have H6 := (((((((((H5.set4 0 (.bool o2)).set4 1 (.int .i64 c2)).set4 2 (.int .i64 i2)).set4 3 (.bool h2)).set3 0 (.int .i64 rk)).set3 1 (.int .i64 rc)).set3 2 (.int .u32 rx)).set3 3 (.int .u32 ry)).set3 4 (.int .u32 ro))
        rw [set_all4 e2, set_all5 e3] at H6
        exact H6)
    intro W' HW'
    obtain ⟨y0, y1, y2⟩ := HW'.blk3.own
    obtain ⟨z0, z1, z2⟩ := HW'.blk4.own
    go_wp2_with fail
    refine bodyPost_ret (v := .tuple #[.agg #[.bool o2, .int .i64 c2, .int .i64 i2, .bool h2], .agg #[.int .i64 rk, .int .i64 rc, .int .u32 rx, .int .u32 ry, .int .u32 ro]]) (by simp [results, Try.results52, go_sem, y0, y1, y2, z0, z1, z2]) rfl ⟨rfl, ?_⟩
    exact HW'.done6 (Touch.refl _ _)

set_option maxHeartbeats 1600000 in
set_option maxRecDepth 100000 in
theorem wake_look_no {S0 : List Nat} {w0 w : World} {m a : Nat} {L : List Int} {rs : List Res} (H : Has S0 w0 w (.mem m a L :: rs)) (n cell i : Int) (hn : I64 n) (hb : (doA L ⟨1, cellP n 2 i, 0, 0, 0⟩).2.1 = false) :
    Calls Try.prog 52 #[.pointer (some ⟨m, 0, none⟩), .agg #[.int .i64 n], .agg (Wk.mk true cell i false).cells] w
      fun e w' => e = .returned (.tuple #[.agg Wk.zero.cells, .agg (doA L ⟨1, cellP n 2 i, 0, 0, 0⟩).1.cells]) ∧ Has S0 w0 w' (.mem m a L :: rs) := by
  have hg := fun W rs (H : Has S0 w0 W (.mem m a L :: rs)) => doload_has H (cellP n 2 i)
  generalize doA L ⟨1, cellP n 2 i, 0, 0, 0⟩ = R at hg hb ⊢
  obtain ⟨⟨rk, rc, rx, ry, ro⟩, rok, L2⟩ := R
  simp only [Wk.cells, Wk.zero, Acc.cells] at hg ⊢
  simp only at hb
  subst hb
  have HG := Lib.hid hg
  have HH := Lib.hid H
  have HN := Lib.hid hn
  clear hg H hn
  go_enter Try.func52, Try.ntmps52
  go_wp2_with fail
  refine (mapWatch n i _ HN.out).mono ?_
  rintro e w1 ⟨rfl, t1⟩
  have H1 := HH.out.al5.grow t1
  obtain ⟨k0, k1, k2⟩ := (H1.at_ 4 rfl).own
  go_wp2_with fail
  refine (HG.out _ _ H1).mono ?_
  rintro e w2 ⟨rfl, H2⟩
  clear k0 k1 k2 H1 t1
  have H3 := H2.al1 (c0 := #[.int .i64 rk, .int .i64 rc, .int .u32 rx, .int .u32 ry, .int .u32 ro]) (t0 := 40)
  obtain ⟨k0, k1, k2⟩ := (H2.at_ 4 rfl).own
  obtain ⟨n0, n1, n2⟩ := (H2.at_ 5 rfl).own
  obtain ⟨z0, z1, z2⟩ := (H2.at_ 1 rfl).own
  go_wp2_with fail
  clear H3
  generalize hG : w2.heap.size = G
  refine wp_from (Facts := fun W => Has S0 w0 W (.mem m a L :: .blk G #[.int .i64 rk, .int .i64 rc, .int .u32 rx, .int .u32 ry, .int .u32 ro] :: .blk (w.heap.size + 4) #[.bool false, .int .i64 0, .int .i64 0, .bool false] :: .blk (w.heap.size + 3) #[.int .i64 0, .int .i64 0, .int .u32 0, .int .u32 0, .int .u32 0] :: .blk (w.heap.size + 2) #[.bool false, .int .i64 0, .int .i64 0, .bool false] :: .blk (w.heap.size + 1) #[.bool false, .int .i64 0, .int .i64 0, .bool false] :: .blk w.heap.size #[.int .i64 n] :: rs)) ?_ (((((H2.set4 0 _).set4 1 _).set4 2 _).set4 3 _).al (by simp [hG]) _ _)
  clear k0 k1 k2 n0 n1 n2 z0 z1 z2 H2 hG
  intro W HW
  obtain ⟨x0, x1, x2⟩ := (HW.at_ 3 rfl).own
  obtain ⟨y0, y1, y2⟩ := (HW.at_ 4 rfl).own
  obtain ⟨k0, k1, k2⟩ := (HW.at_ 5 rfl).own
  obtain ⟨a0, a1, a2⟩ := (HW.at_ 1 rfl).own
  have g2 : G ≠ w.heap.size + 1 + 1 := HW.ne_at 1 4 rfl rfl (by decide)
  have g3 : G ≠ w.heap.size + 1 + 1 + 1 := HW.ne_at 1 3 rfl rfl (by decide)
  go_region
  all_goals go_wp2
  refine bodyPost_ret (v := .tuple #[.agg #[.bool false, .int .i64 0, .int .i64 0, .bool false], .agg #[.int .i64 rk, .int .i64 rc, .int .u32 rx, .int .u32 ry, .int .u32 ro]]) (by simp [results, Try.results52, go_sem, y0, y1, y2, x0, x1, x2]) rfl ⟨rfl, ?_⟩
  exact HW.done6 (by repeat (first | with_reducible exact Touch.refl _ _ | with_reducible apply Touch.drew | with_reducible apply Touch.alloc | with_reducible refine Touch.set ?_ (by simp) _))

set_option maxHeartbeats 1600000 in
set_option maxRecDepth 100000 in
theorem wake_look_is {S0 : List Nat} {w0 w : World} {m a : Nat} {L : List Int} {rs : List Res} (H : Has S0 w0 w (.mem m a L :: rs)) (n cell i : Int) (hn : I64 n) (hb : (doA L ⟨1, cellP n 2 i, 0, 0, 0⟩).2.1 = true) (he : (doA L ⟨1, cellP n 2 i, 0, 0, 0⟩).1.old = (cell + 1) % 4294967296) :
    Calls Try.prog 52 #[.pointer (some ⟨m, 0, none⟩), .agg #[.int .i64 n], .agg (Wk.mk true cell i false).cells] w
      fun e w' => e = .returned (.tuple #[.agg (Wk.mk true cell i true).cells, .agg (doA L ⟨1, cellP n 2 i, 0, 0, 0⟩).1.cells]) ∧ Has S0 w0 w' (.mem m a L :: rs) := by
  have hg := fun W rs (H : Has S0 w0 W (.mem m a L :: rs)) => doload_has H (cellP n 2 i)
  generalize doA L ⟨1, cellP n 2 i, 0, 0, 0⟩ = R at hg hb he ⊢
  obtain ⟨⟨rk, rc, rx, ry, ro⟩, rok, L2⟩ := R
  simp only [Wk.cells, Wk.zero, Acc.cells] at hg ⊢
  simp only at hb he
  subst hb
  have he2 : (ro == wrap64 (cell + 1) % 4294967296) = true := by
    have : ro = wrap64 (cell + 1) % 4294967296 := by rw [he]; unfold wrap64; omega
    simpa using this
  have HG := Lib.hid hg
  have HH := Lib.hid H
  have HN := Lib.hid hn
  clear hg H hn he
  go_enter Try.func52, Try.ntmps52
  go_wp2_with fail
  refine (mapWatch n i _ HN.out).mono ?_
  rintro e w1 ⟨rfl, t1⟩
  have H1 := HH.out.al5.grow t1
  obtain ⟨k0, k1, k2⟩ := (H1.at_ 4 rfl).own
  go_wp2_with fail
  refine (HG.out _ _ H1).mono ?_
  rintro e w2 ⟨rfl, H2⟩
  clear k0 k1 k2 H1 t1
  have H3 := H2.al1 (c0 := #[.int .i64 rk, .int .i64 rc, .int .u32 rx, .int .u32 ry, .int .u32 ro]) (t0 := 40)
  obtain ⟨k0, k1, k2⟩ := (H2.at_ 4 rfl).own
  obtain ⟨n0, n1, n2⟩ := (H2.at_ 5 rfl).own
  obtain ⟨z0, z1, z2⟩ := (H2.at_ 1 rfl).own
  go_wp2_with fail
  clear H3
  generalize hG : w2.heap.size = G
  refine wp_from (Facts := fun W => Has S0 w0 W (.mem m a L :: .blk G #[.int .i64 rk, .int .i64 rc, .int .u32 rx, .int .u32 ry, .int .u32 ro] :: .blk (w.heap.size + 4) #[.bool false, .int .i64 0, .int .i64 0, .bool false] :: .blk (w.heap.size + 3) #[.int .i64 0, .int .i64 0, .int .u32 0, .int .u32 0, .int .u32 0] :: .blk (w.heap.size + 2) #[.bool false, .int .i64 0, .int .i64 0, .bool false] :: .blk (w.heap.size + 1) #[.bool true, .int .i64 cell, .int .i64 i, .bool true] :: .blk w.heap.size #[.int .i64 n] :: rs)) ?_ ((H2.set4 3 _).al (by simp [hG]) _ _)
  clear k0 k1 k2 n0 n1 n2 z0 z1 z2 H2 hG
  intro W HW
  obtain ⟨x0, x1, x2⟩ := (HW.at_ 3 rfl).own
  obtain ⟨y0, y1, y2⟩ := (HW.at_ 4 rfl).own
  obtain ⟨k0, k1, k2⟩ := (HW.at_ 5 rfl).own
  obtain ⟨a0, a1, a2⟩ := (HW.at_ 1 rfl).own
  have g2 : G ≠ w.heap.size + 1 + 1 := HW.ne_at 1 4 rfl rfl (by decide)
  have g3 : G ≠ w.heap.size + 1 + 1 + 1 := HW.ne_at 1 3 rfl rfl (by decide)
  go_region
  all_goals go_wp2
  refine bodyPost_ret (v := .tuple #[.agg #[.bool true, .int .i64 cell, .int .i64 i, .bool true], .agg #[.int .i64 rk, .int .i64 rc, .int .u32 rx, .int .u32 ry, .int .u32 ro]]) (by simp [results, Try.results52, go_sem, y0, y1, y2, x0, x1, x2]) rfl ⟨rfl, ?_⟩
  exact HW.done6 (by repeat (first | with_reducible exact Touch.refl _ _ | with_reducible apply Touch.drew | with_reducible apply Touch.alloc | with_reducible refine Touch.set ?_ (by simp) _))

set_option maxHeartbeats 1600000 in
set_option maxRecDepth 100000 in
theorem wake_look_next {S0 : List Nat} {w0 w : World} {m a : Nat} {L : List Int} {rs : List Res} (H : Has S0 w0 w (.mem m a L :: rs)) (n cell i : Int) (hn : I64 n) (hb : (doA L ⟨1, cellP n 2 i, 0, 0, 0⟩).2.1 = true) (he : (doA L ⟨1, cellP n 2 i, 0, 0, 0⟩).1.old ≠ (cell + 1) % 4294967296) :
    Calls Try.prog 52 #[.pointer (some ⟨m, 0, none⟩), .agg #[.int .i64 n], .agg (Wk.mk true cell i false).cells] w
      fun e w' => e = .returned (.tuple #[.agg (nextA n (Wk.mk true cell i false)).cells, .agg (doA L ⟨1, cellP n 2 i, 0, 0, 0⟩).1.cells]) ∧ Has S0 w0 w' (.mem m a L :: rs) := by
  have hg := fun W rs (H : Has S0 w0 W (.mem m a L :: rs)) => doload_has H (cellP n 2 i)
  have hi : 0 ≤ i ∧ i < 64 := cellP_task (doA_ok_cell hb).1
  have hx := fun W => wnext_any n (Wk.mk true cell i false) W hi
  generalize nextA n (Wk.mk true cell i false) = k2 at hx ⊢
  obtain ⟨o2, c2, i2, h2⟩ := k2
  generalize doA L ⟨1, cellP n 2 i, 0, 0, 0⟩ = R at hg hb he ⊢
  obtain ⟨⟨rk, rc, rx, ry, ro⟩, rok, L2⟩ := R
  simp only [Wk.cells, Wk.zero, Acc.cells] at hg hx ⊢
  simp only at hb he
  subst hb
  have he2 : (ro == wrap64 (cell + 1) % 4294967296) = false := by
    have : ¬ (ro = wrap64 (cell + 1) % 4294967296) := fun h => he (by rw [h]; unfold wrap64; omega)
    simpa using this
  have HX := Lib.hid hx
  have HG := Lib.hid hg
  have HH := Lib.hid H
  have HN := Lib.hid hn
  clear hg H hn he hx hi
  go_enter Try.func52, Try.ntmps52
  go_wp2_with fail
  refine (mapWatch n i _ HN.out).mono ?_
  rintro e w1 ⟨rfl, t1⟩
  have H1 := HH.out.al5.grow t1
  obtain ⟨k0, k1, k2⟩ := (H1.at_ 4 rfl).own
  go_wp2_with fail
  refine (HG.out _ _ H1).mono ?_
  rintro e w2 ⟨rfl, H2⟩
  clear k0 k1 k2 H1 t1
  have H3 := H2.al1 (c0 := #[.int .i64 rk, .int .i64 rc, .int .u32 rx, .int .u32 ry, .int .u32 ro]) (t0 := 40)
  obtain ⟨k0, k1, k2⟩ := (H2.at_ 4 rfl).own
  obtain ⟨n0, n1, n2⟩ := (H2.at_ 5 rfl).own
  obtain ⟨z0, z1, z2⟩ := (H2.at_ 1 rfl).own
  go_wp2_with fail
  refine (HX.out _).mono ?_
  rintro e w3 ⟨rfl, t3⟩
  have H4 := H3.grow t3
  clear k0 k1 k2 n0 n1 n2 z0 z1 z2 H3
  have hG0 := H2.at_ 3 rfl
  obtain ⟨k0, k1, k2⟩ := (H4.at_ 5 rfl).own
  go_wp2_with fail
  generalize hG : w2.heap.size = G at H4 ⊢
  refine wp_from (Facts := fun W => Has S0 w0 W (.mem m a L :: .blk G #[.int .i64 rk, .int .i64 rc, .int .u32 rx, .int .u32 ry, .int .u32 ro] :: .blk (w.heap.size + 4) #[.bool false, .int .i64 0, .int .i64 0, .bool false] :: .blk (w.heap.size + 3) #[.int .i64 0, .int .i64 0, .int .u32 0, .int .u32 0, .int .u32 0] :: .blk (w.heap.size + 2) #[.bool false, .int .i64 0, .int .i64 0, .bool false] :: .blk (w.heap.size + 1) #[.bool o2, .int .i64 c2, .int .i64 i2, .bool h2] :: .blk w.heap.size #[.int .i64 n] :: rs)) ?_ ((((H4.set5 0 _).set5 1 _).set5 2 _).set5 3 _)
  clear k0 k1 k2 H2 H4 hG hG0
  intro W HW
  obtain ⟨x0, x1, x2⟩ := (HW.at_ 3 rfl).own
  obtain ⟨y0, y1, y2⟩ := (HW.at_ 4 rfl).own
  obtain ⟨k0, k1, k2⟩ := (HW.at_ 5 rfl).own
  obtain ⟨a0, a1, a2⟩ := (HW.at_ 1 rfl).own
  have g2 : G ≠ w.heap.size + 1 + 1 := HW.ne_at 1 4 rfl rfl (by decide)
  have g3 : G ≠ w.heap.size + 1 + 1 + 1 := HW.ne_at 1 3 rfl rfl (by decide)
  go_region
  all_goals go_wp2
  refine bodyPost_ret (v := .tuple #[.agg #[.bool o2, .int .i64 c2, .int .i64 i2, .bool h2], .agg #[.int .i64 rk, .int .i64 rc, .int .u32 rx, .int .u32 ry, .int .u32 ro]]) (by simp [results, Try.results52, go_sem, y0, y1, y2, x0, x1, x2]) rfl ⟨rfl, ?_⟩
  exact HW.done6 (by repeat (first | with_reducible exact Touch.refl _ _ | with_reducible apply Touch.drew | with_reducible apply Touch.alloc | with_reducible refine Touch.set ?_ (by simp) _))

/-- WHATEVER THE WAKE-UP: a step of it. -/
theorem wake_any {S0 : List Nat} {w0 w : World} {m a : Nat} {L : List Int} {rs : List Res} (H : Has S0 w0 w (.mem m a L :: rs)) (n : Int) (hn : I64 n) (k : Wk) :
    Calls Try.prog 52 #[.pointer (some ⟨m, 0, none⟩), .agg #[.int .i64 n], .agg k.cells] w
      fun e w' => e = .returned (.tuple #[.agg (wakeA L n k).1.cells, .agg (wakeA L n k).2.1.cells]) ∧ Has S0 w0 w' (.mem m a (wakeA L n k).2.2 :: rs) := by
  obtain ⟨on, cell, i, hit⟩ := k
  unfold wakeA
  cases on with
  | false => exact wake_off H _ n cell i hit
  | true =>
    cases hit with
    | true =>
      cases hb : (giveA L n i).2.1 with
      | true => simp only [hb, if_true]; exact wake_hit H n cell i hn hb
      | false => simp only [hb, if_true, Bool.false_eq_true, if_false]; exact wake_hit_no H n cell i hn hb
    | false =>
      cases hb : (doA L ⟨1, cellP n 2 i, 0, 0, 0⟩).2.1 with
      | true =>
        by_cases he : (doA L ⟨1, cellP n 2 i, 0, 0, 0⟩).1.old = (cell + 1) % 4294967296
        · simp only [hb, he, if_true, Bool.false_eq_true, if_false]; exact wake_look_is H n cell i hn hb he
        · simp only [hb, he, if_true, Bool.false_eq_true, if_false]; exact wake_look_next H n cell i hn hb he
      | false =>
        have e := doA_no hb
        have := wake_look_no H n cell i hn hb
        simp only [hb, if_true, Bool.false_eq_true, if_false]
        rw [e] at this
        exact this

end Go.Proofs.Ytlndihdlodempaa.Z
