/- The statement WakeSteps: its walk. -/
import Derived.Test.YtghiggaldkojpaaZLaw08
import Derived.Deep.RegionHeld3
import Derived.Deep.DrawnRows
import Derived.Outline
set_option linter.unusedVariables false
set_option linter.unusedSimpArgs false
namespace Go.Proofs.Ytghiggaldkojpaa.Z
open Go.RowKit
attribute [local go_sem ↓] Go.wp_at_zero Go.wp_at_succ

theorem wakeA_len (L : List Int) (n : Int) (k : Wk) : (wakeA L n k).2.2.length = L.length := by
  unfold wakeA giveA
  repeat' split
  all_goals first | rfl | exact doA_length _ _

/-- What the last region keeps. -/
def WSKeep (w : World) (m a : Nat) (p : Option Addr) (g cap : Nat) (L : List Int) (b7 b12 b13 b14 b15 : Nat) (ck c2 ca : Array Value) (w' : World) : Prop :=
  Has [] w w' (.mem m a L :: .row p g cap L :: .blk b15 ca :: .blk b14 c2 :: .blk b13 ca :: .blk b12 c2 :: .blk b7 ck :: [])

theorem wskeep {w : World} {m a : Nat} {p : Option Addr} {g cap : Nat} {L : List Int} {b7 b12 b13 b14 b15 : Nat} {ck c2 ca : Array Value} {w' : World} (h : WSKeep w m a p g cap L b7 b12 b13 b14 b15 ck c2 ca w') :
    WSKeep w m a p g cap L b7 b12 b13 b14 b15 ck c2 ca w' ∧ (∀ i, w'.cell? ⟨b7, i, none⟩ = ck[i]?) ∧ (∀ i, w'.cell? ⟨b12, i, none⟩ = c2[i]?) ∧ (∀ i, w'.cell? ⟨b14, i, none⟩ = c2[i]?) ∧ (∀ i, w'.cell? ⟨b13, i, none⟩ = ca[i]?) ∧ (∀ i, w'.cell? ⟨b15, i, none⟩ = ca[i]?) :=
  ⟨h, (Has.at_ h 6 rfl).cell, (Has.at_ h 5 rfl).cell, (Has.at_ h 3 rfl).cell, (Has.at_ h 4 rfl).cell, (Has.at_ h 2 rfl).cell⟩

/-- All words are told, and are those of the row. -/
def WSAll (w : World) (m a : Nat) (p : Option Addr) (g cap : Nat) (L : List Int) (b7 b12 b13 b14 b15 : Nat) (ck c2 ca : Array Value) (e : Ending) (w' : World) : Prop :=
  ∃ p' cap', e = .returned (.slice p' L.length cap') ∧ WSKeep w m a p g cap L b7 b12 b13 b14 b15 ck c2 ca w' ∧ Rd w' 1 p' L.length (u32s L)

theorem wsall {w : World} {m a : Nat} {p : Option Addr} {g cap : Nat} {L : List Int} {b7 b12 b13 b14 b15 : Nat} {ck c2 ca : Array Value} {w' : World} (h : WSKeep w m a p g cap L b7 b12 b13 b14 b15 ck c2 ca w') :
    Calls Try.prog 23 #[.pointer (some ⟨m, 0, none⟩)] w' (WSAll w m a p g cap L b7 b12 b13 b14 b15 ck c2 ca) :=
  (all_has h).mono fun e w'' ⟨p', g', cap', he, H⟩ => ⟨p', cap', he, H.tail, H.row.rd⟩

theorem wssame {w : World} {m a : Nat} {p : Option Addr} {g cap : Nat} {L : List Int} {b7 b12 b13 b14 b15 : Nat} {ck c2 ca : Array Value} {w' : World} (h : WSKeep w m a p g cap L b7 b12 b13 b14 b15 ck c2 ca w') {p' : Option Addr} {cap' n : Nat} (hr : Rd w' 1 p' L.length (u32s L)) (hn : L.length = n) :
    Calls Try.prog 22 #[.slice p' L.length cap', .slice p n cap] w' fun e w'' => e = .returned (.bool true) ∧ WSKeep w m a p g cap L b7 b12 b13 b14 b15 ck c2 ca w'' := by
  have := same_any (c := cap') (d := cap) w' hr ((Has.row1 h).rd' hn) (by have := (Has.row1 h).words.1; omega)
  simp only [decide_true] at this
  exact this.mono fun e w'' k => ⟨k.1, Has.grow h k.2⟩

set_option maxHeartbeats 3200000 in
set_option maxRecDepth 100000 in
theorem wakeSteps_some {A : Option Addr} {ln cp : Nat} {L : List Int} (w : World) (hr : Rd w 1 A ln (u32s L)) (hw : Words L) (n mode : Int) (k : Wk) (hn : I64 n) :
    Calls Try.prog 8 #[.slice A ln cp, .int .i64 n, .int .i64 mode, .agg k.cells] w fun e w' => e = .returned (.bool true) ∧ Touch [] w w' := by
  have hl := len_of_rd hr
  subst hl
  have h1024 := hw.1
  have i1 : ¬ ((1024 : Int) < (L.length : Int)) := by omega
  have hlen := wakeA_len L n k
  have hd := fun W m a rs (H : Has [] w W (.mem m a L :: rs)) => wake_any H n hn k
  have hrd := fun W p g cap rs (H : Has [] w W (.row p g cap L :: rs)) => rwake_any H n k
  have hb := fun W => begin_any mode k.cell W
  have hrb := fun W => rbegin_any mode k.cell W
  generalize beginA mode k.cell = kb at hb hrb
  generalize wakeA L n k = R at hd hrd hlen
  obtain ⟨⟨o2, c2, i2, h2⟩, ⟨rk, rc, rx, ry, ro⟩, L2⟩ := R
  obtain ⟨on, cell, i, hit⟩ := k
  obtain ⟨ob, cb, ib, hbb⟩ := kb
  simp only [Wk.cells, Acc.cells] at *
  have HD := Lib.hid hd
  have HRD := Lib.hid hrd
  have HB := Lib.hid hb
  have HRB := Lib.hid hrb
  have HW := Lib.hid hw
  have HLEN := Lib.hid hlen
  clear hd hrd hb hrb hw hlen hn
  go_enter Try.func8, Try.ntmps8
  go_wp2_with fail
  refine (from_has ((Has.start [] w).new1) (hr.touch ((Touch.refl [] _).alloc _) (by simp)) HW.out).mono ?_
  rintro e w1 ⟨m, a, rfl, H1⟩
  go_wp2_with fail
  refine (copy_has H1 (hr.touch H1.touch (by simp)) HW.out).mono ?_
  rintro e w2 ⟨p, g, cap, rfl, H2⟩
  clear H1
  have H3 := H2.swap
  clear H2
  obtain ⟨k0, k1, k2⟩ := H3.blk2.own
  go_wp2_with fail
  refine (HD.out _ _ _ _ H3).mono ?_
  rintro e w3 ⟨rfl, H4⟩
  have H5 := H4.al2 (c0 := #[.bool o2, .int .i64 c2, .int .i64 i2, .bool h2]) (t0 := 65) (c1 := #[.int .i64 rk, .int .i64 rc, .int .u32 rx, .int .u32 ry, .int .u32 ro]) (t1 := 34)
  clear k0 k1 k2 H3
  obtain ⟨k0, k1, k2⟩ := H4.blk2.own
  clear H4
  go_wp2_with fail
  refine (HRD.out _ _ _ _ _ (H5.front 3 (by simp))).mono ?_
  rintro e w4 ⟨rfl, H6⟩
  clear H5 k0 k1 k2
  have H7 : Has [] w w4 (.mem m a L2 :: .row p g cap L2 :: .blk (w3.heap.size + 1) #[.int .i64 rk, .int .i64 rc, .int .u32 rx, .int .u32 ry, .int .u32 ro] :: .blk w3.heap.size #[.bool o2, .int .i64 c2, .int .i64 i2, .bool h2] :: .blk w.heap.size #[.bool on, .int .i64 cell, .int .i64 i, .bool hit] :: []) := H6.swap
  have H8 := H7.al22 (c0 := #[.bool o2, .int .i64 c2, .int .i64 i2, .bool h2]) (t0 := 65) (c1 := #[.int .i64 rk, .int .i64 rc, .int .u32 rx, .int .u32 ry, .int .u32 ro]) (t1 := 34)
  clear H6 H7
  go_wp2_with fail
  refine wp_from (Facts := fun W => WSKeep w m a p g cap L2 w.heap.size w3.heap.size (w3.heap.size + 1) w4.heap.size (w4.heap.size + 1) #[.bool on, .int .i64 cell, .int .i64 i, .bool hit] #[.bool o2, .int .i64 c2, .int .i64 i2, .bool h2] #[.int .i64 rk, .int .i64 rc, .int .u32 rx, .int .u32 ry, .int .u32 ro] W) ?_ H8
  clear H8
  intro W HV
  generalize w.heap.size = b7 at HV ⊢
  generalize w3.heap.size = b12 at HV ⊢
  generalize w4.heap.size = b14 at HV ⊢
  have hdrew : WSKeep w m a p g cap L2 b7 b12 (b12 + 1) b14 (b14 + 1) #[.bool on, .int .i64 cell, .int .i64 i, .bool hit] #[.bool o2, .int .i64 c2, .int .i64 i2, .bool h2] #[.int .i64 rk, .int .i64 rc, .int .u32 rx, .int .u32 ry, .int .u32 ro] W.drew := Has.drew HV
  have HC2 := Lib.hid (fun w' (H : WSKeep w m a p g cap L2 b7 b12 (b12 + 1) b14 (b14 + 1) #[.bool on, .int .i64 cell, .int .i64 i, .bool hit] #[.bool o2, .int .i64 c2, .int .i64 i2, .bool h2] #[.int .i64 rk, .int .i64 rc, .int .u32 rx, .int .u32 ry, .int .u32 ro] w') => (HB.out w').mono (R' := fun e w'' => e = .returned (.agg #[.bool ob, .int .i64 cb, .int .i64 ib, .bool hbb]) ∧ WSKeep w m a p g cap L2 b7 b12 (b12 + 1) b14 (b14 + 1) #[.bool on, .int .i64 cell, .int .i64 i, .bool hit] #[.bool o2, .int .i64 c2, .int .i64 i2, .bool h2] #[.int .i64 rk, .int .i64 rc, .int .u32 rx, .int .u32 ry, .int .u32 ro] w'') (fun e w'' h => ⟨h.1, Has.grow H h.2⟩))
  have HC3 := Lib.hid (fun w' (H : WSKeep w m a p g cap L2 b7 b12 (b12 + 1) b14 (b14 + 1) #[.bool on, .int .i64 cell, .int .i64 i, .bool hit] #[.bool o2, .int .i64 c2, .int .i64 i2, .bool h2] #[.int .i64 rk, .int .i64 rc, .int .u32 rx, .int .u32 ry, .int .u32 ro] w') => (HRB.out w').mono (R' := fun e w'' => e = .returned (.agg #[.bool ob, .int .i64 cb, .int .i64 ib, .bool hbb]) ∧ WSKeep w m a p g cap L2 b7 b12 (b12 + 1) b14 (b14 + 1) #[.bool on, .int .i64 cell, .int .i64 i, .bool hit] #[.bool o2, .int .i64 c2, .int .i64 i2, .bool h2] #[.int .i64 rk, .int .i64 rc, .int .u32 rx, .int .u32 ry, .int .u32 ro] w'') (fun e w'' h => ⟨h.1, Has.grow H h.2⟩))
  have HC4 := Lib.hid (fun w' (H : WSKeep w m a p g cap L2 b7 b12 (b12 + 1) b14 (b14 + 1) #[.bool on, .int .i64 cell, .int .i64 i, .bool hit] #[.bool o2, .int .i64 c2, .int .i64 i2, .bool h2] #[.int .i64 rk, .int .i64 rc, .int .u32 rx, .int .u32 ry, .int .u32 ro] w') => (awake08 w').mono (R' := fun e w'' => e = .returned (.bool true) ∧ WSKeep w m a p g cap L2 b7 b12 (b12 + 1) b14 (b14 + 1) #[.bool on, .int .i64 cell, .int .i64 i, .bool hit] #[.bool o2, .int .i64 c2, .int .i64 i2, .bool h2] #[.int .i64 rk, .int .i64 rc, .int .u32 rx, .int .u32 ry, .int .u32 ro] w'') (fun e w'' h => ⟨h.1, Has.grow H h.2⟩))
  go_region_held3 (fun w' => WSKeep w m a p g cap L2 b7 b12 (b12 + 1) b14 (b14 + 1) #[.bool on, .int .i64 cell, .int .i64 i, .bool hit] #[.bool o2, .int .i64 c2, .int .i64 i2, .bool h2] #[.int .i64 rk, .int .i64 rc, .int .u32 rx, .int .u32 ry, .int .u32 ro] w' ∧ (∀ q, w'.cell? ⟨b7, q, none⟩ = #[Value.bool on, .int .i64 cell, .int .i64 i, .bool hit][q]?) ∧ (∀ q, w'.cell? ⟨b12, q, none⟩ = #[Value.bool o2, .int .i64 c2, .int .i64 i2, .bool h2][q]?) ∧ (∀ q, w'.cell? ⟨b14, q, none⟩ = #[Value.bool o2, .int .i64 c2, .int .i64 i2, .bool h2][q]?) ∧ (∀ q, w'.cell? ⟨b12 + 1, q, none⟩ = #[Value.int .i64 rk, .int .i64 rc, .int .u32 rx, .int .u32 ry, .int .u32 ro][q]?) ∧ (∀ q, w'.cell? ⟨b14 + 1, q, none⟩ = #[Value.int .i64 rk, .int .i64 rc, .int .u32 rx, .int .u32 ry, .int .u32 ro][q]?))
    (first | (go_split_ands; refine wskeep ?_; first | with_reducible assumption | with_reducible exact hdrew))
    (first
      | (go_at_call 23; refine (wsall (by go_split_ands; first | with_reducible assumption | with_reducible exact hdrew)).mono ?_; rintro e w5 ⟨p', cap', rfl, H5, hrd5⟩)
      | (go_at_call 22; refine (wssame (by go_split_ands; first | with_reducible assumption | with_reducible exact hdrew) hrd5 HLEN.out).mono ?_; rintro e w6 ⟨rfl, H6⟩)
      | (go_at_call 40; refine (HC2.out _ (by go_split_ands; first | with_reducible assumption | with_reducible exact hdrew)).mono ?_; rintro e w7 ⟨rfl, H7⟩)
      | (go_at_call 41; refine (HC3.out _ (by go_split_ands; first | with_reducible assumption | with_reducible exact hdrew)).mono ?_; rintro e w8 ⟨rfl, H8⟩)
      | (go_at_call 37; refine (HC4.out _ (by go_split_ands; first | with_reducible assumption | with_reducible exact hdrew)).mono ?_; rintro e w9 ⟨rfl, H9⟩))
  all_goals
    go_wp2
    go_ret
    exact ⟨rfl, Has.touch H9⟩

theorem wakeSteps_long {A : Option Addr} {ln cp : Nat} (w : World) (n mode : Int) (k : Wk) (hl : 1024 < ln) :
    Calls Try.prog 8 #[.slice A ln cp, .int .i64 n, .int .i64 mode, .agg k.cells] w fun e w' => e = .returned (.bool true) ∧ Touch [] w w' := by
  have i1 : ((1024 : Int) < (ln : Int)) := by omega
  obtain ⟨on, cell, i, hit⟩ := k
  simp only [Wk.cells]
  go_enter Try.func8, Try.ntmps8
  go_wp2_with (go_at_call 37; refine (awake08 _).mono ?_; rintro e w9 ⟨rfl, t9⟩)
  go_ret
  exact ⟨rfl, ((Touch.refl [] w).alloc _).trans t9⟩

/-- WHATEVER THE INPUT. -/
theorem wakeSteps_any {A : Option Addr} {ln cp : Nat} {L : List Int} (w : World) (hr : Rd w 1 A ln (L.flatMap fun x => [Value.int .u32 x])) (hL : ∀ x, x ∈ L → 0 ≤ x ∧ x < 4294967296) (n mode : Int) (k : Wk) (hn : I64 n) :
    Calls Try.prog 8 #[.slice A ln cp, .int .i64 n, .int .i64 mode, .agg k.cells] w fun e w' => e = .returned (.bool true) ∧ Touch [] w w' := by
  have hr' : Rd w 1 A ln (u32s L) := by
    rw [← u32s_flatMap]
    exact hr
  by_cases hl : ln ≤ 1024
  · exact wakeSteps_some w hr' ⟨by have := len_of_rd hr'; omega, hL⟩ n mode k hn
  · exact wakeSteps_long w n mode k (by omega)

end Go.Proofs.Ytghiggaldkojpaa.Z
