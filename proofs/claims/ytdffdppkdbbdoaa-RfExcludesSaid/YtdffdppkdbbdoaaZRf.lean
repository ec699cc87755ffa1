/- Package rf: a line. Written by genrf.py. -/
import Derived.Test.YtdffdppkdbbdoaaZRun7
import Derived.Test.YtdffdppkdbbdoaaZFlat3
import Derived.Deep.RegionHeld3
import Derived.Deep.DrawnRows
set_option linter.unusedVariables false
set_option linter.unusedSimpArgs false
namespace Go.Proofs.Ytdffdppkdbbdoaa.Z
open Go.RowKit

attribute [local go_sem ↓] Go.wp_at_zero Go.wp_at_succ

/-- Whether a writer is in. -/
def rfIn (v : Int) : Bool := bits .and .u32 v 65536 != 0
theorem rf_in (v : Int) (w : World) : Calls Try.prog 48 #[.int .u32 v] w fun e w' => e = .returned (.bool (rfIn v)) ∧ w = w' := by
  unfold rfIn
  go_enter Try.func48, Try.ntmps48
  go_wp2
  go_ret
  exact ⟨rfl, rfl⟩
theorem rf_notin (fid : FuncId) : True := trivial

/-- An operation's end. -/
def Rn.ends (s : Rn) (wake : Bool) (l : List Int) : Rn := (if wake then (s.noted l).wake 0 else s.noted l).fin true

set_option maxHeartbeats 800000 in
theorem rf_end {S0 : List Nat} {w0 w : World} {m a r g n c : Nat} {l : List Int} {rs : List Res} {s : Rn} (H : RunHas S0 w0 m a r (.blk g (i64s l).toArray :: rs) s w) (hn : l.length = n) (hc : s.notes.length + l.length ≤ 1000) (wake : Bool) :
    Calls Try.prog 50 #[.pointer (some ⟨r, 0, none⟩), .bool wake, .slice (some ⟨g, 0, none⟩) n c] w fun e w' => e = .returned (.tuple #[]) ∧ RunHas S0 w0 m a r (.blk g (i64s l).toArray :: rs) (s.ends wake l) w' := by
  subst hn
  have hll : l.length ≤ 1000 := by omega
  have HC := Lib.hid hc
  have HH := Lib.hid H
  clear hc H
  go_enter Try.func50, Try.ntmps50
  go_wp2_with fail
  go_loopw [10] (fun i wr => ∃ k : Nat, k ≤ l.length ∧ i = .int .i64 k ∧ RunHas S0 w0 m a r (.blk g (i64s l).toArray :: rs) (s.noted (l.take k)) wr) (fun i _ => l.length - (intOf i).toNat)
  case atStart => exact ⟨0, Nat.zero_le _, rfl, HH.out⟩
  case round =>
    obtain ⟨k, hk, rfl, hH⟩ := hrel
    have HK := Lib.hid hH
    clear hH
    by_cases hlt : k < l.length
    · obtain ⟨b, off, hb, hbl, hcell⟩ := i64s_at (rd_blk HK.out.first) hlt
      simp only [Option.some.injEq, Addr.mk.injEq] at hb
      obtain ⟨rfl, rfl, _⟩ := hb
      obtain ⟨x, hx⟩ : ∃ x, l.getD k 0 = x := ⟨_, rfl⟩
      rw [hx, Nat.zero_add] at hcell
      have HX := Lib.hid hx
      clear hx
      have hi : (k : Int) < (l.length : Int) := by omega
      go_wp2_with fail
      refine (run_note HK.out (by rw [noted_notes]; have := HC.out; simp only [List.length_take]; omega) x 0).mono ?_
      rintro e w1 ⟨rfl, H1⟩
      go_wp2
      go_roundw
      case rel => exact ⟨k + 1, by omega, by go_num, by rw [noted_succ s l k hlt, HX.out]; exact H1⟩
      case measure => simp [intOf]; omega
    · have hkn : k = l.length := by omega
      subst hkn
      have hi : (l.length : Int) ≤ (l.length : Int) := Int.le_refl _
      have H2 := HK.out
      rw [List.take_length] at H2
      clear HK hlt hk
      cases wake with
      | true =>
        go_wp2_with fail
        refine (rn_wake H2 0).mono ?_
        rintro e w1 ⟨rfl, H3⟩
        go_wp2_with fail
        refine (rn_end H3 true).mono ?_
        rintro e w2 ⟨rfl, H4⟩
        go_wp2_with fail
        go_end0
        exact ⟨rfl, H4⟩
      | false =>
        go_wp2_with fail
        refine (rn_end H2 true).mono ?_
        rintro e w2 ⟨rfl, H4⟩
        go_wp2_with fail
        go_end0
        exact ⟨rfl, H4⟩

/-- A try is refused. -/
def Rn.refused (s : Rn) : Rn := (s.note 5 0).fin false
theorem rf_refuse {S0 : List Nat} {w0 w : World} {m a r : Nat} {rs : List Res} {s : Rn} (H : RunHas S0 w0 m a r rs s w) (hc : s.notes.length ≤ 1000) :
    Calls Try.prog 109 #[.pointer (some ⟨r, 0, none⟩)] w fun e w' => e = .returned (.tuple #[]) ∧ RunHas S0 w0 m a r rs s.refused w' := by
  go_enter Try.func109, Try.ntmps109
  go_wp2_with fail
  refine (run_note H hc 5 0).mono ?_
  rintro e w1 ⟨rfl, H1⟩
  go_wp2_with fail
  refine (rn_end H1 false).mono ?_
  rintro e w2 ⟨rfl, H2⟩
  go_wp2_with fail
  go_end0
  exact ⟨rfl, H2⟩

theorem rf_is (x : Int) (w : World) :
    Calls Try.prog 56 #[.int .u32 x] w fun e w' => e = .returned (.func (.func 86) #[] #[.pointer (some ⟨w.heap.size, 0, none⟩)]) ∧ w.alloc (.cells #[.int .u32 x] 22) = w' := by
  go_enter Try.func56, Try.ntmps56
  go_wp2
  go_ret
  exact ⟨rfl, rfl⟩
theorem rf_is1 (x v : Int) {b : Nat} (w : World) (hb : Blk w b #[.int .u32 x]) :
    Calls Try.prog 86 #[.int .u32 v, .pointer (some ⟨b, 0, none⟩)] w fun e w' => e = .returned (.bool (v == x)) ∧ Touch [] w w' := by
  obtain ⟨x0, x1, x2⟩ := hb.own
  go_enter Try.func86, Try.ntmps86
  go_wp2
  go_ret
  exact ⟨rfl, Touch.refl _ _⟩
theorem rf_free (v : Int) (w : World) :
    Calls Try.prog 52 #[.int .u32 v] w fun e w' => e = .returned (.bool (!rfIn v)) ∧ Touch [] w w' := by
  go_enter Try.func52, Try.ntmps52
  go_wp2_with fail
  refine (rf_in v _).mono ?_
  rintro e w1 ⟨rfl, rfl⟩
  go_wp2
  go_ret
  exact ⟨rfl, Touch.refl _ _⟩
theorem rf_free' (v : Int) (w : World) :
    Calls Try.prog 88 #[.int .u32 v] w fun e w' => e = .returned (.bool (!rfIn v)) ∧ Touch [] w w' := by
  go_enter Try.func88, Try.ntmps88
  go_wp2_with fail
  refine (rf_in v _).mono ?_
  rintro e w1 ⟨rfl, rfl⟩
  go_wp2
  go_ret
  exact ⟨rfl, Touch.refl _ _⟩

/-- A try looks first. -/
def Rn.chosen (s : Rn) (p : Int → Bool) : Rn :=
  let R := doA s.L ⟨1, 0, 0, 0, 0⟩
  if p R.1.old then ((s.did R).setA R.1.old).goto 1 else ((s.did R).setA R.1.old).refused

set_option maxHeartbeats 800000 in
theorem rf_choose {S0 : List Nat} {w0 w : World} {m a r : Nat} {rs : List Res} {s : Rn} (H : RunHas S0 w0 m a r rs s w) (hc : s.notes.length ≤ 900) {o l : Int} (hop : s.f.op = o) (hl : s.f.line = l) (fid : FuncId) (first cap : Array Value) (p : Int → Bool) (eg : ∀ args w, (callFunc fid args).run Try.prog w = .ok (.enter fid args) w)
    (hF : ∀ W v s', RunHas S0 w0 m a r rs s' W → Calls Try.prog fid (first ++ #[.int .u32 v] ++ cap) W fun e W' => e = .returned (.bool (p v)) ∧ Touch [] W W') :
    Calls Try.prog 87 #[.pointer (some ⟨r, 0, none⟩), .func (.func fid) first cap] w fun e w' => e = .returned (.tuple #[]) ∧ RunHas S0 w0 m a r rs (s.chosen p) w' := by
  have HC := Lib.hid hc
  have HF := Lib.hid hF
  have HH := Lib.hid H
  clear hc H hF
  unfold Rn.chosen
  cases hb : p (doA s.L ⟨1, 0, 0, 0, 0⟩).1.old with
  | true =>
    simp only [if_true]
    go_enter Try.func87, Try.ntmps87
    go_wp2_with fail
    refine (rn_load HH.out 0).mono ?_
    rintro e w1 ⟨rfl, H1⟩
    obtain ⟨x0, x2, x4, x5, x6, x7⟩ := H1.facts hop hl rfl rfl
    go_wp2_with fail
    refine (HF.out _ _ _ (H1.setA _)).mono ?_
    rw [hb]
    rintro e w2 ⟨rfl, t2⟩
    have H2 := (H1.setA (doA s.L ⟨1, 0, 0, 0, 0⟩).1.old).grow t2
    go_wp2_with fail
    refine (rn_go H2 1).mono ?_
    rintro e w3 ⟨rfl, H3⟩
    go_wp2_with fail
    go_end0
    exact ⟨rfl, H3⟩
  | false =>
    simp only [Bool.false_eq_true, if_false]
    go_enter Try.func87, Try.ntmps87
    go_wp2_with fail
    refine (rn_load HH.out 0).mono ?_
    rintro e w1 ⟨rfl, H1⟩
    obtain ⟨x0, x2, x4, x5, x6, x7⟩ := H1.facts hop hl rfl rfl
    go_wp2_with fail
    refine (HF.out _ _ _ (H1.setA _)).mono ?_
    rw [hb]
    rintro e w2 ⟨rfl, t2⟩
    have H2 := (H1.setA (doA s.L ⟨1, 0, 0, 0, 0⟩).1.old).grow t2
    go_wp2_with fail
    refine (rf_refuse H2 (by have := HC.out; first | exact Nat.le_trans this (by decide) | (simp [Rn.note, Rn.did, Rn.setA, Rn.setB, Rn.waited, Rn.goto, Rn.noted]; omega))).mono ?_
    rintro e w3 ⟨rfl, H3⟩
    go_wp2_with fail
    all_goals refine bodyPost_ret (v := .tuple #[]) (by simp [results, Try.results87, go_sem]) rfl ⟨rfl, H3⟩

/-- A try ends, if the word is as it was. -/
def Rn.swapped (s : Rn) (x y : Int) (g : Rn → Rn) (note : Int) : Rn :=
  if casB s.L 0 x y then (g (s.did (doA s.L ⟨5, 0, x, y, 0⟩))).ends false [note] else (s.did (doA s.L ⟨5, 0, x, y, 0⟩)).goto 0

set_option maxHeartbeats 800000 in
theorem rf_swap {S0 : List Nat} {w0 w : World} {m a r : Nat} {rs : List Res} {s : Rn} (H : RunHas S0 w0 m a r rs s w) (hc : s.notes.length ≤ 900) (fid : FuncId) (cap : Array Value) (g : Rn → Rn) (hg : ∀ s, (g s).notes.length ≤ s.notes.length + 1) (eg : ∀ args w, (callFunc fid args).run Try.prog w = .ok (.enter fid args) w) (x y note : Int) (hx : 0 ≤ x ∧ x < 4294967296) (hy : 0 ≤ y ∧ y < 4294967296)
    (hF : ∀ W s', s'.notes = s.notes → RunHas S0 w0 m a r rs s' W → Calls Try.prog fid cap W fun e W' => e = .returned (.tuple #[]) ∧ RunHas S0 w0 m a r rs (g s') W') :
    Calls Try.prog 89 #[.pointer (some ⟨r, 0, none⟩), .int .u32 x, .int .u32 y, .func (.func fid) #[] cap, .int .i64 note] w fun e w' => e = .returned (.tuple #[]) ∧ RunHas S0 w0 m a r rs (s.swapped x y g note) w' := by
  have HC := Lib.hid hc
  have HF := Lib.hid hF
  have HH := Lib.hid H
  have HX := Lib.hid hx
  have HY := Lib.hid hy
  clear hc H hF hx hy
  unfold Rn.swapped
  have hcas := fun W (H : RunHas S0 w0 m a r rs s W) => rn_cas H 0 x y HX.out HY.out
  cases hb : casB s.L 0 x y with
  | true =>
    rw [hb] at hcas
    simp only [if_true]
    have HCAS := Lib.hid hcas
    clear hcas hb
    go_enter Try.func89, Try.ntmps89
    go_wp2_with fail
    refine (HCAS.out _ HH.out).mono ?_
    rintro e w1 ⟨rfl, H1⟩
    go_wp2_with fail
    refine (HF.out _ (s.did (doA s.L ⟨5, 0, x, y, 0⟩)) rfl H1).mono ?_
    rintro e w2 ⟨rfl, H2⟩
    go_wp2_with fail
    refine (rf_end (l := [note]) (H2.box rfl _ _) rfl (by have := hg (s.did (doA s.L ⟨5, 0, x, y, 0⟩)); have h2 := HC.out; have h3 : (s.did (doA s.L ⟨5, 0, x, y, 0⟩)).notes = s.notes := rfl; rw [h3] at this; simp only [List.length_cons, List.length_nil]; omega) false).mono ?_
    rintro e w3 ⟨rfl, H3⟩
    go_wp2_with fail
    go_end0
    exact ⟨rfl, H3.unbox⟩
  | false =>
    rw [hb] at hcas
    simp only [Bool.false_eq_true, if_false]
    have HCAS := Lib.hid hcas
    clear hcas hb
    go_enter Try.func89, Try.ntmps89
    go_wp2_with fail
    refine (HCAS.out _ HH.out).mono ?_
    rintro e w1 ⟨rfl, H1⟩
    go_wp2_with fail
    refine (rn_go H1 0).mono ?_
    rintro e w2 ⟨rfl, H2⟩
    go_wp2_with fail
    refine bodyPost_ret (v := .tuple #[]) (by simp [results, Try.results89, go_sem]) rfl ⟨rfl, H2⟩

end Go.Proofs.Ytdffdppkdbbdoaa.Z
