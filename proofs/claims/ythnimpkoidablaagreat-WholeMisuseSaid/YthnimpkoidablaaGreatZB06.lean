/- 6 texts of this claim, joined: what Package world needs of them. -/
import Derived.Test.YthnimpkoidablaaGreatRows
import Derived.Test.YthnimpkoidablaaGreatZB00
import Derived.Test.YthnimpkoidablaaGreatZB02
import Derived.Outline
import Derived.Test.YthnimpkoidablaaGreatZB05
import Derived.Deep.RegionHeld3
import Derived.Deep.DrawnRows
set_option linter.unusedVariables false
set_option linter.unusedSimpArgs false
namespace Go.Proofs.YthnimpkoidablaaGreat.Z
open Go.RowKit
def RightN (n : Int) : Prop := 1 ≤ n ∧ n ≤ 64
instance (n : Int) : Decidable (RightN n) := by unfold RightN; infer_instance
def cellP (n row i : Int) : Int := if 1 ≤ n ∧ n ≤ 64 ∧ 0 ≤ i ∧ i < n then 8 + row * n + i else -1
theorem right_yes (n : Int) (w : World) (h : 1 ≤ n ∧ n ≤ 64) : Calls Tryz.prog 123 #[.int .i64 n] w fun e w' => e = .returned (.bool true) ∧ w = w' := by
  obtain ⟨h1, h2⟩ := h
  go_enter Tryz.func123, Tryz.ntmps123
  go_wp2
  go_ret
  exact ⟨rfl, rfl⟩
theorem right_no (n : Int) (w : World) (h : ¬ (1 ≤ n ∧ n ≤ 64)) : Calls Tryz.prog 123 #[.int .i64 n] w fun e w' => e = .returned (.bool false) ∧ w = w' := by
  by_cases h1 : 1 ≤ n
  · have h2 : ¬ (n ≤ 64) := fun h2 => h ⟨h1, h2⟩
    clear h
    go_enter Tryz.func123, Tryz.ntmps123
    go_wp2
    go_ret
    exact ⟨rfl, rfl⟩
  · clear h
    go_enter Tryz.func123, Tryz.ntmps123
    go_wp2
    go_ret
    exact ⟨rfl, rfl⟩
set_option maxHeartbeats 400000 in
theorem mapCell0 (n i : Int) (w : World) (hn : -9223372036854775808 ≤ n ∧ n ≤ 9223372036854775807) :
    Calls Tryz.prog 166 #[.agg #[.int .i64 n], .int .i64 0, .int .i64 i] w fun e w' => e = .returned (.int .i64 (cellP n 0 i)) ∧ Touch [] w w' := by
  by_cases h : 1 ≤ n ∧ n ≤ 64
  · have hr := fun w => right_yes n w h
    obtain ⟨h1, h2⟩ := h
    clear hn
    by_cases h3 : i < 0
    · have HE := Lib.hid (show cellP n 0 i = -1 from if_neg (by omega))
      go_enter Tryz.func166, Tryz.ntmps166
      go_wp2_with (go_at_call 123; refine (hr _).mono ?_; rintro e w' ⟨rfl, rfl⟩)
      go_ret
      exact ⟨by rw [HE.out]; rfl, (Touch.refl _ _).alloc _⟩
    · by_cases h4 : n ≤ i
      · have HE := Lib.hid (show cellP n 0 i = -1 from if_neg (by omega))
        go_enter Tryz.func166, Tryz.ntmps166
        go_wp2_with (go_at_call 123; refine (hr _).mono ?_; rintro e w' ⟨rfl, rfl⟩)
        go_ret
        exact ⟨by rw [HE.out]; rfl, (Touch.refl _ _).alloc _⟩
      · have h5 : 0 ≤ i := by omega
        have h6 : i < n := by omega
        have HE := Lib.hid (show cellP n 0 i = 8 + 0 * n + i from if_pos ⟨h1, h2, h5, h6⟩)
        go_enter Tryz.func166, Tryz.ntmps166
        go_wp2_with (go_at_call 123; refine (hr _).mono ?_; rintro e w' ⟨rfl, rfl⟩)
        go_ret
        exact ⟨by rw [HE.out]; first | rfl | simp, (Touch.refl _ _).alloc _⟩
  · have hr := fun w => right_no n w h
    have HE := Lib.hid (show cellP n 0 i = -1 from if_neg (by omega))
    clear h hn
    go_enter Tryz.func166, Tryz.ntmps166
    go_wp2_with (go_at_call 123; refine (hr _).mono ?_; rintro e w' ⟨rfl, rfl⟩)
    go_ret
    exact ⟨by rw [HE.out]; rfl, (Touch.refl _ _).alloc _⟩
set_option maxHeartbeats 400000 in
theorem mapCell1 (n i : Int) (w : World) (hn : -9223372036854775808 ≤ n ∧ n ≤ 9223372036854775807) :
    Calls Tryz.prog 166 #[.agg #[.int .i64 n], .int .i64 1, .int .i64 i] w fun e w' => e = .returned (.int .i64 (cellP n 1 i)) ∧ Touch [] w w' := by
  by_cases h : 1 ≤ n ∧ n ≤ 64
  · have hr := fun w => right_yes n w h
    obtain ⟨h1, h2⟩ := h
    clear hn
    by_cases h3 : i < 0
    · have HE := Lib.hid (show cellP n 1 i = -1 from if_neg (by omega))
      go_enter Tryz.func166, Tryz.ntmps166
      go_wp2_with (go_at_call 123; refine (hr _).mono ?_; rintro e w' ⟨rfl, rfl⟩)
      go_ret
      exact ⟨by rw [HE.out]; rfl, (Touch.refl _ _).alloc _⟩
    · by_cases h4 : n ≤ i
      · have HE := Lib.hid (show cellP n 1 i = -1 from if_neg (by omega))
        go_enter Tryz.func166, Tryz.ntmps166
        go_wp2_with (go_at_call 123; refine (hr _).mono ?_; rintro e w' ⟨rfl, rfl⟩)
        go_ret
        exact ⟨by rw [HE.out]; rfl, (Touch.refl _ _).alloc _⟩
      · have h5 : 0 ≤ i := by omega
        have h6 : i < n := by omega
        have HE := Lib.hid (show cellP n 1 i = 8 + 1 * n + i from if_pos ⟨h1, h2, h5, h6⟩)
        go_enter Tryz.func166, Tryz.ntmps166
        go_wp2_with (go_at_call 123; refine (hr _).mono ?_; rintro e w' ⟨rfl, rfl⟩)
        go_ret
        exact ⟨by rw [HE.out]; first | rfl | simp, (Touch.refl _ _).alloc _⟩
  · have hr := fun w => right_no n w h
    have HE := Lib.hid (show cellP n 1 i = -1 from if_neg (by omega))
    clear h hn
    go_enter Tryz.func166, Tryz.ntmps166
    go_wp2_with (go_at_call 123; refine (hr _).mono ?_; rintro e w' ⟨rfl, rfl⟩)
    go_ret
    exact ⟨by rw [HE.out]; rfl, (Touch.refl _ _).alloc _⟩
set_option maxHeartbeats 400000 in
theorem mapCell2 (n i : Int) (w : World) (hn : -9223372036854775808 ≤ n ∧ n ≤ 9223372036854775807) :
    Calls Tryz.prog 166 #[.agg #[.int .i64 n], .int .i64 2, .int .i64 i] w fun e w' => e = .returned (.int .i64 (cellP n 2 i)) ∧ Touch [] w w' := by
  by_cases h : 1 ≤ n ∧ n ≤ 64
  · have hr := fun w => right_yes n w h
    obtain ⟨h1, h2⟩ := h
    clear hn
    by_cases h3 : i < 0
    · have HE := Lib.hid (show cellP n 2 i = -1 from if_neg (by omega))
      go_enter Tryz.func166, Tryz.ntmps166
      go_wp2_with (go_at_call 123; refine (hr _).mono ?_; rintro e w' ⟨rfl, rfl⟩)
      go_ret
      exact ⟨by rw [HE.out]; rfl, (Touch.refl _ _).alloc _⟩
    · by_cases h4 : n ≤ i
      · have HE := Lib.hid (show cellP n 2 i = -1 from if_neg (by omega))
        go_enter Tryz.func166, Tryz.ntmps166
        go_wp2_with (go_at_call 123; refine (hr _).mono ?_; rintro e w' ⟨rfl, rfl⟩)
        go_ret
        exact ⟨by rw [HE.out]; rfl, (Touch.refl _ _).alloc _⟩
      · have h5 : 0 ≤ i := by omega
        have h6 : i < n := by omega
        have HE := Lib.hid (show cellP n 2 i = 8 + 2 * n + i from if_pos ⟨h1, h2, h5, h6⟩)
        go_enter Tryz.func166, Tryz.ntmps166
        go_wp2_with (go_at_call 123; refine (hr _).mono ?_; rintro e w' ⟨rfl, rfl⟩)
        go_ret
        exact ⟨by rw [HE.out]; first | rfl | simp, (Touch.refl _ _).alloc _⟩
  · have hr := fun w => right_no n w h
    have HE := Lib.hid (show cellP n 2 i = -1 from if_neg (by omega))
    clear h hn
    go_enter Tryz.func166, Tryz.ntmps166
    go_wp2_with (go_at_call 123; refine (hr _).mono ?_; rintro e w' ⟨rfl, rfl⟩)
    go_ret
    exact ⟨by rw [HE.out]; rfl, (Touch.refl _ _).alloc _⟩
set_option maxHeartbeats 400000 in
theorem mapCell3 (n i : Int) (w : World) (hn : -9223372036854775808 ≤ n ∧ n ≤ 9223372036854775807) :
    Calls Tryz.prog 166 #[.agg #[.int .i64 n], .int .i64 3, .int .i64 i] w fun e w' => e = .returned (.int .i64 (cellP n 3 i)) ∧ Touch [] w w' := by
  by_cases h : 1 ≤ n ∧ n ≤ 64
  · have hr := fun w => right_yes n w h
    obtain ⟨h1, h2⟩ := h
    clear hn
    by_cases h3 : i < 0
    · have HE := Lib.hid (show cellP n 3 i = -1 from if_neg (by omega))
      go_enter Tryz.func166, Tryz.ntmps166
      go_wp2_with (go_at_call 123; refine (hr _).mono ?_; rintro e w' ⟨rfl, rfl⟩)
      go_ret
      exact ⟨by rw [HE.out]; rfl, (Touch.refl _ _).alloc _⟩
    · by_cases h4 : n ≤ i
      · have HE := Lib.hid (show cellP n 3 i = -1 from if_neg (by omega))
        go_enter Tryz.func166, Tryz.ntmps166
        go_wp2_with (go_at_call 123; refine (hr _).mono ?_; rintro e w' ⟨rfl, rfl⟩)
        go_ret
        exact ⟨by rw [HE.out]; rfl, (Touch.refl _ _).alloc _⟩
      · have h5 : 0 ≤ i := by omega
        have h6 : i < n := by omega
        have HE := Lib.hid (show cellP n 3 i = 8 + 3 * n + i from if_pos ⟨h1, h2, h5, h6⟩)
        go_enter Tryz.func166, Tryz.ntmps166
        go_wp2_with (go_at_call 123; refine (hr _).mono ?_; rintro e w' ⟨rfl, rfl⟩)
        go_ret
        exact ⟨by rw [HE.out]; first | rfl | simp, (Touch.refl _ _).alloc _⟩
  · have hr := fun w => right_no n w h
    have HE := Lib.hid (show cellP n 3 i = -1 from if_neg (by omega))
    clear h hn
    go_enter Tryz.func166, Tryz.ntmps166
    go_wp2_with (go_at_call 123; refine (hr _).mono ?_; rintro e w' ⟨rfl, rfl⟩)
    go_ret
    exact ⟨by rw [HE.out]; rfl, (Touch.refl _ _).alloc _⟩
theorem mapNext (n i : Int) (w : World) (hn : -9223372036854775808 ≤ n ∧ n ≤ 9223372036854775807) :
    Calls Tryz.prog 171 #[.agg #[.int .i64 n], .int .i64 i] w fun e w' => e = .returned (.int .i64 (cellP n 0 i)) ∧ Touch [] w w' := by
  go_enter Tryz.func171, Tryz.ntmps171
  go_wp2_with (go_at_call 166; refine (mapCell0 n i _ hn).mono ?_; rintro e w' ⟨rfl, ht⟩)
  go_ret
  exact ⟨rfl, ((Touch.refl _ _).alloc _).trans ht⟩
theorem mapBlocked (n i : Int) (w : World) (hn : -9223372036854775808 ≤ n ∧ n ≤ 9223372036854775807) :
    Calls Tryz.prog 172 #[.agg #[.int .i64 n], .int .i64 i] w fun e w' => e = .returned (.int .i64 (cellP n 1 i)) ∧ Touch [] w w' := by
  go_enter Tryz.func172, Tryz.ntmps172
  go_wp2_with (go_at_call 166; refine (mapCell1 n i _ hn).mono ?_; rintro e w' ⟨rfl, ht⟩)
  go_ret
  exact ⟨rfl, ((Touch.refl _ _).alloc _).trans ht⟩
theorem mapWatch (n i : Int) (w : World) (hn : -9223372036854775808 ≤ n ∧ n ≤ 9223372036854775807) :
    Calls Tryz.prog 128 #[.agg #[.int .i64 n], .int .i64 i] w fun e w' => e = .returned (.int .i64 (cellP n 2 i)) ∧ Touch [] w w' := by
  go_enter Tryz.func128, Tryz.ntmps128
  go_wp2_with (go_at_call 166; refine (mapCell2 n i _ hn).mono ?_; rintro e w' ⟨rfl, ht⟩)
  go_ret
  exact ⟨rfl, ((Touch.refl _ _).alloc _).trans ht⟩
theorem mapPermit (n i : Int) (w : World) (hn : -9223372036854775808 ≤ n ∧ n ≤ 9223372036854775807) :
    Calls Tryz.prog 130 #[.agg #[.int .i64 n], .int .i64 i] w fun e w' => e = .returned (.int .i64 (cellP n 3 i)) ∧ Touch [] w w' := by
  go_enter Tryz.func130, Tryz.ntmps130
  go_wp2_with (go_at_call 166; refine (mapCell3 n i _ hn).mono ?_; rintro e w' ⟨rfl, ht⟩)
  go_ret
  exact ⟨rfl, ((Touch.refl _ _).alloc _).trans ht⟩
end Go.Proofs.YthnimpkoidablaaGreat.Z

set_option linter.unusedVariables false
set_option linter.unusedSimpArgs false
namespace Go.Proofs.YthnimpkoidablaaGreat.Z
open Go.RowKit
def I64 (n : Int) : Prop := -9223372036854775808 ≤ n ∧ n ≤ 9223372036854775807
def giveA (L : List Int) (n task : Int) : Acc × Bool × List Int := doA L ⟨2, cellP n 3 task, 1, 0, 0⟩
def thereA (L : List Int) (n task : Int) : Bool := ldA L (cellP n 3 task) != 0
def takeA (L : List Int) (n task : Int) : Acc × Bool × List Int := if thereA L n task then doA L ⟨4, cellP n 3 task, 0, 0, 0⟩ else (Acc.zero, false, L)
theorem lv_new {w : World} {m a b : Nat} {L : List Int} (h : Mem w m a L) (hb : w.heap.size ≤ b) : b ∉ lv a L := fun hm => by
  have h1 := mem_lv hm
  have h2 := h.lt.2 h1.2
  omega
theorem mem_fin {w w2 wf : World} {m a : Nat} {L L2 : List Int} {S : List Nat} (h : Mem w m a L) (hM2 : Mem w2 m a L2) (hl : L2.length = L.length) (hT : Touch (lv a L) w w2) (hS : ∀ k, k ∈ S → w.heap.size ≤ k) (t : Touch S w2 wf) :
    Mem wf m a L2 ∧ Touch (lv a L) w wf := by
  refine ⟨?_, hT.newer t hS⟩
  obtain ⟨p, cap, hb, r⟩ := hM2.head
  have hlt := h.lt
  refine ⟨hM2.ne, hM2.words, ⟨p, cap, t.blk hb (fun hm => by have := hS _ hm; omega), r⟩, fun h0 => ?_⟩
  obtain ⟨rest, hr⟩ := hM2.body h0
  exact ⟨rest, t.blk hr (fun hm => by have := hS _ hm; have := hlt.2 (by omega); omega)⟩
def doV (m : Option Addr) : Value := .func (.func 127) #[.pointer m] #[]
set_option maxHeartbeats 800000 in
theorem with_any {w : World} {m a : Nat} {L : List Int} (h : Mem w m a L) (n task k c x y o : Int) (hn : I64 n) (hx : 0 ≤ x ∧ x < 4294967296) (hy : 0 ≤ y ∧ y < 4294967296) :
    Calls Tryz.prog 164 #[doV (some ⟨m, 0, none⟩), .agg #[.int .i64 n], .int .i64 task, .agg #[.int .i64 k, .int .i64 c, .int .u32 x, .int .u32 y, .int .u32 o]] w
      fun e w' => e = .returned (.tuple #[.agg (doA L ⟨k, cellP n 3 task, x, y, o⟩).1.cells, .bool (doA L ⟨k, cellP n 3 task, x, y, o⟩).2.1]) ∧ Mem w' m a (doA L ⟨k, cellP n 3 task, x, y, o⟩).2.2 ∧ Touch (lv a L) w w' := by
  have hd := fun W (hM : Mem W m a L) => do_any hM ⟨k, cellP n 3 task, x, y, o⟩ hx hy
  have hl := doA_length L ⟨k, cellP n 3 task, x, y, o⟩
  generalize doA L ⟨k, cellP n 3 task, x, y, o⟩ = r at hd hl ⊢
  obtain ⟨⟨rk, rc, rx, ry, ro⟩, rok, L2⟩ := r
  simp only [Acc.cells] at hd hl ⊢
  have HD := Lib.hid hd
  have HL := Lib.hid hl
  have hm := h.lt.1
  unfold doV
  clear hd hx hy hl
  obtain ⟨n1, n2⟩ := hn
  go_enter Tryz.func164, Tryz.ntmps164
  go_wp2_with (go_at_call 130; refine (mapPermit n task _ ⟨n1, n2⟩).mono ?_; rintro e w1 ⟨rfl, ht1⟩
               obtain ⟨b0, b1, b2⟩ := ht1.own3 (by simp)
               obtain ⟨z0, p0, q0⟩ := b0.own
               obtain ⟨z1, p1, q1⟩ := b1.own
               obtain ⟨z2, p2, q2⟩ := b2.own)
  have hT1 : Touch [] w (w1.setCell ⟨w.heap.size + 1, 1, none⟩ (.int .i64 (cellP n 3 task))) := (((((Touch.refl [] w).alloc _).alloc _).alloc _).trans ht1).setNew (by simp) _
  refine (HD.out _ (h.touch hT1 (by simp) (by simp))).mono ?_
  rintro e w2 ⟨rfl, hM2, ht2⟩
  obtain ⟨z3, p3, q3⟩ := (ht2.blk (b2.setNe (by simp) _) (lv_new h (by omega))).own
  go_wp2
  refine bodyPost_ret (v := .tuple #[.agg #[.int .i64 rk, .int .i64 rc, .int .u32 rx, .int .u32 ry, .int .u32 ro], .bool rok]) (by simp [results, Tryz.results164, go_sem, p3, z3]) rfl
    ⟨rfl, mem_fin (S := [w.heap.size + 2]) h hM2 HL.out ((hT1.mono (by simp)).trans ht2) (by simp) ?_⟩
  repeat (first | with_reducible exact Touch.refl _ _ | with_reducible apply Touch.drew | with_reducible apply Touch.alloc | with_reducible refine Touch.set ?_ (by simp) _)
theorem give_any {w : World} {m a : Nat} {L : List Int} (h : Mem w m a L) (n task : Int) (hn : I64 n) :
    Calls Tryz.prog 125 #[.pointer (some ⟨m, 0, none⟩), .agg #[.int .i64 n], .int .i64 task] w
      fun e w' => e = .returned (.tuple #[.agg (giveA L n task).1.cells, .bool (giveA L n task).2.1]) ∧ Mem w' m a (giveA L n task).2.2 ∧ Touch (lv a L) w w' := by
  have hd := fun W (hM : Mem W m a L) => with_any hM n task 2 0 1 0 0 hn (by decide) z32
  have hl : (giveA L n task).2.2.length = L.length := doA_length _ _
  rw [show doA L ⟨2, cellP n 3 task, 1, 0, 0⟩ = giveA L n task from rfl] at hd
  generalize giveA L n task = r at hd hl ⊢
  obtain ⟨⟨rk, rc, rx, ry, ro⟩, rok, L2⟩ := r
  simp only [Acc.cells, doV] at hd hl ⊢
  have HD := Lib.hid hd
  have HL := Lib.hid hl
  have hm := h.lt.1
  clear hd hl hn
  go_enter Tryz.func125, Tryz.ntmps125
  go_wp2_with (go_at_call 164; refine (HD.out _ (h.touch (((Touch.refl [] w).alloc _).alloc _) (by simp) (by simp))).mono ?_; rintro e w2 ⟨rfl, hM2, ht2⟩
               obtain ⟨z3, p3, q3⟩ := (ht2.own2 (fun k hk => by have := mem_lv hk; have := h.lt.2 this.2; omega)).2.own)
  refine bodyPost_ret (v := .tuple #[.agg #[.int .i64 rk, .int .i64 rc, .int .u32 rx, .int .u32 ry, .int .u32 ro], .bool rok]) (by simp [results, Tryz.results125, go_sem, p3, z3]) rfl
    ⟨rfl, mem_fin (S := [w.heap.size + 1]) h hM2 HL.out ((((Touch.refl _ w).alloc _).alloc _).trans ht2) (by simp) ?_⟩
  repeat (first | with_reducible exact Touch.refl _ _ | with_reducible apply Touch.drew | with_reducible apply Touch.alloc | with_reducible refine Touch.set ?_ (by simp) _)
theorem there_is {w : World} {m a : Nat} {L : List Int} (h : Mem w m a L) (n task : Int) (hn : I64 n) :
    Calls Tryz.prog 82 #[.pointer (some ⟨m, 0, none⟩), .agg #[.int .i64 n], .int .i64 task] w
      fun e w' => e = .returned (.bool (thereA L n task)) ∧ Touch [] w w' := by
  unfold thereA
  have hl := fun W (hM : Mem W m a L) => load_any hM (cellP n 3 task)
  generalize ldA L (cellP n 3 task) = v at hl ⊢
  have HL := Lib.hid hl
  clear hl
  go_enter Tryz.func82, Tryz.ntmps82
  go_wp2_with (first
    | (go_at_call 130; refine (mapPermit n task _ hn).mono ?_; rintro e w1 ⟨rfl, ht1⟩)
    | (go_at_call 129; refine (HL.out _ (h.touch ((((Touch.refl [] w).alloc _).trans ht1)) (by simp) (by simp))).mono ?_; rintro e w2 ⟨rfl, ht2⟩))
  go_ret
  exact ⟨rfl, (((Touch.refl [] w).alloc _).trans ht1).trans ht2⟩
theorem take_any {w : World} {m a : Nat} {L : List Int} (h : Mem w m a L) (n task : Int) (hn : I64 n) :
    Calls Tryz.prog 167 #[.pointer (some ⟨m, 0, none⟩), .agg #[.int .i64 n], .int .i64 task] w
      fun e w' => e = .returned (.tuple #[.agg (takeA L n task).1.cells, .bool (takeA L n task).2.1]) ∧ Mem w' m a (takeA L n task).2.2 ∧ Touch (lv a L) w w' := by
  have hth := fun W (hM : Mem W m a L) => there_is hM n task hn
  have hm := h.lt.1
  cases hb : thereA L n task with
  | false =>
    rw [show takeA L n task = (Acc.zero, false, L) from by unfold takeA; rw [hb]; rfl]
    rw [hb] at hth
    have HT := Lib.hid hth
    clear hth hb hn
    simp only [Acc.cells, Acc.zero]
    go_enter Tryz.func167, Tryz.ntmps167
    go_wp2_with (go_at_call 82; refine (HT.out _ (h.touch (((Touch.refl [] w).alloc _).alloc _) (by simp) (by simp))).mono ?_; rintro e w2 ⟨rfl, ht2⟩
                 obtain ⟨z3, p3, q3⟩ := (ht2.own2 (by simp)).2.own)
    refine bodyPost_ret (v := .tuple #[Value.agg Acc.zero.cells, .bool false]) (by simp [results, Tryz.results167, go_sem, p3, z3, Acc.zero, Acc.cells]) rfl
      ⟨rfl, mem_fin (S := [w.heap.size + 1]) h (h.touch ((((Touch.refl [] w).alloc _).alloc _).trans ht2) (by simp) (by simp)) rfl ((((Touch.refl _ w).alloc _).alloc _).trans (ht2.mono (by simp))) (by simp) ?_⟩
    repeat (first | with_reducible exact Touch.refl _ _ | with_reducible apply Touch.drew | with_reducible apply Touch.alloc | with_reducible refine Touch.set ?_ (by simp) _)
  | true =>
    have hd := fun W (hM : Mem W m a L) => with_any hM n task 4 0 0 0 0 hn z32 z32
    have hl : (takeA L n task).2.2.length = L.length := by unfold takeA; rw [hb]; exact doA_length _ _
    rw [show doA L ⟨4, cellP n 3 task, 0, 0, 0⟩ = takeA L n task from by unfold takeA; rw [hb]; rfl] at hd
    generalize takeA L n task = r at hd hl ⊢
    obtain ⟨⟨rk, rc, rx, ry, ro⟩, rok, L2⟩ := r
    simp only [Acc.cells, doV] at hd hl ⊢
    rw [hb] at hth
    have HD := Lib.hid hd
    have HL := Lib.hid hl
    have HT := Lib.hid hth
    clear hd hl hn hth hb
    go_enter Tryz.func167, Tryz.ntmps167
    go_wp2_with (first
      | (go_at_call 82; refine (HT.out _ (h.touch (((Touch.refl [] w).alloc _).alloc _) (by simp) (by simp))).mono ?_; rintro e w1 ⟨rfl, ht1⟩
         obtain ⟨B0, B1⟩ := ht1.own2 (by simp)
         obtain ⟨z0, p0, q0⟩ := B0.own)
      | (go_at_call 164; refine (HD.out _ (h.touch ((((Touch.refl [] w).alloc _).alloc _).trans ht1) (by simp) (by simp))).mono ?_; rintro e w2 ⟨rfl, hM2, ht2⟩
         obtain ⟨z3, p3, q3⟩ := (ht2.blk B1 (lv_new h (by omega))).own))
    refine bodyPost_ret (v := .tuple #[.agg #[.int .i64 rk, .int .i64 rc, .int .u32 rx, .int .u32 ry, .int .u32 ro], .bool rok]) (by simp [results, Tryz.results167, go_sem, p3, z3]) rfl
      ⟨rfl, mem_fin (S := [w.heap.size + 1]) h hM2 HL.out (((((Touch.refl _ w).alloc _).alloc _).trans (ht1.mono (by simp))).trans ht2) (by simp) ?_⟩
    repeat (first | with_reducible exact Touch.refl _ _ | with_reducible apply Touch.drew | with_reducible apply Touch.alloc | with_reducible refine Touch.set ?_ (by simp) _)
end Go.Proofs.YthnimpkoidablaaGreat.Z

set_option linter.unusedVariables false
set_option linter.unusedSimpArgs false
namespace Go.Proofs.YthnimpkoidablaaGreat.Z
open Go.RowKit
def stageA (mode stage : Int) : Int := if mode = 2 ∧ 0 ≤ stage ∧ stage ≤ 4 then stage else 0
structure WaitR where
  stage : Int
  acc : Acc
  seen : Bool
  done : Bool
  words : List Int
def waitA (L : List Int) (n mode task stage c : Int) (p : Int → Bool) : WaitR :=
  let at_ := stageA mode stage
  if at_ = 1 then let r := doA L ⟨2, cellP n 2 task, (c + 1) % 4294967296, 0, 0⟩; ⟨2, r.1, false, false, r.2.2⟩
  else if at_ = 2 then let r := doA L ⟨1, c, 0, 0, 0⟩; ⟨if p r.1.old then 4 else 3, r.1, p r.1.old, false, L⟩
  else if at_ = 3 then let r := takeA L n task; ⟨if r.2.1 then 2 else 3, r.1, false, false, r.2.2⟩
  else if at_ = 4 then let r := doA L ⟨2, cellP n 2 task, 0, 0, 0⟩; ⟨0, r.1, false, true, r.2.2⟩
  else let r := doA L ⟨1, c, 0, 0, 0⟩; ⟨if p r.1.old then 0 else if mode = 2 then 1 else 0, r.1, p r.1.old, p r.1.old, L⟩
theorem stageA_is (mode stage : Int) : stageA mode stage = 0 ∨ stageA mode stage = 1 ∨ stageA mode stage = 2 ∨ stageA mode stage = 3 ∨ stageA mode stage = 4 := by
  unfold stageA
  split <;> omega
theorem doA_old (L : List Int) (hw : Words L) (b : Acc) : 0 ≤ (doA L b).1.old ∧ (doA L b).1.old < 4294967296 := by
  have h0 := hw.getD b.cell.toNat
  unfold doA
  dsimp only
  repeat' split
  all_goals first | exact h0 | (simp [Acc.zero])
theorem stage_any (mode stage : Int) (w : World) : Calls Tryz.prog 81 #[.int .i64 mode, .agg #[.int .i64 stage]] w fun e w' => e = .returned (.int .i64 (stageA mode stage)) ∧ Touch [] w w' := by
  by_cases h1 : mode = 2
  · subst h1
    by_cases h2 : stage < 0
    · rw [show stageA 2 stage = 0 from if_neg (by omega)]
      go_enter Tryz.func81, Tryz.ntmps81
      go_wp2
      go_ret
      exact ⟨rfl, (Touch.refl [] w).alloc _⟩
    · by_cases h3 : 4 < stage
      · rw [show stageA 2 stage = 0 from if_neg (by omega)]
        go_enter Tryz.func81, Tryz.ntmps81
        go_wp2
        go_ret
        exact ⟨rfl, (Touch.refl [] w).alloc _⟩
      · rw [show stageA 2 stage = stage from if_pos (by omega)]
        have h2' : ¬ (stage < 0) := h2
        have h3' : ¬ (4 < stage) := h3
        go_enter Tryz.func81, Tryz.ntmps81
        go_wp2
        go_ret
        exact ⟨rfl, (Touch.refl [] w).alloc _⟩
  · rw [show stageA mode stage = 0 from if_neg (by omega)]
    have h1' : (mode != 2) = true := by simpa using h1
    clear h1
    go_enter Tryz.func81, Tryz.ntmps81
    go_wp2
    go_ret
    exact ⟨rfl, (Touch.refl [] w).alloc _⟩
theorem doload_any {w : World} {m a : Nat} {L : List Int} (h : Mem w m a L) (c : Int) :
    Calls Tryz.prog 127 #[.pointer (some ⟨m, 0, none⟩), .agg #[.int .i64 1, .int .i64 c, .int .u32 0, .int .u32 0, .int .u32 0]] w
      fun e w' => e = .returned (.tuple #[.agg (doA L ⟨1, c, 0, 0, 0⟩).1.cells, .bool (doA L ⟨1, c, 0, 0, 0⟩).2.1]) ∧ Touch [] w w' := by
  by_cases hc : 0 ≤ c ∧ c < L.length
  · rw [show doA L ⟨1, c, 0, 0, 0⟩ = (⟨1, c, 0, 0, L.getD c.toNat 0⟩, true, L) from by unfold doA; rw [if_pos hc]; rfl]
    exact do_load h c 0 0 0 _ hc.1 hc.2 rfl
  · rw [show doA L ⟨1, c, 0, 0, 0⟩ = (Acc.zero, false, L) from if_neg hc]
    exact do_out h 1 c 0 0 0 hc
theorem notNil (fn : Fn) (first cap : Array Value) (w : World) : Sem.run Tryz.prog (binOp BinOp.neq 140 (Value.func fn first cap) Value.nilFunc) w = .ok (.bool true) w := by kernel_rfl
set_option maxHeartbeats 1600000 in
set_option maxRecDepth 100000 in
theorem wait_look {w : World} {m a : Nat} {L : List Int} (h : Mem w m a L) (n mode task stage c : Int) (fid : FuncId) (first cap : Array Value) (b : Bool) {S : List Nat} {G : World → Prop}
    (eg : ∀ args w, (callFunc fid args).run Tryz.prog w = .ok (.enter fid args) w) (hst : stageA mode stage = 0 ∨ stageA mode stage = 2) (hS : ∀ k, k ∈ S → k < w.heap.size ∧ k ≠ m ∧ k ≠ a) (hG : ∀ W W' T, G W → Touch T W W' → (∀ k, k ∈ T → w.heap.size ≤ k) → G W')
    (hF : ∀ W, Touch [] w W → Calls Tryz.prog fid (first ++ #[.int .u32 (doA L ⟨1, c, 0, 0, 0⟩).1.old] ++ cap) W fun e W' => e = .returned (.bool b) ∧ Touch S W W' ∧ G W') :
    Calls Tryz.prog 131 #[.pointer (some ⟨m, 0, none⟩), .agg #[.int .i64 n], .int .i64 mode, .int .i64 task, .agg #[.int .i64 stage], .int .i64 c, .func (.func fid) first cap] w
      fun e w' => e = .returned (.tuple #[.agg #[.int .i64 (if stageA mode stage = 2 then (if b then 4 else 3) else if b then 0 else if mode = 2 then 1 else 0)], .agg (doA L ⟨1, c, 0, 0, 0⟩).1.cells, .bool b, .bool (b && decide (stageA mode stage = 0))]) ∧ Mem w' m a L ∧ Touch S w w' ∧ G w' := by
  have hd := fun W (hM : Mem W m a L) => doload_any hM c
  have hs := fun W => stage_any mode stage W
  generalize (doA L ⟨1, c, 0, 0, 0⟩) = r at hd hF ⊢
  obtain ⟨⟨rk, rc, rx, ry, ro⟩, rok, L2⟩ := r
  simp only [Acc.cells] at hd hF ⊢
  have hmode : stageA mode stage = 2 → mode = 2 := fun h => by unfold stageA at h; split at h <;> omega
  generalize stageA mode stage = st at hs hst hmode ⊢
  have HMODE := Lib.hid hmode
  clear hmode
  generalize hnx : (if st = 2 then (if b then (4:Int) else 3) else if b then 0 else if mode = 2 then 1 else 0) = nx
  have HNX := Lib.hid hnx
  clear hnx
  have HD := Lib.hid hd
  have HF := Lib.hid hF
  have HS := Lib.hid hS
  have HG := Lib.hid hG
  have HT := Lib.hid hs
  clear hd hF hS hG hs
  have hrun := notNil (.func fid) first cap
  rcases hst with rfl | rfl
  · go_enter Tryz.func131, Tryz.ntmps131
    go_wp2_with fail
    refine (HT.out _).mono ?_
    rintro e w1 ⟨rfl, t1⟩
    obtain ⟨B0, B1, B2, B3⟩ := t1.own4 (by simp)
    have T1 : Touch [] w w1 := ((((Touch.refl [] _).alloc _).alloc _).alloc _).alloc _ |>.trans t1
    obtain ⟨x0, x1, x2⟩ := B0.own
    obtain ⟨y0, y1, y2⟩ := B3.own
    go_wp2_with fail
    refine (HD.out _ (h.touch T1 (by simp) (by simp))).mono ?_
    rintro e w2 ⟨rfl, t2⟩
    have T2 : Touch [] w w2 := T1.trans t2
    have Bn := t2.blk B2 (by simp)
    have Ba := t2.blk B3 (by simp)
    clear x0 x1 x2 y0 y1 y2 B0 B1 B2 B3 t1 t2 T1
    obtain ⟨y0, y1, y2⟩ := Ba.own
    go_wp2_with fail
    refine calls_from (Facts := fun W => Touch [] w W ∧ Blk W (w.heap.size + 2) #[.int .i64 0] ∧ Blk W (w.heap.size + 3) #[.int .i64 rk, .int .i64 rc, .int .u32 rx, .int .u32 ry, .int .u32 ro]) ?_ ⟨T2.newer touch_set5 (by simp; omega), touch_set5.blk Bn (by simp), blk_set5 Ba⟩
    rintro W ⟨tW, Bn, Ba⟩
    clear y0 y1 y2 T2
    refine (HF.out _ tW).mono ?_
    rintro e w3 ⟨rfl, t3, g3⟩
    have hM3 := (h.touch tW (by simp) (by simp)).touch t3 (fun hm => (HS.out _ hm).2.1 rfl) (fun hm => (HS.out _ hm).2.2 rfl)
    have T3 : Touch S w w3 := (tW.mono (by simp)).trans t3
    have Bn3 := t3.blk Bn (fun hm => by have := (HS.out _ hm).1; omega)
    have Ba3 := t3.blk Ba (fun hm => by have := (HS.out _ hm).1; omega)
    clear Bn Ba t3 tW
    obtain ⟨x0, x1, x2⟩ := Bn3.own
    obtain ⟨y0, y1, y2⟩ := Ba3.own
    cases b with
    | true =>
      go_wp2_with fail
      go_region
      all_goals go_wp2
      refine bodyPost_ret (v := .tuple #[.agg #[.int .i64 0], .agg #[.int .i64 rk, .int .i64 rc, .int .u32 rx, .int .u32 ry, .int .u32 ro], .bool true, .bool true]) (by simp [results, Tryz.results131, go_sem, x0, x1, y0, y1]) rfl ?_
      refine (fun (TF : Touch [w.heap.size + 2, w.heap.size + 3] w3 _) => ⟨by rw [← HNX.out]; rfl, h.new hM3 rfl TF (by simp), T3.newer TF (by simp), HG.out _ _ _ g3 TF (by simp)⟩) ?_
      repeat (first | with_reducible exact Touch.refl _ _ | with_reducible apply Touch.drew | with_reducible apply Touch.alloc | with_reducible refine Touch.set ?_ (by simp) _)
    | false =>
      by_cases h2 : mode = 2
      · subst h2
        go_wp2_with fail
        go_region
        all_goals go_wp2
        refine bodyPost_ret (v := .tuple #[.agg #[.int .i64 1], .agg #[.int .i64 rk, .int .i64 rc, .int .u32 rx, .int .u32 ry, .int .u32 ro], .bool false, .bool false]) (by simp [results, Tryz.results131, go_sem, x0, x1, y0, y1]) rfl ?_
        refine (fun (TF : Touch [w.heap.size + 2, w.heap.size + 3] w3 _) => ⟨by rw [← HNX.out]; rfl, h.new hM3 rfl TF (by simp), T3.newer TF (by simp), HG.out _ _ _ g3 TF (by simp)⟩) ?_
        repeat (first | with_reducible exact Touch.refl _ _ | with_reducible apply Touch.drew | with_reducible apply Touch.alloc | with_reducible refine Touch.set ?_ (by simp) _)
      · have h2' : (mode == 2) = false := by simpa using h2
        have H2 := Lib.hid h2
        clear h2
        go_wp2_with fail
        go_region
        all_goals go_wp2
        refine bodyPost_ret (v := .tuple #[.agg #[.int .i64 0], .agg #[.int .i64 rk, .int .i64 rc, .int .u32 rx, .int .u32 ry, .int .u32 ro], .bool false, .bool false]) (by simp [results, Tryz.results131, go_sem, x0, x1, y0, y1]) rfl ?_
        refine (fun (TF : Touch [w.heap.size + 2, w.heap.size + 3] w3 _) => ⟨by rw [← HNX.out, if_neg (by decide), if_neg (by decide), if_neg H2.out]; rfl, h.new hM3 rfl TF (by simp), T3.newer TF (by simp), HG.out _ _ _ g3 TF (by simp)⟩) ?_
        repeat (first | with_reducible exact Touch.refl _ _ | with_reducible apply Touch.drew | with_reducible apply Touch.alloc | with_reducible refine Touch.set ?_ (by simp) _)
  · go_enter Tryz.func131, Tryz.ntmps131
    go_wp2_with fail
    refine (HT.out _).mono ?_
    rintro e w1 ⟨rfl, t1⟩
    obtain ⟨B0, B1, B2, B3⟩ := t1.own4 (by simp)
    have T1 : Touch [] w w1 := ((((Touch.refl [] _).alloc _).alloc _).alloc _).alloc _ |>.trans t1
    obtain ⟨x0, x1, x2⟩ := B0.own
    obtain ⟨y0, y1, y2⟩ := B3.own
    go_wp2_with fail
    refine (HD.out _ (h.touch T1 (by simp) (by simp))).mono ?_
    rintro e w2 ⟨rfl, t2⟩
    have T2 : Touch [] w w2 := T1.trans t2
    have Bn := t2.blk B2 (by simp)
    have Ba := t2.blk B3 (by simp)
    clear x0 x1 x2 y0 y1 y2 B0 B1 B2 B3 t1 t2 T1
    obtain ⟨y0, y1, y2⟩ := Ba.own
    go_wp2_with fail
    refine calls_from (Facts := fun W => Touch [] w W ∧ Blk W (w.heap.size + 2) #[.int .i64 0] ∧ Blk W (w.heap.size + 3) #[.int .i64 rk, .int .i64 rc, .int .u32 rx, .int .u32 ry, .int .u32 ro]) ?_ ⟨T2.newer touch_set5 (by simp; omega), touch_set5.blk Bn (by simp), blk_set5 Ba⟩
    rintro W ⟨tW, Bn, Ba⟩
    clear y0 y1 y2 T2
    refine (HF.out _ tW).mono ?_
    rintro e w3 ⟨rfl, t3, g3⟩
    have hM3 := (h.touch tW (by simp) (by simp)).touch t3 (fun hm => (HS.out _ hm).2.1 rfl) (fun hm => (HS.out _ hm).2.2 rfl)
    have T3 : Touch S w w3 := (tW.mono (by simp)).trans t3
    have Bn3 := t3.blk Bn (fun hm => by have := (HS.out _ hm).1; omega)
    have Ba3 := t3.blk Ba (fun hm => by have := (HS.out _ hm).1; omega)
    clear Bn Ba t3 tW
    obtain ⟨x0, x1, x2⟩ := Bn3.own
    obtain ⟨y0, y1, y2⟩ := Ba3.own
    cases b with
    | true =>
      go_wp2_with fail
      go_region
      all_goals go_wp2
      refine bodyPost_ret (v := .tuple #[.agg #[.int .i64 4], .agg #[.int .i64 rk, .int .i64 rc, .int .u32 rx, .int .u32 ry, .int .u32 ro], .bool true, .bool false]) (by simp [results, Tryz.results131, go_sem, x0, x1, y0, y1]) rfl ?_
      refine (fun (TF : Touch [w.heap.size + 2, w.heap.size + 3] w3 _) => ⟨by rw [← HNX.out]; rfl, h.new hM3 rfl TF (by simp), T3.newer TF (by simp), HG.out _ _ _ g3 TF (by simp)⟩) ?_
      repeat (first | with_reducible exact Touch.refl _ _ | with_reducible apply Touch.drew | with_reducible apply Touch.alloc | with_reducible refine Touch.set ?_ (by simp) _)
    | false =>
      have hmode := HMODE.out (by first | rfl | trivial)
      subst hmode
      go_wp2_with fail
      go_region
      all_goals go_wp2
      refine bodyPost_ret (v := .tuple #[.agg #[.int .i64 3], .agg #[.int .i64 rk, .int .i64 rc, .int .u32 rx, .int .u32 ry, .int .u32 ro], .bool false, .bool false]) (by simp [results, Tryz.results131, go_sem, x0, x1, y0, y1]) rfl ?_
      refine (fun (TF : Touch [w.heap.size + 2, w.heap.size + 3] w3 _) => ⟨by rw [← HNX.out]; rfl, h.new hM3 rfl TF (by simp), T3.newer TF (by simp), HG.out _ _ _ g3 TF (by simp)⟩) ?_
      repeat (first | with_reducible exact Touch.refl _ _ | with_reducible apply Touch.drew | with_reducible apply Touch.alloc | with_reducible refine Touch.set ?_ (by simp) _)
end Go.Proofs.YthnimpkoidablaaGreat.Z

set_option linter.unusedVariables false
set_option linter.unusedSimpArgs false
namespace Go.Proofs.YthnimpkoidablaaGreat.Z
open Go.RowKit
set_option maxHeartbeats 1600000 in
set_option maxRecDepth 100000 in
theorem wait_say {w : World} {m a : Nat} {L : List Int} (h : Mem w m a L) (n mode task stage c : Int) (hn : I64 n) (fv : Value) (hst : stageA mode stage = 1) :
    Calls Tryz.prog 131 #[.pointer (some ⟨m, 0, none⟩), .agg #[.int .i64 n], .int .i64 mode, .int .i64 task, .agg #[.int .i64 stage], .int .i64 c, fv] w
      fun e w' => e = .returned (.tuple #[.agg #[.int .i64 2], .agg (doA L ⟨2, cellP n 2 task, (c + 1) % 4294967296, 0, 0⟩).1.cells, .bool false, .bool false]) ∧ Mem w' m a (doA L ⟨2, cellP n 2 task, (c + 1) % 4294967296, 0, 0⟩).2.2 ∧ Touch (lv a L) w w' := by
  have hd : ∀ W X, X = (c + 1) % 4294967296 → Mem W m a L → Calls Tryz.prog 127 #[.pointer (some ⟨m, 0, none⟩), .agg #[.int .i64 2, .int .i64 (cellP n 2 task), .int .u32 X, .int .u32 0, .int .u32 0]] W
      fun e w' => e = .returned (.tuple #[.agg (doA L ⟨2, cellP n 2 task, (c + 1) % 4294967296, 0, 0⟩).1.cells, .bool (doA L ⟨2, cellP n 2 task, (c + 1) % 4294967296, 0, 0⟩).2.1]) ∧ Mem w' m a (doA L ⟨2, cellP n 2 task, (c + 1) % 4294967296, 0, 0⟩).2.2 ∧ Touch (lv a L) W w' :=
    fun W X hX hM => by subst hX; exact do_any hM ⟨2, cellP n 2 task, (c + 1) % 4294967296, 0, 0⟩ (by simp; omega) (by simp)
  have hl := doA_length L ⟨2, cellP n 2 task, (c + 1) % 4294967296, 0, 0⟩
  have hs := fun W => stage_any mode stage W
  rw [hst] at hs
  generalize (doA L ⟨2, cellP n 2 task, (c + 1) % 4294967296, 0, 0⟩) = r at hd hl ⊢
  obtain ⟨⟨rk, rc, rx, ry, ro⟩, rok, L2⟩ := r
  simp only [Acc.cells] at hd hl ⊢
  have HD := Lib.hid hd
  have HL := Lib.hid hl
  have HN := Lib.hid hn
  have HT := Lib.hid hs
  clear hd hl hn hs hst
  go_enter Tryz.func131, Tryz.ntmps131
  go_wp2_with fail
  refine (HT.out _).mono ?_
  rintro e w1 ⟨rfl, t1⟩
  obtain ⟨B0, B1, B2, B3⟩ := t1.own4 (by simp)
  have T1 : Touch [] w w1 := ((((Touch.refl [] _).alloc _).alloc _).alloc _).alloc _ |>.trans t1
  obtain ⟨x0, x1, x2⟩ := B0.own
  go_wp2_with fail
  refine (mapWatch n task _ HN.out).mono ?_
  rintro e w2 ⟨rfl, t2⟩
  have T2 : Touch [] w w2 := T1.trans t2
  have Bn := t2.blk B2 (by simp)
  have Ba := t2.blk B3 (by simp)
  clear x0 x1 x2 B0 B1 B2 B3 t1 t2 T1
  go_wp2_with fail
  refine (HD.out _ _ ?hX (h.touch T2 (by simp) (by simp))).mono ?_
  case hX => unfold wrap64; omega
  rintro e w3 ⟨rfl, hM3, t3⟩
  have T3 : Touch (lv a L) w w3 := (T2.mono (by simp)).trans t3
  have Bn3 := t3.blk Bn (lv_new h (by omega))
  have Ba3 := t3.blk Ba (lv_new h (by omega))
  clear Bn Ba t3 T2
  obtain ⟨x0, x1, x2⟩ := Bn3.own
  obtain ⟨y0, y1, y2⟩ := Ba3.own
  go_wp2_with fail
  refine wp_from (Facts := fun W => Touch [w.heap.size + 2, w.heap.size + 3] w3 W ∧ Blk W (w.heap.size + 2) #[.int .i64 2] ∧ Blk W (w.heap.size + 3) #[.int .i64 rk, .int .i64 rc, .int .u32 rx, .int .u32 ry, .int .u32 ro]) ?_
    ⟨(touch_set5.mono (by simp)).set (by simp) _, ((touch_set5.blk Bn3 (by simp)).set 0 _).eq rfl, (blk_set5 Ba3).setNe (by simp) _⟩
  rintro W ⟨tW, BnW, BaW⟩
  clear x0 x1 x2 y0 y1 y2 Bn3 Ba3
  obtain ⟨x0, x1, x2⟩ := BnW.own
  obtain ⟨y0, y1, y2⟩ := BaW.own
  go_region
  all_goals go_wp2
  refine bodyPost_ret (v := .tuple #[.agg #[.int .i64 2], .agg #[.int .i64 rk, .int .i64 rc, .int .u32 rx, .int .u32 ry, .int .u32 ro], .bool false, .bool false]) (by simp [results, Tryz.results131, go_sem, x0, x1, y0, y1]) rfl ?_
  refine (fun (TF : Touch [w.heap.size + 2, w.heap.size + 3] w3 _) => ⟨rfl, h.new hM3 HL.out TF (by simp), T3.newer TF (by simp)⟩) ?_
  repeat (first | with_reducible exact tW | with_reducible exact Touch.refl _ _ | with_reducible apply Touch.drew | with_reducible apply Touch.alloc | with_reducible refine Touch.set ?_ (by simp) _)
set_option maxHeartbeats 1600000 in
set_option maxRecDepth 100000 in
theorem wait_forget {w : World} {m a : Nat} {L : List Int} (h : Mem w m a L) (n mode task stage c : Int) (hn : I64 n) (fv : Value) (hst : stageA mode stage = 4) :
    Calls Tryz.prog 131 #[.pointer (some ⟨m, 0, none⟩), .agg #[.int .i64 n], .int .i64 mode, .int .i64 task, .agg #[.int .i64 stage], .int .i64 c, fv] w
      fun e w' => e = .returned (.tuple #[.agg #[.int .i64 0], .agg (doA L ⟨2, cellP n 2 task, 0, 0, 0⟩).1.cells, .bool false, .bool true]) ∧ Mem w' m a (doA L ⟨2, cellP n 2 task, 0, 0, 0⟩).2.2 ∧ Touch (lv a L) w w' := by
  have hd := fun W (hM : Mem W m a L) => do_any hM ⟨2, cellP n 2 task, 0, 0, 0⟩ (by simp) (by simp)
  have hl := doA_length L ⟨2, cellP n 2 task, 0, 0, 0⟩
  have hs := fun W => stage_any mode stage W
  rw [hst] at hs
  generalize (doA L ⟨2, cellP n 2 task, 0, 0, 0⟩) = r at hd hl ⊢
  obtain ⟨⟨rk, rc, rx, ry, ro⟩, rok, L2⟩ := r
  simp only [Acc.cells] at hd hl ⊢
  have HD := Lib.hid hd
  have HL := Lib.hid hl
  have HN := Lib.hid hn
  have HT := Lib.hid hs
  clear hd hl hn hs hst
  go_enter Tryz.func131, Tryz.ntmps131
  go_wp2_with fail
  refine (HT.out _).mono ?_
  rintro e w1 ⟨rfl, t1⟩
  obtain ⟨B0, B1, B2, B3⟩ := t1.own4 (by simp)
  have T1 : Touch [] w w1 := ((((Touch.refl [] _).alloc _).alloc _).alloc _).alloc _ |>.trans t1
  obtain ⟨x0, x1, x2⟩ := B0.own
  go_wp2_with fail
  refine (mapWatch n task _ HN.out).mono ?_
  rintro e w2 ⟨rfl, t2⟩
  have T2 : Touch [] w w2 := T1.trans t2
  have Bn := t2.blk B2 (by simp)
  have Ba := t2.blk B3 (by simp)
  clear x0 x1 x2 B0 B1 B2 B3 t1 t2 T1
  go_wp2_with fail
  refine (HD.out _ (h.touch T2 (by simp) (by simp))).mono ?_
  rintro e w3 ⟨rfl, hM3, t3⟩
  have T3 : Touch (lv a L) w w3 := (T2.mono (by simp)).trans t3
  have Bn3 := t3.blk Bn (lv_new h (by omega))
  have Ba3 := t3.blk Ba (lv_new h (by omega))
  clear Bn Ba t3 T2
  obtain ⟨y0, y1, y2⟩ := Ba3.own
  go_wp2_with fail
  refine wp_from (Facts := fun W => Touch [w.heap.size + 2, w.heap.size + 3] w3 W ∧ Blk W (w.heap.size + 2) #[.int .i64 0] ∧ Blk W (w.heap.size + 3) #[.int .i64 rk, .int .i64 rc, .int .u32 rx, .int .u32 ry, .int .u32 ro]) ?_
    ⟨touch_set5.mono (by simp), touch_set5.blk Bn3 (by simp), blk_set5 Ba3⟩
  rintro W ⟨tW, BnW, BaW⟩
  clear y0 y1 y2 Bn3 Ba3
  obtain ⟨x0, x1, x2⟩ := BnW.own
  obtain ⟨y0, y1, y2⟩ := BaW.own
  go_region
  all_goals go_wp2
  refine bodyPost_ret (v := .tuple #[.agg #[.int .i64 0], .agg #[.int .i64 rk, .int .i64 rc, .int .u32 rx, .int .u32 ry, .int .u32 ro], .bool false, .bool true]) (by simp [results, Tryz.results131, go_sem, x0, x1, y0, y1]) rfl ?_
  refine (fun (TF : Touch [w.heap.size + 2, w.heap.size + 3] w3 _) => ⟨rfl, h.new hM3 HL.out TF (by simp), T3.newer TF (by simp)⟩) ?_
  repeat (first | with_reducible exact tW | with_reducible exact Touch.refl _ _ | with_reducible apply Touch.drew | with_reducible apply Touch.alloc | with_reducible refine Touch.set ?_ (by simp) _)
set_option maxHeartbeats 1600000 in
set_option maxRecDepth 100000 in
theorem wait_sleep {w : World} {m a : Nat} {L : List Int} (h : Mem w m a L) (n mode task stage c : Int) (hn : I64 n) (fv : Value) (hst : stageA mode stage = 3) :
    Calls Tryz.prog 131 #[.pointer (some ⟨m, 0, none⟩), .agg #[.int .i64 n], .int .i64 mode, .int .i64 task, .agg #[.int .i64 stage], .int .i64 c, fv] w
      fun e w' => e = .returned (.tuple #[.agg #[.int .i64 (if (takeA L n task).2.1 then 2 else 3)], .agg (takeA L n task).1.cells, .bool false, .bool false]) ∧ Mem w' m a (takeA L n task).2.2 ∧ Touch (lv a L) w w' := by
  have hmem := h
  have hd := fun W (hM : Mem W m a L) => take_any hM n task hn
  have hl : (takeA L n task).2.2.length = L.length := by
    unfold takeA
    split
    · exact doA_length _ _
    · rfl
  have hs := fun W => stage_any mode stage W
  rw [hst] at hs
  generalize (takeA L n task) = r at hd hl ⊢
  obtain ⟨⟨rk, rc, rx, ry, ro⟩, rok, L2⟩ := r
  simp only [Acc.cells] at hd hl ⊢
  have HD := Lib.hid hd
  have HL := Lib.hid hl
  have HT := Lib.hid hs
  clear hd hl hn hs hst
  go_enter Tryz.func131, Tryz.ntmps131
  go_wp2_with fail
  refine (HT.out _).mono ?_
  rintro e w1 ⟨rfl, t1⟩
  obtain ⟨B0, B1, B2, B3⟩ := t1.own4 (by simp)
  have T1 : Touch [] w w1 := ((((Touch.refl [] _).alloc _).alloc _).alloc _).alloc _ |>.trans t1
  obtain ⟨x0, x1, x2⟩ := B0.own
  go_wp2_with fail
  refine (HD.out _ (h.touch T1 (by simp) (by simp))).mono ?_
  rintro e w3 ⟨rfl, hM3, t3⟩
  have T3 : Touch (lv a L) w w3 := (T1.mono (by simp)).trans t3
  have Bn3 := t3.blk B2 (lv_new hmem (by omega))
  have Ba3 := t3.blk B3 (lv_new hmem (by omega))
  clear B0 B1 B2 B3 t3 T1 x0 x1 x2 t1
  obtain ⟨x0, x1, x2⟩ := Bn3.own
  obtain ⟨y0, y1, y2⟩ := Ba3.own
  cases rok with
  | true =>
    go_wp2_with fail
    refine wp_from (Facts := fun W => Touch [w.heap.size + 2, w.heap.size + 3] w3 W ∧ Blk W (w.heap.size + 2) #[.int .i64 2] ∧ Blk W (w.heap.size + 3) #[.int .i64 rk, .int .i64 rc, .int .u32 rx, .int .u32 ry, .int .u32 ro]) ?_
      ⟨(touch_set5.mono (by simp)).set (by simp) _, ((touch_set5.blk Bn3 (by simp)).set 0 _).eq rfl, (blk_set5 Ba3).setNe (by simp) _⟩
    rintro W ⟨tW, BnW, BaW⟩
    clear x0 x1 x2 y0 y1 y2 Bn3 Ba3
    obtain ⟨x0, x1, x2⟩ := BnW.own
    obtain ⟨y0, y1, y2⟩ := BaW.own
    go_region
    all_goals go_wp2
    refine bodyPost_ret (v := .tuple #[.agg #[.int .i64 2], .agg #[.int .i64 rk, .int .i64 rc, .int .u32 rx, .int .u32 ry, .int .u32 ro], .bool false, .bool false]) (by simp [results, Tryz.results131, go_sem, x0, x1, y0, y1]) rfl ?_
    refine (fun (TF : Touch [w.heap.size + 2, w.heap.size + 3] w3 _) => ⟨rfl, hmem.new hM3 HL.out TF (by simp), T3.newer TF (by simp)⟩) ?_
    repeat (first | with_reducible exact tW | with_reducible exact Touch.refl _ _ | with_reducible apply Touch.drew | with_reducible apply Touch.alloc | with_reducible refine Touch.set ?_ (by simp) _)
  | false =>
    go_wp2_with fail
    refine wp_from (Facts := fun W => Touch [w.heap.size + 2, w.heap.size + 3] w3 W ∧ Blk W (w.heap.size + 2) #[.int .i64 3] ∧ Blk W (w.heap.size + 3) #[.int .i64 rk, .int .i64 rc, .int .u32 rx, .int .u32 ry, .int .u32 ro]) ?_
      ⟨(touch_set5.mono (by simp)).set (by simp) _, ((touch_set5.blk Bn3 (by simp)).set 0 _).eq rfl, (blk_set5 Ba3).setNe (by simp) _⟩
    rintro W ⟨tW, BnW, BaW⟩
    clear x0 x1 x2 y0 y1 y2 Bn3 Ba3
    obtain ⟨x0, x1, x2⟩ := BnW.own
    obtain ⟨y0, y1, y2⟩ := BaW.own
    go_region
    all_goals go_wp2
    refine bodyPost_ret (v := .tuple #[.agg #[.int .i64 3], .agg #[.int .i64 rk, .int .i64 rc, .int .u32 rx, .int .u32 ry, .int .u32 ro], .bool false, .bool false]) (by simp [results, Tryz.results131, go_sem, x0, x1, y0, y1]) rfl ?_
    refine (fun (TF : Touch [w.heap.size + 2, w.heap.size + 3] w3 _) => ⟨rfl, hmem.new hM3 HL.out TF (by simp), T3.newer TF (by simp)⟩) ?_
    repeat (first | with_reducible exact tW | with_reducible exact Touch.refl _ _ | with_reducible apply Touch.drew | with_reducible apply Touch.alloc | with_reducible refine Touch.set ?_ (by simp) _)
end Go.Proofs.YthnimpkoidablaaGreat.Z

set_option linter.unusedVariables false
set_option linter.unusedSimpArgs false
namespace Go.Proofs.YthnimpkoidablaaGreat.Z
open Go.RowKit
attribute [local go_sem ↓] Go.wp_at_zero Go.wp_at_succ
structure Wk where
  on : Bool
  cell : Int
  i : Int
  hit : Bool
deriving DecidableEq
def Wk.zero : Wk := ⟨false, 0, 0, false⟩
def Wk.cells (k : Wk) : Array Value := #[.bool k.on, .int .i64 k.cell, .int .i64 k.i, .bool k.hit]
def nextA (n : Int) (k : Wk) : Wk := if n ≤ k.i + 1 then Wk.zero else ⟨k.on, k.cell, k.i + 1, false⟩
def wakeA (L : List Int) (n : Int) (k : Wk) : Wk × Acc × List Int :=
  if k.on then
    if k.hit then (if (giveA L n k.i).2.1 then (nextA n k, (giveA L n k.i).1, (giveA L n k.i).2.2) else (Wk.zero, Acc.zero, L))
    else if (doA L ⟨1, cellP n 2 k.i, 0, 0, 0⟩).2.1 then
      (if (doA L ⟨1, cellP n 2 k.i, 0, 0, 0⟩).1.old = (k.cell + 1) % 4294967296 then ⟨k.on, k.cell, k.i, true⟩ else nextA n k, (doA L ⟨1, cellP n 2 k.i, 0, 0, 0⟩).1, L)
    else (Wk.zero, Acc.zero, L)
  else (Wk.zero, Acc.zero, L)
def beginA (mode c : Int) : Wk := if mode = 2 then ⟨true, c, 0, false⟩ else Wk.zero
theorem cellP_task {n row i : Int} (h : 0 ≤ cellP n row i) : 0 ≤ i ∧ i < 64 := by
  unfold cellP at h
  split at h <;> omega
theorem doA_ok_cell {L : List Int} {b : Acc} (h : (doA L b).2.1 = true) : 0 ≤ b.cell ∧ b.cell < L.length := by
  unfold doA at h
  split at h
  · assumption
  · simp at h
theorem doA_no {L : List Int} {b : Acc} (h : (doA L b).2.1 = false) : doA L b = (Acc.zero, false, L) := by
  unfold doA at h ⊢
  split
  · rename_i hc
    rw [if_pos hc] at h
    dsimp only at h ⊢
    split
    · rename_i h1; rw [if_pos h1] at h; simp at h
    · rename_i h1; rw [if_neg h1] at h
      split
      · rename_i h3; rw [if_pos h3] at h; simp at h
      · rename_i h3; rw [if_neg h3] at h
        split
        · rename_i h5; rw [if_pos h5] at h; simp at h
        · rename_i h5; rw [if_neg h5] at h
          split
          · rename_i h24; rw [if_pos h24] at h; simp at h
          · rfl
  · rfl
theorem begin_any (mode c : Int) (w : World) : Calls Tryz.prog 133 #[.int .i64 mode, .int .i64 c] w fun e w' => e = .returned (.agg (beginA mode c).cells) ∧ Touch [] w w' := by
  by_cases h : mode = 2
  · subst h
    simp only [beginA, if_true, Wk.cells]
    go_enter Tryz.func133, Tryz.ntmps133
    go_wp2
    refine bodyPost_ret (v := .agg #[.bool true, .int .i64 c, .int .i64 0, .bool false]) (by simp [results, Tryz.results133, go_sem]) rfl ⟨rfl, ?_⟩
    repeat (first | with_reducible exact Touch.refl _ _ | with_reducible apply Touch.alloc | with_reducible refine Touch.setNew ?_ (by simp) _)
  · rw [show beginA mode c = Wk.zero from if_neg h]
    have h' : (mode != 2) = true := by simpa using h
    clear h
    simp only [Wk.cells, Wk.zero]
    go_enter Tryz.func133, Tryz.ntmps133
    go_wp2
    refine bodyPost_ret (v := .agg #[.bool false, .int .i64 0, .int .i64 0, .bool false]) (by simp [results, Tryz.results133, go_sem]) rfl ⟨rfl, ?_⟩
    repeat (first | with_reducible exact Touch.refl _ _ | with_reducible apply Touch.alloc | with_reducible refine Touch.setNew ?_ (by simp) _)
theorem wnext_any (n : Int) (k : Wk) (w : World) (hi : 0 ≤ k.i ∧ k.i < 64) :
    Calls Tryz.prog 126 #[.agg #[.int .i64 n], .agg k.cells] w fun e w' => e = .returned (.agg (nextA n k).cells) ∧ Touch [] w w' := by
  obtain ⟨on, cell, i, hit⟩ := k
  obtain ⟨i0, i1⟩ := hi
  simp only at i0 i1
  by_cases h : n ≤ i + 1
  · rw [show nextA n ⟨on, cell, i, hit⟩ = Wk.zero from if_pos h]
    simp only [Wk.cells, Wk.zero]
    go_enter Tryz.func126, Tryz.ntmps126
    go_wp2
    refine bodyPost_ret (v := .agg #[.bool false, .int .i64 0, .int .i64 0, .bool false]) (by simp [results, Tryz.results126, go_sem]) rfl ⟨rfl, ?_⟩
    repeat (first | with_reducible exact Touch.refl _ _ | with_reducible apply Touch.alloc | with_reducible refine Touch.setNew ?_ (by simp) _)
  · rw [show nextA n ⟨on, cell, i, hit⟩ = ⟨on, cell, i + 1, false⟩ from if_neg h]
    simp only [Wk.cells]
    go_enter Tryz.func126, Tryz.ntmps126
    go_wp2
    refine bodyPost_ret (v := .agg #[.bool on, .int .i64 cell, .int .i64 (i + 1), .bool false]) (by simp [results, Tryz.results126, go_sem]) rfl ⟨rfl, ?_⟩
    repeat (first | with_reducible exact Touch.refl _ _ | with_reducible apply Touch.alloc | with_reducible refine Touch.setNew ?_ (by simp) _)
theorem give_has {S0 : List Nat} {w0 w : World} {m a : Nat} {L : List Int} {rs : List Res} (H : Has S0 w0 w (.mem m a L :: rs)) (n i : Int) (hn : I64 n) :
    Calls Tryz.prog 125 #[.pointer (some ⟨m, 0, none⟩), .agg #[.int .i64 n], .int .i64 i] w
      fun e w' => e = .returned (.tuple #[.agg (giveA L n i).1.cells, .bool (giveA L n i).2.1]) ∧ Has S0 w0 w' (.mem m a (giveA L n i).2.2 :: rs) :=
  (give_any H.mem n i hn).mono fun e w' ⟨he, hM, t⟩ => ⟨he, H.words hM (doA_length _ _) t⟩
theorem do_has {S0 : List Nat} {w0 w : World} {m a : Nat} {L : List Int} {rs : List Res} (H : Has S0 w0 w (.mem m a L :: rs)) (b : Acc) (hx : 0 ≤ b.x ∧ b.x < 4294967296) (hy : 0 ≤ b.y ∧ b.y < 4294967296) :
    Calls Tryz.prog 127 #[.pointer (some ⟨m, 0, none⟩), .agg b.cells] w
      fun e w' => e = .returned (.tuple #[.agg (doA L b).1.cells, .bool (doA L b).2.1]) ∧ Has S0 w0 w' (.mem m a (doA L b).2.2 :: rs) :=
  (do_any H.mem b hx hy).mono fun e w' ⟨he, hM, t⟩ => ⟨he, H.words hM (doA_length _ _) t⟩
theorem doload_has {S0 : List Nat} {w0 w : World} {m a : Nat} {L : List Int} {rs : List Res} (H : Has S0 w0 w (.mem m a L :: rs)) (c : Int) :
    Calls Tryz.prog 127 #[.pointer (some ⟨m, 0, none⟩), .agg #[.int .i64 1, .int .i64 c, .int .u32 0, .int .u32 0, .int .u32 0]] w
      fun e w' => e = .returned (.tuple #[.agg (doA L ⟨1, c, 0, 0, 0⟩).1.cells, .bool (doA L ⟨1, c, 0, 0, 0⟩).2.1]) ∧ Has S0 w0 w' (.mem m a L :: rs) :=
  (doload_any H.mem c).mono fun e w' ⟨he, t⟩ => ⟨he, H.grow t⟩
set_option maxHeartbeats 1600000 in
set_option maxRecDepth 100000 in
theorem wake_off {S0 : List Nat} {w0 w : World} {rs : List Res} (H : Has S0 w0 w rs) (mm : Value) (n cell i : Int) (hit : Bool) :
    Calls Tryz.prog 80 #[mm, .agg #[.int .i64 n], .agg (Wk.mk false cell i hit).cells] w
      fun e w' => e = .returned (.tuple #[.agg Wk.zero.cells, .agg Acc.zero.cells]) ∧ Has S0 w0 w' rs := by
  simp only [Wk.cells, Wk.zero, Acc.zero, Acc.cells]
  go_enter Tryz.func80, Tryz.ntmps80
  go_wp2
  refine bodyPost_ret (v := .tuple #[.agg #[.bool false, .int .i64 0, .int .i64 0, .bool false], .agg #[.int .i64 0, .int .i64 0, .int .u32 0, .int .u32 0, .int .u32 0]]) (by simp [results, Tryz.results80, go_sem]) rfl ⟨rfl, H.grow ?_⟩
  repeat (first | with_reducible exact Touch.refl _ _ | with_reducible apply Touch.alloc | with_reducible refine Touch.setNew ?_ (by simp) _)
set_option maxHeartbeats 1600000 in
set_option maxRecDepth 100000 in
theorem wake_hit_no {S0 : List Nat} {w0 w : World} {m a : Nat} {L : List Int} {rs : List Res} (H : Has S0 w0 w (.mem m a L :: rs)) (n cell i : Int) (hn : I64 n) (hb : (giveA L n i).2.1 = false) :
    Calls Tryz.prog 80 #[.pointer (some ⟨m, 0, none⟩), .agg #[.int .i64 n], .agg (Wk.mk true cell i true).cells] w
      fun e w' => e = .returned (.tuple #[.agg Wk.zero.cells, .agg Acc.zero.cells]) ∧ Has S0 w0 w' (.mem m a L :: rs) := by
  have hg := fun W rs (H : Has S0 w0 W (.mem m a L :: rs)) => give_has H n i hn
  rw [show giveA L n i = (Acc.zero, false, L) from doA_no hb] at hg
  have HG := Lib.hid hg
  have HH := Lib.hid H
  clear hg hb hn H
  simp only [Wk.cells, Wk.zero, Acc.zero, Acc.cells]
  go_enter Tryz.func80, Tryz.ntmps80
  go_wp2_with fail
  refine (HG.out _ _ HH.out.al5).mono ?_
  rintro e w1 ⟨rfl, H1⟩
  obtain ⟨x0, x1, x2⟩ := H1.blk1.own
  obtain ⟨y0, y1, y2⟩ := H1.blk2.own
  obtain ⟨z0, z1, z2⟩ := H1.blk3.own
  simp only [Acc.cells, Acc.zero]
  go_wp2_with fail
  refine bodyPost_ret (v := .tuple #[.agg #[.bool false, .int .i64 0, .int .i64 0, .bool false], .agg #[.int .i64 0, .int .i64 0, .int .u32 0, .int .u32 0, .int .u32 0]]) (by simp [results, Tryz.results80, go_sem, y0, y1, y2, z0, z1, z2]) rfl ⟨rfl, ?_⟩
  exact H1.done5 (by repeat (first | with_reducible exact Touch.refl _ _ | with_reducible apply Touch.alloc | with_reducible refine Touch.set ?_ (by simp) _))
def WKeep (S0 : List Nat) (w0 : World) (m a : Nat) (L : List Int) (g : Nat) (ga : Array Value) (b : Nat) (gn gk : Array Value) (rs : List Res) (w' : World) : Prop :=
  ∃ c2 c3 : Array Value, c2.size = 4 ∧ c3.size = 5 ∧ Has S0 w0 w' (.mem m a L :: .blk g ga :: .blk (b + 4) #[.bool false, .int .i64 0, .int .i64 0, .bool false] :: .blk (b + 3) c3 :: .blk (b + 2) c2 :: .blk (b + 1) gk :: .blk b gn :: rs)
theorem WKeep.set2 {S0 : List Nat} {w0 : World} {m a : Nat} {L : List Int} {g : Nat} {ga : Array Value} {b : Nat} {gn gk : Array Value} {rs : List Res} {w' : World} (h : WKeep S0 w0 m a L g ga b gn gk rs w') (i : Nat) (v : Value) : WKeep S0 w0 m a L g ga b gn gk rs (w'.setCell ⟨b + 1 + 1, i, none⟩ v) := by
  obtain ⟨c2, c3, e2, e3, H⟩ := h
  exact ⟨c2.setIfInBounds i v, c3, by simpa using e2, e3, ((H.perm (perm_past4 _ _ _ _ [_] _).symm).set i v).perm (perm_past4 _ _ _ _ [_] _)⟩
theorem WKeep.set3 {S0 : List Nat} {w0 : World} {m a : Nat} {L : List Int} {g : Nat} {ga : Array Value} {b : Nat} {gn gk : Array Value} {rs : List Res} {w' : World} (h : WKeep S0 w0 m a L g ga b gn gk rs w') (i : Nat) (v : Value) : WKeep S0 w0 m a L g ga b gn gk rs (w'.setCell ⟨b + 1 + 1 + 1, i, none⟩ v) := by
  obtain ⟨c2, c3, e2, e3, H⟩ := h
  exact ⟨c2, c3.setIfInBounds i v, e2, by simpa using e3, H.set3 i v⟩
abbrev WFacts (g : Nat) (ga : Array Value) (b : Nat) (gn gk : Array Value) (w' : World) : Prop :=
  (∀ i, w'.cell? ⟨g, i, none⟩ = ga[i]?) ∧ (∀ i, w'.cell? ⟨b + 1, i, none⟩ = gk[i]?) ∧ (∀ i, w'.cell? ⟨b, i, none⟩ = gn[i]?) ∧
  (∀ i, w'.frozen? ⟨b + 1 + 1, i, none⟩ = false) ∧ (∀ i, w'.frozen? ⟨b + 1 + 1 + 1, i, none⟩ = false) ∧
  (∀ i, i < 4 → w'.cell? ⟨b + 1 + 1, i, none⟩ = some (cellD w' (b + 2) i)) ∧ (∀ i, i < 5 → w'.cell? ⟨b + 1 + 1 + 1, i, none⟩ = some (cellD w' (b + 3) i))
theorem wkeep_facts {S0 : List Nat} {w0 : World} {m a : Nat} {L : List Int} {g : Nat} {ga : Array Value} {b : Nat} {gn gk : Array Value} {rs : List Res} {w' : World} (h : WKeep S0 w0 m a L g ga b gn gk rs w') :
    WKeep S0 w0 m a L g ga b gn gk rs w' ∧ WFacts g ga b gn gk w' := by
  refine ⟨h, ?_⟩
  obtain ⟨c2, c3, e2, e3, H⟩ := h
  exact ⟨H.blk1.cell, H.blk5.cell, (H.at_ 6 rfl).cell, H.blk4.free, H.blk3.free, fun i hi => cellD_is H.blk4 (by omega), fun i hi => cellD_is H.blk3 (by omega)⟩
theorem WKeep.grow {S0 : List Nat} {w0 : World} {m a : Nat} {L : List Int} {g : Nat} {ga : Array Value} {b : Nat} {gn gk : Array Value} {rs : List Res} {w' w'' : World} (h : WKeep S0 w0 m a L g ga b gn gk rs w') (t : Touch [] w' w'') : WKeep S0 w0 m a L g ga b gn gk rs w'' := by
  obtain ⟨c2, c3, e2, e3, H⟩ := h
  exact ⟨c2, c3, e2, e3, H.grow t⟩
set_option maxHeartbeats 1600000 in
set_option maxRecDepth 100000 in
theorem wake_hit {S0 : List Nat} {w0 w : World} {m a : Nat} {L : List Int} {rs : List Res} (H : Has S0 w0 w (.mem m a L :: rs)) (n cell i : Int) (hn : I64 n) (hb : (giveA L n i).2.1 = true) :
    Calls Tryz.prog 80 #[.pointer (some ⟨m, 0, none⟩), .agg #[.int .i64 n], .agg (Wk.mk true cell i true).cells] w
      fun e w' => e = .returned (.tuple #[.agg (nextA n (Wk.mk true cell i true)).cells, .agg (giveA L n i).1.cells]) ∧ Has S0 w0 w' (.mem m a (giveA L n i).2.2 :: rs) := by
  have hi : 0 ≤ i ∧ i < 64 := cellP_task (doA_ok_cell hb).1
  have hg := fun W rs (H : Has S0 w0 W (.mem m a L :: rs)) => give_has H n i hn
  have hx := fun W => wnext_any n (Wk.mk true cell i true) W hi
  rw [hb] at hg
  generalize (giveA L n i).1 = r at hg ⊢
  generalize (giveA L n i).2.2 = L2 at hg ⊢
  generalize nextA n (Wk.mk true cell i true) = k2 at hx ⊢
  obtain ⟨rk, rc, rx, ry, ro⟩ := r
  obtain ⟨o2, c2, i2, h2⟩ := k2
  simp only [Wk.cells, Wk.zero, Acc.zero, Acc.cells] at hg hx ⊢
  have HG := Lib.hid hg
  have HX := Lib.hid hx
  have HH := Lib.hid H
  clear hg hb hn H hi hx
  go_enter Tryz.func80, Tryz.ntmps80
  go_wp2_with fail
  refine (HG.out _ _ HH.out.al5).mono ?_
  rintro e w1 ⟨rfl, H1⟩
  go_wp2_with fail
  refine wp_from (Facts := fun W => Has S0 w0 W (.mem m a L2 :: .blk w1.heap.size #[.int .i64 rk, .int .i64 rc, .int .u32 rx, .int .u32 ry, .int .u32 ro] :: .blk (w.heap.size + 4) #[.bool false, .int .i64 0, .int .i64 0, .bool false] :: .blk (w.heap.size + 3) #[.int .i64 0, .int .i64 0, .int .u32 0, .int .u32 0, .int .u32 0] :: .blk (w.heap.size + 2) #[.bool false, .int .i64 0, .int .i64 0, .bool false] :: .blk (w.heap.size + 1) #[.bool true, .int .i64 cell, .int .i64 i, .bool true] :: .blk w.heap.size #[.int .i64 n] :: rs)) ?_ H1.al1
  intro W HW
  obtain ⟨a0, a1, a2⟩ := HW.blk1.own
  obtain ⟨y0, y1, y2⟩ := HW.blk3.own
  obtain ⟨z0, z1, z2⟩ := HW.blk4.own
  obtain ⟨k0, k1, k2⟩ := HW.blk5.own
  obtain ⟨n0, n1, n2⟩ := (HW.at_ 6 rfl).own
  clear a0 a1 a2 y0 y1 y2 z0 z1 z2 k0 k1 k2 n0 n1 n2
  have hkeep : WKeep S0 w0 m a L2 w1.heap.size #[.int .i64 rk, .int .i64 rc, .int .u32 rx, .int .u32 ry, .int .u32 ro] w.heap.size #[.int .i64 n] #[.bool true, .int .i64 cell, .int .i64 i, .bool true] rs W := ⟨_, _, rfl, rfl, HW⟩
  generalize w1.heap.size = g at hkeep ⊢
  have hdrew := hkeep.grow ((Touch.refl [] W).drew)
  have HC := Lib.hid (fun w' (t : WKeep S0 w0 m a L2 g #[.int .i64 rk, .int .i64 rc, .int .u32 rx, .int .u32 ry, .int .u32 ro] w.heap.size #[.int .i64 n] #[.bool true, .int .i64 cell, .int .i64 i, .bool true] rs w') => (HX.out w').mono (R' := fun e w'' => e = .returned (.agg #[.bool o2, .int .i64 c2, .int .i64 i2, .bool h2]) ∧ WKeep S0 w0 m a L2 g #[.int .i64 rk, .int .i64 rc, .int .u32 rx, .int .u32 ry, .int .u32 ro] w.heap.size #[.int .i64 n] #[.bool true, .int .i64 cell, .int .i64 i, .bool true] rs w'') (fun e w'' h => ⟨h.1, t.grow h.2⟩))
  go_region_held3 (fun w' => WKeep S0 w0 m a L2 g #[.int .i64 rk, .int .i64 rc, .int .u32 rx, .int .u32 ry, .int .u32 ro] w.heap.size #[.int .i64 n] #[.bool true, .int .i64 cell, .int .i64 i, .bool true] rs w' ∧ WFacts g #[.int .i64 rk, .int .i64 rc, .int .u32 rx, .int .u32 ry, .int .u32 ro] w.heap.size #[.int .i64 n] #[.bool true, .int .i64 cell, .int .i64 i, .bool true] w')
    (first | (go_split_ands; refine wkeep_facts ?_; first | with_reducible assumption | with_reducible exact hdrew | (repeat (first | with_reducible assumption | with_reducible apply WKeep.set2 | with_reducible apply WKeep.set3))))
    (first | (go_at_call 126; refine (HC.out _ (by go_split_ands; first | with_reducible assumption | with_reducible exact hdrew)).mono ?_; rintro e w5 ⟨rfl, t5⟩))
  all_goals
    obtain ⟨d2, d3, e2, e3, H5⟩ := t5
    refine ‹∀ (a : Act) (w : World), Code.wp _ _ _ a w → _› _ _ ?_
    refine wp_from (Facts := fun W => Has S0 w0 W (.mem m a L2 :: .blk g #[.int .i64 rk, .int .i64 rc, .int .u32 rx, .int .u32 ry, .int .u32 ro] :: .blk (w.heap.size + 4) #[.bool false, .int .i64 0, .int .i64 0, .bool false] :: .blk (w.heap.size + 3) #[.int .i64 rk, .int .i64 rc, .int .u32 rx, .int .u32 ry, .int .u32 ro] :: .blk (w.heap.size + 2) #[.bool o2, .int .i64 c2, .int .i64 i2, .bool h2] :: .blk (w.heap.size + 1) #[.bool true, .int .i64 cell, .int .i64 i, .bool true] :: .blk w.heap.size #[.int .i64 n] :: rs)) ?_
      (by
        have H6 := (((((((((H5.set4 0 (.bool o2)).set4 1 (.int .i64 c2)).set4 2 (.int .i64 i2)).set4 3 (.bool h2)).set3 0 (.int .i64 rk)).set3 1 (.int .i64 rc)).set3 2 (.int .u32 rx)).set3 3 (.int .u32 ry)).set3 4 (.int .u32 ro))
        rw [set_all4 e2, set_all5 e3] at H6
        exact H6)
    intro W' HW'
    obtain ⟨y0, y1, y2⟩ := HW'.blk3.own
    obtain ⟨z0, z1, z2⟩ := HW'.blk4.own
    go_wp2_with fail
    refine bodyPost_ret (v := .tuple #[.agg #[.bool o2, .int .i64 c2, .int .i64 i2, .bool h2], .agg #[.int .i64 rk, .int .i64 rc, .int .u32 rx, .int .u32 ry, .int .u32 ro]]) (by simp [results, Tryz.results80, go_sem, y0, y1, y2, z0, z1, z2]) rfl ⟨rfl, ?_⟩
    exact HW'.done6 (Touch.refl _ _)
set_option maxHeartbeats 1600000 in
set_option maxRecDepth 100000 in
theorem wake_look_no {S0 : List Nat} {w0 w : World} {m a : Nat} {L : List Int} {rs : List Res} (H : Has S0 w0 w (.mem m a L :: rs)) (n cell i : Int) (hn : I64 n) (hb : (doA L ⟨1, cellP n 2 i, 0, 0, 0⟩).2.1 = false) :
    Calls Tryz.prog 80 #[.pointer (some ⟨m, 0, none⟩), .agg #[.int .i64 n], .agg (Wk.mk true cell i false).cells] w
      fun e w' => e = .returned (.tuple #[.agg Wk.zero.cells, .agg (doA L ⟨1, cellP n 2 i, 0, 0, 0⟩).1.cells]) ∧ Has S0 w0 w' (.mem m a L :: rs) := by
  have hg := fun W rs (H : Has S0 w0 W (.mem m a L :: rs)) => doload_has H (cellP n 2 i)
  generalize doA L ⟨1, cellP n 2 i, 0, 0, 0⟩ = R at hg hb ⊢
  obtain ⟨⟨rk, rc, rx, ry, ro⟩, rok, L2⟩ := R
  simp only [Wk.cells, Wk.zero, Acc.cells] at hg ⊢
  simp only at hb
  subst hb
  have HG := Lib.hid hg
  have HH := Lib.hid H
  have HN := Lib.hid hn
  clear hg H hn
  go_enter Tryz.func80, Tryz.ntmps80
  go_wp2_with fail
  refine (mapWatch n i _ HN.out).mono ?_
  rintro e w1 ⟨rfl, t1⟩
  have H1 := HH.out.al5.grow t1
  obtain ⟨k0, k1, k2⟩ := (H1.at_ 4 rfl).own
  go_wp2_with fail
  refine (HG.out _ _ H1).mono ?_
  rintro e w2 ⟨rfl, H2⟩
  clear k0 k1 k2 H1 t1
  have H3 := H2.al1 (c0 := #[.int .i64 rk, .int .i64 rc, .int .u32 rx, .int .u32 ry, .int .u32 ro]) (t0 := 32)
  obtain ⟨k0, k1, k2⟩ := (H2.at_ 4 rfl).own
  obtain ⟨n0, n1, n2⟩ := (H2.at_ 5 rfl).own
  obtain ⟨z0, z1, z2⟩ := (H2.at_ 1 rfl).own
  go_wp2_with fail
  clear H3
  generalize hG : w2.heap.size = G
  refine wp_from (Facts := fun W => Has S0 w0 W (.mem m a L :: .blk G #[.int .i64 rk, .int .i64 rc, .int .u32 rx, .int .u32 ry, .int .u32 ro] :: .blk (w.heap.size + 4) #[.bool false, .int .i64 0, .int .i64 0, .bool false] :: .blk (w.heap.size + 3) #[.int .i64 0, .int .i64 0, .int .u32 0, .int .u32 0, .int .u32 0] :: .blk (w.heap.size + 2) #[.bool false, .int .i64 0, .int .i64 0, .bool false] :: .blk (w.heap.size + 1) #[.bool false, .int .i64 0, .int .i64 0, .bool false] :: .blk w.heap.size #[.int .i64 n] :: rs)) ?_ (((((H2.set4 0 _).set4 1 _).set4 2 _).set4 3 _).al (by simp [hG]) _ _)
  clear k0 k1 k2 n0 n1 n2 z0 z1 z2 H2 hG
  intro W HW
  obtain ⟨x0, x1, x2⟩ := (HW.at_ 3 rfl).own
  obtain ⟨y0, y1, y2⟩ := (HW.at_ 4 rfl).own
  obtain ⟨k0, k1, k2⟩ := (HW.at_ 5 rfl).own
  obtain ⟨a0, a1, a2⟩ := (HW.at_ 1 rfl).own
  have g2 : G ≠ w.heap.size + 1 + 1 := HW.ne_at 1 4 rfl rfl (by decide)
  have g3 : G ≠ w.heap.size + 1 + 1 + 1 := HW.ne_at 1 3 rfl rfl (by decide)
  go_region
  all_goals go_wp2
  refine bodyPost_ret (v := .tuple #[.agg #[.bool false, .int .i64 0, .int .i64 0, .bool false], .agg #[.int .i64 rk, .int .i64 rc, .int .u32 rx, .int .u32 ry, .int .u32 ro]]) (by simp [results, Tryz.results80, go_sem, y0, y1, y2, x0, x1, x2]) rfl ⟨rfl, ?_⟩
  exact HW.done6 (by repeat (first | with_reducible exact Touch.refl _ _ | with_reducible apply Touch.drew | with_reducible apply Touch.alloc | with_reducible refine Touch.set ?_ (by simp) _))
set_option maxHeartbeats 1600000 in
set_option maxRecDepth 100000 in
theorem wake_look_is {S0 : List Nat} {w0 w : World} {m a : Nat} {L : List Int} {rs : List Res} (H : Has S0 w0 w (.mem m a L :: rs)) (n cell i : Int) (hn : I64 n) (hb : (doA L ⟨1, cellP n 2 i, 0, 0, 0⟩).2.1 = true) (he : (doA L ⟨1, cellP n 2 i, 0, 0, 0⟩).1.old = (cell + 1) % 4294967296) :
    Calls Tryz.prog 80 #[.pointer (some ⟨m, 0, none⟩), .agg #[.int .i64 n], .agg (Wk.mk true cell i false).cells] w
      fun e w' => e = .returned (.tuple #[.agg (Wk.mk true cell i true).cells, .agg (doA L ⟨1, cellP n 2 i, 0, 0, 0⟩).1.cells]) ∧ Has S0 w0 w' (.mem m a L :: rs) := by
  have hg := fun W rs (H : Has S0 w0 W (.mem m a L :: rs)) => doload_has H (cellP n 2 i)
  generalize doA L ⟨1, cellP n 2 i, 0, 0, 0⟩ = R at hg hb he ⊢
  obtain ⟨⟨rk, rc, rx, ry, ro⟩, rok, L2⟩ := R
  simp only [Wk.cells, Wk.zero, Acc.cells] at hg ⊢
  simp only at hb he
  subst hb
  have he2 : (ro == wrap64 (cell + 1) % 4294967296) = true := by
    have : ro = wrap64 (cell + 1) % 4294967296 := by rw [he]; unfold wrap64; omega
    simpa using this
  have HG := Lib.hid hg
  have HH := Lib.hid H
  have HN := Lib.hid hn
  clear hg H hn he
  go_enter Tryz.func80, Tryz.ntmps80
  go_wp2_with fail
  refine (mapWatch n i _ HN.out).mono ?_
  rintro e w1 ⟨rfl, t1⟩
  have H1 := HH.out.al5.grow t1
  obtain ⟨k0, k1, k2⟩ := (H1.at_ 4 rfl).own
  go_wp2_with fail
  refine (HG.out _ _ H1).mono ?_
  rintro e w2 ⟨rfl, H2⟩
  clear k0 k1 k2 H1 t1
  have H3 := H2.al1 (c0 := #[.int .i64 rk, .int .i64 rc, .int .u32 rx, .int .u32 ry, .int .u32 ro]) (t0 := 32)
  obtain ⟨k0, k1, k2⟩ := (H2.at_ 4 rfl).own
  obtain ⟨n0, n1, n2⟩ := (H2.at_ 5 rfl).own
  obtain ⟨z0, z1, z2⟩ := (H2.at_ 1 rfl).own
  go_wp2_with fail
  clear H3
  generalize hG : w2.heap.size = G
  refine wp_from (Facts := fun W => Has S0 w0 W (.mem m a L :: .blk G #[.int .i64 rk, .int .i64 rc, .int .u32 rx, .int .u32 ry, .int .u32 ro] :: .blk (w.heap.size + 4) #[.bool false, .int .i64 0, .int .i64 0, .bool false] :: .blk (w.heap.size + 3) #[.int .i64 0, .int .i64 0, .int .u32 0, .int .u32 0, .int .u32 0] :: .blk (w.heap.size + 2) #[.bool false, .int .i64 0, .int .i64 0, .bool false] :: .blk (w.heap.size + 1) #[.bool true, .int .i64 cell, .int .i64 i, .bool true] :: .blk w.heap.size #[.int .i64 n] :: rs)) ?_ ((H2.set4 3 _).al (by simp [hG]) _ _)
  clear k0 k1 k2 n0 n1 n2 z0 z1 z2 H2 hG
  intro W HW
  obtain ⟨x0, x1, x2⟩ := (HW.at_ 3 rfl).own
  obtain ⟨y0, y1, y2⟩ := (HW.at_ 4 rfl).own
  obtain ⟨k0, k1, k2⟩ := (HW.at_ 5 rfl).own
  obtain ⟨a0, a1, a2⟩ := (HW.at_ 1 rfl).own
  have g2 : G ≠ w.heap.size + 1 + 1 := HW.ne_at 1 4 rfl rfl (by decide)
  have g3 : G ≠ w.heap.size + 1 + 1 + 1 := HW.ne_at 1 3 rfl rfl (by decide)
  go_region
  all_goals go_wp2
  refine bodyPost_ret (v := .tuple #[.agg #[.bool true, .int .i64 cell, .int .i64 i, .bool true], .agg #[.int .i64 rk, .int .i64 rc, .int .u32 rx, .int .u32 ry, .int .u32 ro]]) (by simp [results, Tryz.results80, go_sem, y0, y1, y2, x0, x1, x2]) rfl ⟨rfl, ?_⟩
  exact HW.done6 (by repeat (first | with_reducible exact Touch.refl _ _ | with_reducible apply Touch.drew | with_reducible apply Touch.alloc | with_reducible refine Touch.set ?_ (by simp) _))
set_option maxHeartbeats 1600000 in
set_option maxRecDepth 100000 in
theorem wake_look_next {S0 : List Nat} {w0 w : World} {m a : Nat} {L : List Int} {rs : List Res} (H : Has S0 w0 w (.mem m a L :: rs)) (n cell i : Int) (hn : I64 n) (hb : (doA L ⟨1, cellP n 2 i, 0, 0, 0⟩).2.1 = true) (he : (doA L ⟨1, cellP n 2 i, 0, 0, 0⟩).1.old ≠ (cell + 1) % 4294967296) :
    Calls Tryz.prog 80 #[.pointer (some ⟨m, 0, none⟩), .agg #[.int .i64 n], .agg (Wk.mk true cell i false).cells] w
      fun e w' => e = .returned (.tuple #[.agg (nextA n (Wk.mk true cell i false)).cells, .agg (doA L ⟨1, cellP n 2 i, 0, 0, 0⟩).1.cells]) ∧ Has S0 w0 w' (.mem m a L :: rs) := by
  have hg := fun W rs (H : Has S0 w0 W (.mem m a L :: rs)) => doload_has H (cellP n 2 i)
  have hi : 0 ≤ i ∧ i < 64 := cellP_task (doA_ok_cell hb).1
  have hx := fun W => wnext_any n (Wk.mk true cell i false) W hi
  generalize nextA n (Wk.mk true cell i false) = k2 at hx ⊢
  obtain ⟨o2, c2, i2, h2⟩ := k2
  generalize doA L ⟨1, cellP n 2 i, 0, 0, 0⟩ = R at hg hb he ⊢
  obtain ⟨⟨rk, rc, rx, ry, ro⟩, rok, L2⟩ := R
  simp only [Wk.cells, Wk.zero, Acc.cells] at hg hx ⊢
  simp only at hb he
  subst hb
  have he2 : (ro == wrap64 (cell + 1) % 4294967296) = false := by
    have : ¬ (ro = wrap64 (cell + 1) % 4294967296) := fun h => he (by rw [h]; unfold wrap64; omega)
    simpa using this
  have HX := Lib.hid hx
  have HG := Lib.hid hg
  have HH := Lib.hid H
  have HN := Lib.hid hn
  clear hg H hn he hx hi
  go_enter Tryz.func80, Tryz.ntmps80
  go_wp2_with fail
  refine (mapWatch n i _ HN.out).mono ?_
  rintro e w1 ⟨rfl, t1⟩
  have H1 := HH.out.al5.grow t1
  obtain ⟨k0, k1, k2⟩ := (H1.at_ 4 rfl).own
  go_wp2_with fail
  refine (HG.out _ _ H1).mono ?_
  rintro e w2 ⟨rfl, H2⟩
  clear k0 k1 k2 H1 t1
  have H3 := H2.al1 (c0 := #[.int .i64 rk, .int .i64 rc, .int .u32 rx, .int .u32 ry, .int .u32 ro]) (t0 := 32)
  obtain ⟨k0, k1, k2⟩ := (H2.at_ 4 rfl).own
  obtain ⟨n0, n1, n2⟩ := (H2.at_ 5 rfl).own
  obtain ⟨z0, z1, z2⟩ := (H2.at_ 1 rfl).own
  go_wp2_with fail
  refine (HX.out _).mono ?_
  rintro e w3 ⟨rfl, t3⟩
  have H4 := H3.grow t3
  clear k0 k1 k2 n0 n1 n2 z0 z1 z2 H3
  have hG0 := H2.at_ 3 rfl
  obtain ⟨k0, k1, k2⟩ := (H4.at_ 5 rfl).own
  go_wp2_with fail
  generalize hG : w2.heap.size = G at H4 ⊢
  refine wp_from (Facts := fun W => Has S0 w0 W (.mem m a L :: .blk G #[.int .i64 rk, .int .i64 rc, .int .u32 rx, .int .u32 ry, .int .u32 ro] :: .blk (w.heap.size + 4) #[.bool false, .int .i64 0, .int .i64 0, .bool false] :: .blk (w.heap.size + 3) #[.int .i64 0, .int .i64 0, .int .u32 0, .int .u32 0, .int .u32 0] :: .blk (w.heap.size + 2) #[.bool false, .int .i64 0, .int .i64 0, .bool false] :: .blk (w.heap.size + 1) #[.bool o2, .int .i64 c2, .int .i64 i2, .bool h2] :: .blk w.heap.size #[.int .i64 n] :: rs)) ?_ ((((H4.set5 0 _).set5 1 _).set5 2 _).set5 3 _)
  clear k0 k1 k2 H2 H4 hG hG0
  intro W HW
  obtain ⟨x0, x1, x2⟩ := (HW.at_ 3 rfl).own
  obtain ⟨y0, y1, y2⟩ := (HW.at_ 4 rfl).own
  obtain ⟨k0, k1, k2⟩ := (HW.at_ 5 rfl).own
  obtain ⟨a0, a1, a2⟩ := (HW.at_ 1 rfl).own
  have g2 : G ≠ w.heap.size + 1 + 1 := HW.ne_at 1 4 rfl rfl (by decide)
  have g3 : G ≠ w.heap.size + 1 + 1 + 1 := HW.ne_at 1 3 rfl rfl (by decide)
  go_region
  all_goals go_wp2
  refine bodyPost_ret (v := .tuple #[.agg #[.bool o2, .int .i64 c2, .int .i64 i2, .bool h2], .agg #[.int .i64 rk, .int .i64 rc, .int .u32 rx, .int .u32 ry, .int .u32 ro]]) (by simp [results, Tryz.results80, go_sem, y0, y1, y2, x0, x1, x2]) rfl ⟨rfl, ?_⟩
  exact HW.done6 (by repeat (first | with_reducible exact Touch.refl _ _ | with_reducible apply Touch.drew | with_reducible apply Touch.alloc | with_reducible refine Touch.set ?_ (by simp) _))
theorem wake_any {S0 : List Nat} {w0 w : World} {m a : Nat} {L : List Int} {rs : List Res} (H : Has S0 w0 w (.mem m a L :: rs)) (n : Int) (hn : I64 n) (k : Wk) :
    Calls Tryz.prog 80 #[.pointer (some ⟨m, 0, none⟩), .agg #[.int .i64 n], .agg k.cells] w
      fun e w' => e = .returned (.tuple #[.agg (wakeA L n k).1.cells, .agg (wakeA L n k).2.1.cells]) ∧ Has S0 w0 w' (.mem m a (wakeA L n k).2.2 :: rs) := by
  obtain ⟨on, cell, i, hit⟩ := k
  unfold wakeA
  cases on with
  | false => exact wake_off H _ n cell i hit
  | true =>
    cases hit with
    | true =>
      cases hb : (giveA L n i).2.1 with
      | true => simp only [hb, if_true]; exact wake_hit H n cell i hn hb
      | false => simp only [hb, if_true, Bool.false_eq_true, if_false]; exact wake_hit_no H n cell i hn hb
    | false =>
      cases hb : (doA L ⟨1, cellP n 2 i, 0, 0, 0⟩).2.1 with
      | true =>
        by_cases he : (doA L ⟨1, cellP n 2 i, 0, 0, 0⟩).1.old = (cell + 1) % 4294967296
        · simp only [hb, he, if_true, Bool.false_eq_true, if_false]; exact wake_look_is H n cell i hn hb he
        · simp only [hb, he, if_true, Bool.false_eq_true, if_false]; exact wake_look_next H n cell i hn hb he
      | false =>
        have e := doA_no hb
        have := wake_look_no H n cell i hn hb
        simp only [hb, if_true, Bool.false_eq_true, if_false]
        rw [e] at this
        exact this
end Go.Proofs.YthnimpkoidablaaGreat.Z

set_option linter.unusedVariables false
set_option linter.unusedSimpArgs false
namespace Go.Proofs.YthnimpkoidablaaGreat.Z
open Go.RowKit
theorem u32s_at {w : World} {n i : Nat} {A : Option Addr} {L : List Int} (h : Rd w 1 A n (u32s L)) (hi : i < n) :
    ∃ ad, A = some ad ∧ ad.block < w.heap.size ∧ w.cell? (ad.add i) = some (.int .u32 (L.getD i 0)) := by
  obtain ⟨ad, u, hA, hu, hb, hc⟩ := h.at_ hi
  have hl := len_of_rd h
  refine ⟨ad, hA, hb, ?_⟩
  rw [hc, ← hu]
  simp [u32s, show i < L.length by omega]
theorem take_eq_succ {L M : List Int} {k : Nat} (hl : k < L.length) (hm : k < M.length) (h : L.take k = M.take k) (e : L.getD k 0 = M.getD k 0) : L.take (k + 1) = M.take (k + 1) := by
  rw [List.take_succ_eq_append_getElem hl, List.take_succ_eq_append_getElem hm, h]
  simp [List.getD, hl, hm] at e
  rw [e]
set_option maxHeartbeats 800000 in
theorem same_any {A B : Option Addr} {n m c d : Nat} {L M : List Int} (w : World) (hA : Rd w 1 A n (u32s L)) (hB : Rd w 1 B m (u32s M)) (hn : n ≤ 1048576) :
    Calls Tryz.prog 27 #[.slice A n c, .slice B m d] w fun e w' => e = .returned (.bool (decide (L = M))) ∧ Touch [] w w' := by
  have hl := len_of_rd hA
  have hm := len_of_rd hB
  by_cases hnm : n = m
  case neg =>
    have hd : decide (L = M) = false := decide_eq_false (fun e => hnm (by rw [← hl, ← hm, e]))
    rw [hd]
    have hb : ((n : Int) != (m : Int)) = true := by rw [bne_iff_ne]; omega
    clear hd hnm hl hm
    go_enter Tryz.func27, Tryz.ntmps27
    go_wp2_with fail
    go_ret
    exact ⟨rfl, Touch.refl _ _⟩
  case pos =>
    subst hnm
    have hb : ((n : Int) != (n : Int)) = false := by simp
    have HL := Lib.hid hl
    have HM := Lib.hid hm
    clear hl hm
    go_enter Tryz.func27, Tryz.ntmps27
    go_wp2_with fail
    go_loopw [5] (fun i wr => ∃ k : Nat, k ≤ n ∧ i = .int .i64 k ∧ L.take k = M.take k ∧ Touch [] w wr) (fun i _ => n - (intOf i).toNat)
    case atStart => exact ⟨0, Nat.zero_le _, rfl, rfl, Touch.refl _ _⟩
    case round =>
      obtain ⟨k, hk, rfl, ht, hw⟩ := hrel
      have HT := Lib.hid ht
      clear ht
      by_cases hlt : k < n
      · obtain ⟨ad, rfl, _, hca⟩ := u32s_at (hA.touch hw (by simp)) hlt
        obtain ⟨bd, rfl, _, hcb⟩ := u32s_at (hB.touch hw (by simp)) hlt
        obtain ⟨x, hx⟩ : ∃ x, L.getD k 0 = x := ⟨_, rfl⟩
        obtain ⟨y, hy⟩ : ∃ y, M.getD k 0 = y := ⟨_, rfl⟩
        rw [hx] at hca
        rw [hy] at hcb
        have HX := Lib.hid hx
        have HY := Lib.hid hy
        clear hx hy
        have hi : (k : Int) < (n : Int) := by omega
        go_wp2_with fail
        go_quiet (fail)
        by_cases hxy : x = y
        · subst hxy
          go_wp2
          go_roundw
          case rel => exact ⟨k + 1, by omega, by go_num, take_eq_succ (by have := HL.out; omega) (by have := HM.out; omega) HT.out (HX.out.trans HY.out.symm), by repeat (first | assumption | apply Touch.drewN | apply Touch.drew)⟩
          case measure => simp [intOf]; omega
        · have hne : (x != y) = true := by rw [bne_iff_ne]; exact hxy
          have hd : decide (L = M) = false := decide_eq_false (fun e => hxy (by rw [← HX.out, ← HY.out, e]))
          have HD := Lib.hid hd
          clear hd hxy
          go_wp2
          go_ret
          exact ⟨by rw [HD.out]; rfl, by repeat (first | assumption | apply Touch.drewN | apply Touch.drew)⟩
      · have hkn : k = n := by omega
        have hd : decide (L = M) = true := decide_eq_true (by
          have h1 := HT.out
          rw [List.take_of_length_le (by have := HL.out; omega), List.take_of_length_le (by have := HM.out; omega)] at h1
          exact h1)
        have HD := Lib.hid hd
        clear hd hkn
        have hi : (n : Int) ≤ (k : Int) := by omega
        go_wp2
        go_ret
        exact ⟨by rw [HD.out]; rfl, hw⟩
end Go.Proofs.YthnimpkoidablaaGreat.Z
