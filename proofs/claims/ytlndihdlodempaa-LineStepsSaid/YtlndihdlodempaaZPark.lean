/- Package park: permits. -/
import Derived.Test.YtlndihdlodempaaZRef01
import Derived.Test.YtlndihdlodempaaZPlace
import Derived.Test.YtlndihdlodempaaZOwn
import Derived.Outline
set_option linter.unusedVariables false
set_option linter.unusedSimpArgs false
namespace Go.Proofs.Ytlndihdlodempaa.Z
open Go.RowKit

/-- An int. -/
def I64 (n : Int) : Prop := -9223372036854775808 ≤ n ∧ n ≤ 9223372036854775807

def giveA (L : List Int) (n task : Int) : Acc × Bool × List Int := doA L ⟨2, cellP n 3 task, 1, 0, 0⟩
def thereA (L : List Int) (n task : Int) : Bool := ldA L (cellP n 3 task) != 0
def takeA (L : List Int) (n task : Int) : Acc × Bool × List Int := if thereA L n task then doA L ⟨4, cellP n 3 task, 0, 0, 0⟩ else (Acc.zero, false, L)

/-- A new block is not that of a memory's words. -/
theorem lv_new {w : World} {m a b : Nat} {L : List Int} (h : Mem w m a L) (hb : w.heap.size ≤ b) : b ∉ lv a L := fun hm => by
  have h1 := mem_lv hm
  have h2 := h.lt.2 h1.2
  omega

/-- What a call does to newer blocks leaves a memory as it is. -/
theorem mem_fin {w w2 wf : World} {m a : Nat} {L L2 : List Int} {S : List Nat} (h : Mem w m a L) (hM2 : Mem w2 m a L2) (hl : L2.length = L.length) (hT : Touch (lv a L) w w2) (hS : ∀ k, k ∈ S → w.heap.size ≤ k) (t : Touch S w2 wf) :
    Mem wf m a L2 ∧ Touch (lv a L) w wf := by
  refine ⟨?_, hT.newer t hS⟩
  obtain ⟨p, cap, hb, r⟩ := hM2.head
  have hlt := h.lt
  refine ⟨hM2.ne, hM2.words, ⟨p, cap, t.blk hb (fun hm => by have := hS _ hm; omega), r⟩, fun h0 => ?_⟩
  obtain ⟨rest, hr⟩ := hM2.body h0
  exact ⟨rest, t.blk hr (fun hm => by have := hS _ hm; have := hlt.2 (by omega); omega)⟩

/-- A method of a memory, as a value. -/
def doV (m : Option Addr) : Value := .func (.func 124) #[.pointer m] #[]

set_option maxHeartbeats 800000 in
theorem with_any {w : World} {m a : Nat} {L : List Int} (h : Mem w m a L) (n task k c x y o : Int) (hn : I64 n) (hx : 0 ≤ x ∧ x < 4294967296) (hy : 0 ≤ y ∧ y < 4294967296) :
    Calls Try.prog 167 #[doV (some ⟨m, 0, none⟩), .agg #[.int .i64 n], .int .i64 task, .agg #[.int .i64 k, .int .i64 c, .int .u32 x, .int .u32 y, .int .u32 o]] w
      fun e w' => e = .returned (.tuple #[.agg (doA L ⟨k, cellP n 3 task, x, y, o⟩).1.cells, .bool (doA L ⟨k, cellP n 3 task, x, y, o⟩).2.1]) ∧ Mem w' m a (doA L ⟨k, cellP n 3 task, x, y, o⟩).2.2 ∧ Touch (lv a L) w w' := by
  have hd := fun W (hM : Mem W m a L) => do_any hM ⟨k, cellP n 3 task, x, y, o⟩ hx hy
  have hl := doA_length L ⟨k, cellP n 3 task, x, y, o⟩
  generalize doA L ⟨k, cellP n 3 task, x, y, o⟩ = r at hd hl ⊢
  obtain ⟨⟨rk, rc, rx, ry, ro⟩, rok, L2⟩ := r
  simp only [Acc.cells] at hd hl ⊢
  have HD := Lib.hid hd
  have HL := Lib.hid hl
  have hm := h.lt.1
  unfold doV
  clear hd hx hy hl
  obtain ⟨n1, n2⟩ := hn
  go_enter Try.func167, Try.ntmps167
  go_wp2_with (go_at_call 170; refine (mapPermit n task _ ⟨n1, n2⟩).mono ?_; rintro e w1 ⟨rfl, ht1⟩
               obtain ⟨b0, b1, b2⟩ := ht1.own3 (by simp)
               obtain ⟨z0, p0, q0⟩ := b0.own
               obtain ⟨z1, p1, q1⟩ := b1.own
               obtain ⟨z2, p2, q2⟩ := b2.own)
  have hT1 : Touch [] w (w1.setCell ⟨w.heap.size + 1, 1, none⟩ (.int .i64 (cellP n 3 task))) := (((((Touch.refl [] w).alloc _).alloc _).alloc _).trans ht1).setNew (by simp) _
  refine (HD.out _ (h.touch hT1 (by simp) (by simp))).mono ?_
  rintro e w2 ⟨rfl, hM2, ht2⟩
  obtain ⟨z3, p3, q3⟩ := (ht2.blk (b2.setNe (by simp) _) (lv_new h (by omega))).own
  go_wp2
  refine bodyPost_ret (v := .tuple #[.agg #[.int .i64 rk, .int .i64 rc, .int .u32 rx, .int .u32 ry, .int .u32 ro], .bool rok]) (by simp [results, Try.results167, go_sem, p3, z3]) rfl
    ⟨rfl, mem_fin (S := [w.heap.size + 2]) h hM2 HL.out ((hT1.mono (by simp)).trans ht2) (by simp) ?_⟩
  repeat (first | with_reducible exact Touch.refl _ _ | with_reducible apply Touch.drew | with_reducible apply Touch.alloc | with_reducible refine Touch.set ?_ (by simp) _)

theorem give_any {w : World} {m a : Nat} {L : List Int} (h : Mem w m a L) (n task : Int) (hn : I64 n) :
    Calls Try.prog 125 #[.pointer (some ⟨m, 0, none⟩), .agg #[.int .i64 n], .int .i64 task] w
      fun e w' => e = .returned (.tuple #[.agg (giveA L n task).1.cells, .bool (giveA L n task).2.1]) ∧ Mem w' m a (giveA L n task).2.2 ∧ Touch (lv a L) w w' := by
  have hd := fun W (hM : Mem W m a L) => with_any hM n task 2 0 1 0 0 hn (by decide) z32
  have hl : (giveA L n task).2.2.length = L.length := doA_length _ _
  rw [show doA L ⟨2, cellP n 3 task, 1, 0, 0⟩ = giveA L n task from rfl] at hd
  generalize giveA L n task = r at hd hl ⊢
  obtain ⟨⟨rk, rc, rx, ry, ro⟩, rok, L2⟩ := r
  simp only [Acc.cells, doV] at hd hl ⊢
  have HD := Lib.hid hd
  have HL := Lib.hid hl
  have hm := h.lt.1
  clear hd hl hn
  go_enter Try.func125, Try.ntmps125
  go_wp2_with (go_at_call 167; refine (HD.out _ (h.touch (((Touch.refl [] w).alloc _).alloc _) (by simp) (by simp))).mono ?_; rintro e w2 ⟨rfl, hM2, ht2⟩
               obtain ⟨z3, p3, q3⟩ := (ht2.own2 (fun k hk => by have := mem_lv hk; have := h.lt.2 this.2; omega)).2.own)
  refine bodyPost_ret (v := .tuple #[.agg #[.int .i64 rk, .int .i64 rc, .int .u32 rx, .int .u32 ry, .int .u32 ro], .bool rok]) (by simp [results, Try.results125, go_sem, p3, z3]) rfl
    ⟨rfl, mem_fin (S := [w.heap.size + 1]) h hM2 HL.out ((((Touch.refl _ w).alloc _).alloc _).trans ht2) (by simp) ?_⟩
  repeat (first | with_reducible exact Touch.refl _ _ | with_reducible apply Touch.drew | with_reducible apply Touch.alloc | with_reducible refine Touch.set ?_ (by simp) _)

theorem there_is {w : World} {m a : Nat} {L : List Int} (h : Mem w m a L) (n task : Int) (hn : I64 n) :
    Calls Try.prog 138 #[.pointer (some ⟨m, 0, none⟩), .agg #[.int .i64 n], .int .i64 task] w
      fun e w' => e = .returned (.bool (thereA L n task)) ∧ Touch [] w w' := by
  unfold thereA
  have hl := fun W (hM : Mem W m a L) => load_any hM (cellP n 3 task)
  generalize ldA L (cellP n 3 task) = v at hl ⊢
  have HL := Lib.hid hl
  clear hl
  go_enter Try.func138, Try.ntmps138
  go_wp2_with (first
    | (go_at_call 170; refine (mapPermit n task _ hn).mono ?_; rintro e w1 ⟨rfl, ht1⟩)
    | (go_at_call 50; refine (HL.out _ (h.touch ((((Touch.refl [] w).alloc _).trans ht1)) (by simp) (by simp))).mono ?_; rintro e w2 ⟨rfl, ht2⟩))
  go_ret
  exact ⟨rfl, (((Touch.refl [] w).alloc _).trans ht1).trans ht2⟩

theorem take_any {w : World} {m a : Nat} {L : List Int} (h : Mem w m a L) (n task : Int) (hn : I64 n) :
    Calls Try.prog 168 #[.pointer (some ⟨m, 0, none⟩), .agg #[.int .i64 n], .int .i64 task] w
      fun e w' => e = .returned (.tuple #[.agg (takeA L n task).1.cells, .bool (takeA L n task).2.1]) ∧ Mem w' m a (takeA L n task).2.2 ∧ Touch (lv a L) w w' := by
  have hth := fun W (hM : Mem W m a L) => there_is hM n task hn
  have hm := h.lt.1
  cases hb : thereA L n task with
  | false =>
    rw [show takeA L n task = (Acc.zero, false, L) from by unfold takeA; rw [hb]; rfl]
    rw [hb] at hth
    have HT := Lib.hid hth
    clear hth hb hn
    simp only [Acc.cells, Acc.zero]
    go_enter Try.func168, Try.ntmps168
    go_wp2_with (go_at_call 138; refine (HT.out _ (h.touch (((Touch.refl [] w).alloc _).alloc _) (by simp) (by simp))).mono ?_; rintro e w2 ⟨rfl, ht2⟩
                 obtain ⟨z3, p3, q3⟩ := (ht2.own2 (by simp)).2.own)
    refine bodyPost_ret (v := .tuple #[Value.agg Acc.zero.cells, .bool false]) (by simp [results, Try.results168, go_sem, p3, z3, Acc.zero, Acc.cells]) rfl
      ⟨rfl, mem_fin (S := [w.heap.size + 1]) h (h.touch ((((Touch.refl [] w).alloc _).alloc _).trans ht2) (by simp) (by simp)) rfl ((((Touch.refl _ w).alloc _).alloc _).trans (ht2.mono (by simp))) (by simp) ?_⟩
    repeat (first | with_reducible exact Touch.refl _ _ | with_reducible apply Touch.drew | with_reducible apply Touch.alloc | with_reducible refine Touch.set ?_ (by simp) _)
  | true =>
    have hd := fun W (hM : Mem W m a L) => with_any hM n task 4 0 0 0 0 hn z32 z32
    have hl : (takeA L n task).2.2.length = L.length := by unfold takeA; rw [hb]; exact doA_length _ _
    rw [show doA L ⟨4, cellP n 3 task, 0, 0, 0⟩ = takeA L n task from by unfold takeA; rw [hb]; rfl] at hd
    generalize takeA L n task = r at hd hl ⊢
    obtain ⟨⟨rk, rc, rx, ry, ro⟩, rok, L2⟩ := r
    simp only [Acc.cells, doV] at hd hl ⊢
    rw [hb] at hth
    have HD := Lib.hid hd
    have HL := Lib.hid hl
    have HT := Lib.hid hth
    clear hd hl hn hth hb
    go_enter Try.func168, Try.ntmps168
    go_wp2_with (first
      | (go_at_call 138; refine (HT.out _ (h.touch (((Touch.refl [] w).alloc _).alloc _) (by simp) (by simp))).mono ?_; rintro e w1 ⟨rfl, ht1⟩
         obtain ⟨B0, B1⟩ := ht1.own2 (by simp)
         obtain ⟨z0, p0, q0⟩ := B0.own)
      | (go_at_call 167; refine (HD.out _ (h.touch ((((Touch.refl [] w).alloc _).alloc _).trans ht1) (by simp) (by simp))).mono ?_; rintro e w2 ⟨rfl, hM2, ht2⟩
         obtain ⟨z3, p3, q3⟩ := (ht2.blk B1 (lv_new h (by omega))).own))
    refine bodyPost_ret (v := .tuple #[.agg #[.int .i64 rk, .int .i64 rc, .int .u32 rx, .int .u32 ry, .int .u32 ro], .bool rok]) (by simp [results, Try.results168, go_sem, p3, z3]) rfl
      ⟨rfl, mem_fin (S := [w.heap.size + 1]) h hM2 HL.out (((((Touch.refl _ w).alloc _).alloc _).trans (ht1.mono (by simp))).trans ht2) (by simp) ?_⟩
    repeat (first | with_reducible exact Touch.refl _ _ | with_reducible apply Touch.drew | with_reducible apply Touch.alloc | with_reducible refine Touch.set ?_ (by simp) _)

end Go.Proofs.Ytlndihdlodempaa.Z
