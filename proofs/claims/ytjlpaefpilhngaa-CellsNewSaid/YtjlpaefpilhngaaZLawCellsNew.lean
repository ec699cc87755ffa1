/- The statement CellsNew: its walk. -/
import Derived.Test.YtjlpaefpilhngaaZLaw01
import Derived.Outline
set_option linter.unusedVariables false
set_option linter.unusedSimpArgs false
namespace Go.Proofs.Ytjlpaefpilhngaa.Z
open Go.RowKit

theorem ldA_zeros (n : Nat) (c : Int) : ldA (List.replicate n 0) c = 0 := by
  unfold ldA
  split
  · simp [List.getD, List.getElem?_replicate]
    split <;> rfl
  · rfl

/-- Fives, then zeros. -/
def fives (n k : Nat) : List Int := List.replicate k 5 ++ List.replicate (n - k) 0

theorem fives_length {n k : Nat} (h : k ≤ n) : (fives n k).length = n := by simp [fives]; omega
theorem fives_zero (n : Nat) : fives n 0 = List.replicate n 0 := by simp [fives]
theorem fives_at {n k : Nat} (h : k < n) : (fives n k).getD k 0 = 0 := by
  simp [fives, List.getD, List.getElem?_append, List.getElem?_replicate]
  split <;> rfl
theorem fives_set {n k : Nat} (h : k < n) : (fives n k).set k 5 = fives n (k + 1) := by
  unfold fives
  rw [List.set_append_right _ _ (by simp)]
  simp only [List.length_replicate, Nat.sub_self]
  rw [show n - k = (n - (k + 1)) + 1 by omega, List.replicate_succ, List.set_cons_zero, List.replicate_succ', List.append_assoc]
  rfl

set_option maxHeartbeats 1600000 in
set_option maxRecDepth 100000 in
theorem cellsNew_no (n c x : Int) (w : World) (hn : n < 0 ∨ 1024 < n) :
    Calls Try.prog 9 #[.int .i64 n, .int .i64 c, .int .u32 x] w fun e w' => e = .returned (.bool true) ∧ Touch [] w w' := by
  have HN := Lib.hid hn
  rcases hn with hn | hn
  · go_enter Try.func9, Try.ntmps9
    go_wp2_with (first
      | (go_at_call 31; refine (new_no n _ HN.out).mono ?_; rintro e w1 ⟨rfl, ht1⟩)
      | (go_at_call 32; refine (store_nil _ _ _).mono ?_; rintro e w2 ⟨rfl, ht2⟩)
      | (go_at_call 27; refine (do_nil _ _ _ _ _ _).mono ?_; simp only [Acc.zero, Acc.cells]; rintro e w3 ⟨rfl, ht3⟩)
      | (go_at_call 25; refine (len_nil _).mono ?_; rintro e w' ⟨rfl, rfl⟩)
      | (go_at_call 33; refine (load_nil _ _).mono ?_; rintro e w4 ⟨rfl, ht4⟩)
      | (go_at_call 30; refine (all_nil _).mono ?_; rintro e w5 ⟨rfl, ht5⟩)
      | (go_at_call 24; refine (awake01 _).mono ?_; rintro e w10 ⟨rfl, ht10⟩))
    go_ret
    exact ⟨by simp, ((((((ht1.trans ht2).trans ht3).alloc _).trans ht4).trans ht5).trans ht10)⟩
  · have h0 : ¬ (n < 0) := by omega
    go_enter Try.func9, Try.ntmps9
    go_wp2_with (first
      | (go_at_call 31; refine (new_no n _ HN.out).mono ?_; rintro e w1 ⟨rfl, ht1⟩)
      | (go_at_call 32; refine (store_nil _ _ _).mono ?_; rintro e w2 ⟨rfl, ht2⟩)
      | (go_at_call 27; refine (do_nil _ _ _ _ _ _).mono ?_; simp only [Acc.zero, Acc.cells]; rintro e w3 ⟨rfl, ht3⟩)
      | (go_at_call 25; refine (len_nil _).mono ?_; rintro e w' ⟨rfl, rfl⟩)
      | (go_at_call 33; refine (load_nil _ _).mono ?_; rintro e w4 ⟨rfl, ht4⟩)
      | (go_at_call 30; refine (all_nil _).mono ?_; rintro e w5 ⟨rfl, ht5⟩)
      | (go_at_call 24; refine (awake01 _).mono ?_; rintro e w10 ⟨rfl, ht10⟩))
    go_ret
    exact ⟨by simp, ((((((ht1.trans ht2).trans ht3).alloc _).trans ht4).trans ht5).trans ht10)⟩

theorem len_zeros {n : Nat} {w : World} {m a : Nat} (h : Mem w m a (List.replicate n 0)) :
    Calls Try.prog 25 #[.pointer (some ⟨m, 0, none⟩)] w fun e w' => e = .returned (.int .i64 n) ∧ w = w' := by
  have := len_mem h
  rw [List.length_replicate] at this
  exact this

theorem load_zeros {n : Nat} {w : World} {m a : Nat} (h : Mem w m a (List.replicate n 0)) (c : Int) :
    Calls Try.prog 33 #[.pointer (some ⟨m, 0, none⟩), .int .i64 c] w fun e w' => e = .returned (.int .u32 0) ∧ Touch [] w w' := by
  have := load_any h c
  rw [ldA_zeros] at this
  exact this

/-- A new row of zeros is told. -/
def NewZeros (n : Nat) (w : World) (e : Ending) (w' : World) : Prop := ∃ p cap g, e = .returned (.slice p n cap) ∧ Row w' p g (List.replicate n 0) ∧ w.heap.size ≤ g ∧ Touch [] w w' ∧ n ≤ cap ∧ cap ≤ 9223372036854775807

theorem all_zeros {n : Nat} {w : World} {m a : Nat} (h : Mem w m a (List.replicate n 0)) :
    Calls Try.prog 30 #[.pointer (some ⟨m, 0, none⟩)] w (NewZeros n w) := by
  refine (all_mem h).mono ?_
  rintro e w' ⟨p, cap, rfl, hown, ht⟩
  obtain ⟨g, hR, hg⟩ := Row.of_owns hown h.words
  have hc := owns_cap hown
  rw [List.length_replicate] at hc
  exact ⟨p, cap, g, by rw [List.length_replicate], hR, hg, ht, hc⟩

theorem ok_hyps (n : Nat) (hn : n ≤ 1024) : ¬ ((n : Int) < 0) ∧ ¬ ((1024 : Int) < (n : Int)) ∧ ((n : Int) != (n : Int)) = false ∧ ((n : Int) == (n : Int)) = true := ⟨by omega, by omega, by simp, by simp⟩

set_option maxHeartbeats 1600000 in
set_option maxRecDepth 100000 in
theorem cellsNew_ok (n : Nat) (c x : Int) (w : World) (hn : n ≤ 1024) :
    Calls Try.prog 9 #[.int .i64 (n : Int), .int .i64 c, .int .u32 x] w fun e w' => e = .returned (.bool true) ∧ Touch [] w w' := by
  obtain ⟨i1, i2, i3, i4⟩ := ok_hyps n hn
  go_enter Try.func9, Try.ntmps9
  go_wp2_with (first
    | (go_at_call 31; refine (new_ok n _ hn).mono ?_; rintro e w1 ⟨m, a, rfl, hM, k1, k2, ht1⟩)
    | (go_at_call 32; refine (store_nil _ _ _).mono ?_; rintro e w2 ⟨rfl, ht2⟩)
    | (go_at_call 27; refine (do_nil _ _ _ _ _ _).mono ?_; simp only [Acc.zero, Acc.cells]; rintro e w3 ⟨rfl, ht3⟩)
    | (go_at_call 25; ((with_reducible refine (len_nil _).mono ?_); rintro e w' ⟨rfl, rfl⟩))
    | (go_at_call 33; ((with_reducible refine (load_nil _ _).mono ?_); rintro e w4 ⟨rfl, ht4⟩))
    | (go_at_call 30; ((with_reducible refine (all_nil _).mono ?_); rintro e w5 ⟨rfl, ht5⟩)))
  have hT5 := ((((ht2.trans ht3).alloc _).trans ht4).trans ht5)
  have hM5 := hM.touch hT5 (by simp) (by simp)
  have hT : Touch [] w w5 := ht1.trans hT5
  clear hM ht2 ht3 ht4 ht5 hT5 ht1
  go_wp2_with (first
    | (go_at_call 25; refine (len_zeros hM5).mono ?_; rintro e w' ⟨rfl, rfl⟩)
    | (go_at_call 33; refine (load_zeros hM5 _).mono ?_; rintro e w6 ⟨rfl, ht6⟩)
    | (go_at_call 30; refine (all_zeros (hM5.touch ht6 (by simp) (by simp))).mono ?_; rintro e w7 ⟨p, cap, g, rfl, hR, hg, ht7, hcap, hcm⟩))
  have hT7 : Touch [] w w7 := (hT.trans ht6).trans ht7
  have hM7 := hM5.touch (ht6.trans ht7) (by simp) (by simp)
  have h6 := ht6.size
  have h5 := hT.size
  have HG := Lib.hid (show w.heap.size ≤ g ∧ m ≠ g ∧ (0 < n → a ≠ g) from ⟨by omega, by have := hM5.lt.1; omega, fun h0 => by have := hM5.lt.2 (by simpa using h0); omega⟩)
  clear hM5 ht6 ht7 hg h5 h6
  go_loopw [13] (fun i wr => ∃ k : Nat, k ≤ n ∧ i = .int .i64 k ∧ Mem wr m a (List.replicate n 0) ∧ Row wr p g (fives n k) ∧ Touch [] w wr) (fun i _ => n - (intOf i).toNat)
  case atStart => exact ⟨0, Nat.zero_le _, rfl, hM7, by rw [fives_zero]; exact hR, hT7⟩
  case round =>
    obtain ⟨k, hk, rfl, hMr, hRr, hTr⟩ := hrel
    clear hM7 hR hT7 hT
    by_cases hlt : k < n
    · obtain ⟨rfl, c1, c2, c3, _, _⟩ := hRr.at_cell (k : Int) 0 (by omega) (by rw [fives_length hk]; omega) (by rw [Int.toNat_natCast]; exact fives_at hlt)
      rw [Int.toNat_natCast] at c1 c2
      have hi : (k : Int) < (n : Int) := by omega
      have hset := hRr.set k (by rw [fives_length hk]; exact hlt) 5 (by decide) (by decide)
      rw [fives_set hlt] at hset
      have hMs := hMr.touch ((Touch.refl [g] wr).set (p := ⟨g, k, none⟩) (by simp) (.int .u32 5)) (by have := HG.out; simp; omega) (by have := HG.out; simp; omega)
      have hTs : Touch [] w (wr.setCell ⟨g, k, none⟩ (.int .u32 5)) := hTr.newer ((Touch.refl [g] wr).set (p := ⟨g, k, none⟩) (by simp) (.int .u32 5)) (by have := HG.out; simp; omega)
      go_wp2
      go_roundw
      case rel => exact ⟨k + 1, by omega, by go_num, hMs, hset, hTs⟩
      case measure => simp [intOf]; omega
    · have hi : (n : Int) ≤ (k : Int) := by omega
      go_wp2_with (first
        | (go_at_call 33; refine (load_zeros hMr _).mono ?_; rintro e w8 ⟨rfl, ht8⟩)
        | (go_at_call 24; refine (awake01 _).mono ?_; rintro e w10 ⟨rfl, ht10⟩))
      go_ret
      exact ⟨by simp, (hTr.trans ht8).trans ht10⟩

/-- WHATEVER THE INPUT. -/
theorem cellsNew_any (n c x : Int) (w : World) : Calls Try.prog 9 #[.int .i64 n, .int .i64 c, .int .u32 x] w fun e w' => e = .returned (.bool true) ∧ Touch [] w w' := by
  by_cases h : n < 0 ∨ 1024 < n
  · exact cellsNew_no n c x w h
  · obtain ⟨k, rfl⟩ := Int.eq_ofNat_of_zero_le (show 0 ≤ n by omega)
    exact cellsNew_ok k c x w (by omega)

end Go.Proofs.Ytjlpaefpilhngaa.Z
