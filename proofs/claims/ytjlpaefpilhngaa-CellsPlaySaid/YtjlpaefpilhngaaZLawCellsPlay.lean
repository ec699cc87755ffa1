/- The statement CellsPlay: its walk. -/
import Derived.Test.YtjlpaefpilhngaaZLaw01
import Derived.Outline
set_option linter.unusedVariables false
set_option linter.unusedSimpArgs false
namespace Go.Proofs.Ytjlpaefpilhngaa.Z
open Go.RowKit

/-- Accesses as cells. -/
def accCells (l : List Acc) : List Value := l.flatMap fun a => a.cells.toList

def AccOk (a : Acc) : Prop := (0 ≤ a.x ∧ a.x < 4294967296) ∧ (0 ≤ a.y ∧ a.y < 4294967296) ∧ (0 ≤ a.old ∧ a.old < 4294967296)

theorem accCells_length (l : List Acc) : (accCells l).length = l.length * 5 := by
  induction l with
  | nil => rfl
  | cons a l ih => simp only [accCells, List.flatMap_cons, List.length_append, List.length_cons] at ih ⊢; rw [ih]; simp [Acc.cells]; omega

theorem accCells_at : ∀ (l : List Acc) (i j : Nat) (h : i < l.length), j < 5 → (accCells l)[i * 5 + j]? = l[i].cells[j]? := by
  intro l
  induction l with
  | nil => intro i j h; simp at h
  | cons a l ih =>
    intro i j h hj
    have e : accCells (a :: l) = a.cells.toList ++ accCells l := rfl
    have h5 : a.cells.toList.length = 5 := rfl
    rw [e]
    cases i with
    | zero =>
      rw [List.getElem?_append_left (by rw [h5]; omega)]
      simp
    | succ i =>
      rw [List.getElem?_append_right (by rw [h5]; omega), h5, show (i + 1) * 5 + j - 5 = i * 5 + j by omega, ih i j (by simpa using h) hj]
      rfl

/-- An access of a slice of accesses, by its five cells. -/
theorem acc_cells {w : World} {b off m i : Nat} {a : Acc} {l : List Acc} (h : Rd w 5 (some ⟨b, off, none⟩) m (accCells l)) (hi : i < m) (ha : l[i]? = some a) :
    w.cell? ⟨b, off + i * 5, none⟩ = some (.int .i64 a.kind) ∧ w.cell? ⟨b, off + i * 5 + 1, none⟩ = some (.int .i64 a.cell) ∧
      w.cell? ⟨b, off + i * 5 + 2, none⟩ = some (.int .u32 a.x) ∧ w.cell? ⟨b, off + i * 5 + 3, none⟩ = some (.int .u32 a.y) ∧ w.cell? ⟨b, off + i * 5 + 4, none⟩ = some (.int .u32 a.old) ∧ b < w.heap.size ∧ b ≠ w.heap.size := by
  obtain ⟨b', off', hB, hb, hc⟩ := h.lit (by omega) (by decide)
  simp only [Option.some.injEq, Addr.mk.injEq] at hB
  obtain ⟨rfl, rfl, _⟩ := hB
  obtain ⟨hil, rfl⟩ := List.getElem?_eq_some_iff.1 ha
  have k : ∀ j u, j < 5 → l[i].cells[j]? = some u → w.cell? ⟨b, off + i * 5 + j, none⟩ = some u := fun j u hj hu => by
    rw [Nat.add_assoc]
    exact hc _ _ ((accCells_at l i j hil hj).trans hu)
  exact ⟨k 0 _ (by decide) rfl, k 1 _ (by decide) rfl, k 2 _ (by decide) rfl, k 3 _ (by decide) rfl, k 4 _ (by decide) rfl, hb, by omega⟩

theorem acc_head {w : World} {B : Option Addr} {m i : Nat} {l : List Acc} (h : Rd w 5 B m (accCells l)) (hi : i < m) : ∃ b off a, B = some ⟨b, off, none⟩ ∧ b < w.heap.size ∧ l[i]? = some a := by
  obtain ⟨b, off, hB, hb, hc⟩ := h.lit (by omega) (by decide)
  have hl : l.length = m := by have := h.1; rw [accCells_length] at this; omega
  exact ⟨b, off, l[i], hB, hb, List.getElem?_eq_getElem (by omega)⟩

/-- What changes blocks that are newer leaves all as it was. -/
theorem Touch.newer {S T : List Nat} {w w' w'' : World} (h : Touch S w w') (t : Touch T w' w'') (hT : ∀ k, k ∈ T → w.heap.size ≤ k) : Touch S w w'' :=
  ⟨t.os.trans h.os, t.tape.trans h.tape, t.output.trans h.output, Nat.le_trans h.size t.size, fun k hk hs => (t.block k (Nat.lt_of_lt_of_le hk h.size) (fun hm => by have := hT k hm; omega)).trans (h.block k hk hs)⟩

set_option maxHeartbeats 1600000 in
set_option maxRecDepth 100000 in
theorem cellsPlay_some {A B : Option Addr} {n c m d : Nat} {L : List Int} {l : List Acc} (w : World) (hr : Rd w 1 A n (u32s L)) (hw : Words L) (hB : Rd w 5 B m (accCells l)) (hl : ∀ a, a ∈ l → AccOk a) (hm : m ≤ 100) :
    Calls Try.prog 8 #[.slice A n c, .slice B m d] w fun e w' => e = .returned (.bool true) ∧ Touch [] w w' := by
  have hn := len_of_rd hr
  subst hn
  have h1024 := hw.1
  have i1 : ¬ ((1024 : Int) < (L.length : Int)) := by omega
  have i2 : ¬ ((100 : Int) < (m : Int)) := by omega
  have i3 : ((L.length : Int) != (L.length : Int)) = false := by simp
  go_enter Try.func8, Try.ntmps8
  go_wp2_with (first
    | (go_at_call 23; refine (from_ok _ hr hw).mono ?_; rintro e w1 ⟨mm, a, rfl, hM, h1, h2, ht1⟩; have hr1 := hr.touch ht1 (by simp))
    | (go_at_call 25; refine (len_mem hM).mono ?_; rintro e w' ⟨rfl, rfl⟩)
    | (go_at_call 26; refine (copy_any _ hr1 (by omega)).mono ?_; rintro e w2 ⟨p, cap, rfl, hown, ht2⟩))
  obtain ⟨g, hR, hg, hga⟩ := Row.of_owns_ne hown hw a hM.lt.2
  obtain ⟨hcap, hcm⟩ := owns_cap hown
  have hM2 := hM.touch ht2 (by simp) (by simp)
  have hT2 : Touch [] w w2 := ht1.trans ht2
  have hmg : mm ≠ g := by have := hM.lt.1; omega
  have hsz := ht1.size
  have HA := Lib.hid (show w.heap.size ≤ a ∧ w.heap.size ≤ g ∧ w.heap.size ≤ mm ∧ g ≠ a ∧ mm ≠ g from ⟨h2, by omega, h1, hga, hmg⟩)
  clear hown hM hr1 ht1 ht2 hg hga hmg h1 h2 hsz
  go_loopw [8] (fun i wr => ∃ (k : Nat) (L' : List Int), k ≤ m ∧ i = .int .i64 k ∧ Mem wr mm a L' ∧ Row wr p g L' ∧ Hid (L'.length = L.length) ∧ Touch [] w wr) (fun i _ => m - (intOf i).toNat)
  case atStart => exact ⟨0, L, Nat.zero_le _, rfl, hM2, hR, Lib.hid rfl, hT2⟩
  case round =>
    obtain ⟨k, L', hk, rfl, hMr, hRr, hlen, hTr⟩ := hrel
    clear hM2 hR hT2
    have hBr := hB.touch hTr (by simp)
    by_cases hlt : k < m
    · obtain ⟨b, off, ac, rfl, hb, hac⟩ := acc_head hB hlt
      obtain ⟨c0, c1, c2, c3, c4, c5, c6⟩ := acc_cells hBr hlt hac
      obtain ⟨hx, hy, ho⟩ := hl ac (List.mem_of_getElem? hac)
      have HAC := Lib.hid hac
      clear hac
      have hd := do_any hMr ac hx hy
      have hrd := fun W (hR : Row W p g L') => rdo_any hR (by rw [hlen.out]; exact hcap) hcm ac hx hy
      have hlen2 := doA_length L' ac
      rw [hlen.out] at hlen2
      simp only [hlen.out] at hrd
      generalize doA L' ac = r at hd hrd hlen2
      obtain ⟨⟨rk, rc, rx, ry, ro⟩, rok, L2⟩ := r
      simp only [Acc.cells] at hd hrd hlen2
      have HLEN := Lib.hid hlen2
      clear hlen2
      have hi : (k : Int) < (m : Int) := by omega
      go_wp2_with (go_at_call 27; refine hd.mono ?_; rintro e w3 ⟨rfl, hM3, ht3⟩
                   have hT3 : Touch [] w w3 := hTr.newer ht3 (lv_ge HA.out.1)
                   obtain ⟨d0, d1, d2, d3, d4, d5, d6⟩ := acc_cells (hB.touch hT3 (by simp)) hlt HAC.out
                   have hR3 := hRr.touch ht3 (lv_not HA.out.2.2.2.1))
      refine (hrd _ (hR3.touch ((Touch.refl [] _).alloc _) (by simp))).mono ?_
      rintro e w4 ⟨rfl, hR4, ht4⟩
      have hM4 := (hM3.touch ((Touch.refl [] _).alloc _) (by simp) (by simp)).touch ht4 (lv_not HA.out.2.2.2.2) (lv_not (Ne.symm HA.out.2.2.2.1))
      have hT4 : Touch [] w w4 := (hT3.alloc _).newer ht4 (lv_ge HA.out.2.1)
      have e4 : w3.heap.size < w4.heap.size := by have := ht4.size; simp at this; omega
      have f4 := fun i => ht4.cell (p := ⟨w3.heap.size, i, none⟩) (by simp) (fun hm => by have h1 := hRr.lt (mem_lv hm).2; have h2 := (mem_lv hm).1; have h3 := ht3.size; simp at h2; omega)
      clear hR3 hM3 hRr hMr hBr
      go_wp2_with (first
        | (go_at_call 30; refine (all_mem (hM4.touch ((Touch.refl [] _).alloc _) (by simp) (by simp))).mono ?_; rintro e w5 ⟨p5, cap5, rfl, hown5, ht5⟩)
        | (go_at_call 29; refine (same_any _ (Rd.own hown5) (((hR4.touch ((Touch.refl [] _).alloc _) (by simp)).touch ht5 (by simp)).rd' HLEN.out) (by have := hM4.words.1; omega)).mono ?_; rintro e w6 ⟨rfl, ht6⟩))
      have ht := (((Touch.refl [] w4).alloc _).trans ht5).trans ht6
      exact ⟨⟨k + 1, L2, by omega, by go_num, hM4.touch ht (by simp) (by simp), hR4.touch ht (by simp), HLEN, hT4.trans ht⟩, by simp [intOf]; omega⟩
    · have hi : (m : Int) ≤ (k : Int) := by omega
      go_wp2_with (go_at_call 24; refine (awake01 _).mono ?_; rintro e w9 ⟨rfl, ht9⟩)
      go_ret
      exact ⟨rfl, hTr.trans ht9⟩

set_option maxHeartbeats 400000 in
theorem cellsPlay_long {A B : Option Addr} {n c m d : Nat} {L : List Int} {l : List Acc} (w : World) (hr : Rd w 1 A n (u32s L)) (hw : Words L) (hm : 100 < m) :
    Calls Try.prog 8 #[.slice A n c, .slice B m d] w fun e w' => e = .returned (.bool true) ∧ Touch [] w w' := by
  have hn := len_of_rd hr
  subst hn
  have h1024 := hw.1
  have i1 : ¬ ((1024 : Int) < (L.length : Int)) := by omega
  have i2 : ((100 : Int) < (m : Int)) := by omega
  have i3 : ((L.length : Int) != (L.length : Int)) = false := by simp
  go_enter Try.func8, Try.ntmps8
  go_wp2_with (first
    | (go_at_call 23; refine (from_ok _ hr hw).mono ?_; rintro e w1 ⟨mm, a, rfl, hM, h1, h2, ht1⟩)
    | (go_at_call 25; refine (len_mem hM).mono ?_; rintro e w' ⟨rfl, rfl⟩)
    | (go_at_call 24; refine (awake01 _).mono ?_; rintro e w9 ⟨rfl, ht9⟩))
  go_ret
  exact ⟨by simp, ht1.trans ht9⟩

set_option maxHeartbeats 400000 in
theorem cellsPlay_big {A B : Option Addr} {n c m d : Nat} (w : World) (hn : 1024 < n) (hn2 : n ≤ 9223372036854775807) :
    Calls Try.prog 8 #[.slice A n c, .slice B m d] w fun e w' => e = .returned (.bool true) ∧ Touch [] w w' := by
  have i1 : ((1024 : Int) < (n : Int)) := by omega
  go_enter Try.func8, Try.ntmps8
  go_wp2_with (first
    | (go_at_call 23; refine (from_no _ hn hn2).mono ?_; rintro e w1 ⟨rfl, ht1⟩)
    | (go_at_call 24; refine (awake01 _).mono ?_; rintro e w9 ⟨rfl, ht9⟩))
  go_ret
  exact ⟨by simp, ht1.trans ht9⟩

theorem u32s_flatMap (L : List Int) : (L.flatMap fun x => [Value.int .u32 x]) = u32s L := by
  induction L with
  | nil => rfl
  | cons x L ih => rw [List.flatMap_cons, ih]; rfl

/-- WHATEVER THE INPUT. -/
theorem cellsPlay_any {A B : Option Addr} {n c m d : Nat} {L : List Int} {l : List Acc} (w : World) (hr : Rd w 1 A n (L.flatMap fun x => [Value.int .u32 x])) (hL : ∀ x, x ∈ L → 0 ≤ x ∧ x < 4294967296)
    (hB : Rd w 5 B m (l.flatMap fun a => a.cells.toList)) (hl : ∀ a, a ∈ l → AccOk a) (hc : n ≤ c) (hm : c ≤ 9223372036854775807) :
    Calls Try.prog 8 #[.slice A n c, .slice B m d] w fun e w' => e = .returned (.bool true) ∧ Touch [] w w' := by
  have hr' : Rd w 1 A n (u32s L) := by
    rw [← u32s_flatMap]
    exact hr
  by_cases hn : n ≤ 1024
  · have hw : Words L := ⟨by have := len_of_rd hr'; omega, hL⟩
    by_cases h1 : m ≤ 100
    · exact cellsPlay_some w hr' hw hB hl h1
    · exact cellsPlay_long (l := l) w hr' hw (by omega)
  · exact cellsPlay_big w (by omega) (by omega)

end Go.Proofs.Ytjlpaefpilhngaa.Z
