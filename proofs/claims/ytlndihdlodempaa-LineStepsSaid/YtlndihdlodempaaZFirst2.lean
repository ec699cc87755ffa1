/- Package place: First, a kind each: all words at first. -/
import Derived.Test.YtlndihdlodempaaZFirst
import Derived.Outline
set_option linter.unusedVariables false
set_option linter.unusedSimpArgs false
namespace Go.Proofs.Ytlndihdlodempaa.Z
open Go.RowKit

theorem placeNew_ok (n : Int) (w : World) (h : 1 ≤ n ∧ n ≤ 64) : Calls Try.prog 140 #[.int .i64 n] w fun e w' => e = .returned (.tuple #[.agg #[.int .i64 n], .int .i64 0]) ∧ Touch [] w w' := by
  have hr := fun w => right_yes n w h
  go_enter Try.func140, Try.ntmps140
  go_wp2_with (go_at_call 171; refine (hr _).mono ?_; rintro e w' ⟨rfl, rfl⟩)
  refine bodyPost_ret (v := .tuple #[.agg #[.int .i64 n], .int .i64 0]) (by simp [results, Try.results140, go_sem]) rfl ⟨rfl, ?_⟩
  repeat (first | exact Touch.refl _ _ | apply Touch.drew | apply Touch.alloc)

theorem mapSize_ok (n : Int) (w : World) (h : 1 ≤ n ∧ n ≤ 64) : Calls Try.prog 141 #[.agg #[.int .i64 n]] w fun e w' => e = .returned (.int .i64 (8 + 4 * n)) ∧ Touch [] w w' := by
  have hr := fun w => right_yes n w h
  obtain ⟨h1, h2⟩ := h
  go_enter Try.func141, Try.ntmps141
  go_wp2_with (go_at_call 171; refine (hr _).mono ?_; rintro e w' ⟨rfl, rfl⟩)
  go_ret
  exact ⟨rfl, (Touch.refl _ _).alloc _⟩

/-- A new slice of these words is told, with no error. -/
def NewWords (w : World) (L : List Int) (e : Ending) (w' : World) : Prop :=
  ∃ p g cap, e = .returned (.tuple #[.slice p L.length cap, .int .i64 0]) ∧ Row w' p g L ∧ w.heap.size ≤ g ∧ g < w'.heap.size ∧ Touch [] w w' ∧ L.length ≤ cap ∧ cap ≤ 9223372036854775807

theorem set_snoc {l : List Int} {m : Nat} {v : Int} (h : 0 < m) : (l ++ List.replicate m 0).set l.length v = (l ++ [v]) ++ List.replicate (m - 1) 0 := by
  rw [List.set_append_right _ _ (Nat.le_refl _), Nat.sub_self]
  obtain ⟨k, rfl⟩ : ∃ k, m = k + 1 := ⟨m - 1, by omega⟩
  simp [List.replicate_succ]

theorem part_at (l : List Int) (m q : Nat) (h : l.length = q) : (l ++ List.replicate m 0).getD q 0 = 0 := by
  subst h
  simp [List.getD, List.getElem?_append, List.getElem?_replicate]
  split <;> rfl

theorem newWords_of {w w' : World} {L L' : List Int} {p : Option Addr} {g N : Nat} (hL : L' = L) (hlen : L'.length = N) (h0 : 0 < N) (hN : N ≤ 1048576) (R : Row w' p g L') (hg : w.heap.size ≤ g) (t : Touch [] w w') :
    NewWords w L (.returned (.tuple #[.slice p N N, .int .i64 0])) w' := by
  subst hL
  subst hlen
  exact ⟨p, g, _, rfl, R, hg, R.lt h0, t, Nat.le_refl _, by omega⟩

theorem words_part {l : List Int} {m : Nat} (hl : ∀ x, x ∈ l → 0 ≤ x ∧ x < 4294967296) (h : l.length + m ≤ 1024) : Words (l ++ List.replicate m 0) := by
  refine ⟨by simpa using h, fun x hx => ?_⟩
  rcases List.mem_append.1 hx with h1 | h1
  · exact hl x h1
  · have := List.eq_of_mem_replicate h1; omega

/-- The own cells of kind 1 at first. -/
def own1 (base : Int) : List Int := [base, base, base]

theorem own1_range (base : Int) (hb : 0 ≤ base ∧ base < 4294967296) : ∀ x, x ∈ own1 base → 0 ≤ x ∧ x < 4294967296 := by
  intro x hx
  simp [own1] at hx
  omega

set_option maxHeartbeats 1600000 in
theorem first1 (n base : Int) (w : World) (h : 1 ≤ n ∧ n ≤ 64) (hb : 0 ≤ base ∧ base < 4294967296) :
    Calls Try.prog 74 #[.int .i64 1, .int .i64 n, .int .u32 base] w (NewWords w (own1 base ++ List.replicate ((8 + 4 * n).toNat - 3) 0)) := by
  obtain ⟨i0, hi0, hz0, hz1, hz2⟩ := info_parts u32_info
  have hnw := fun w => placeNew_ok n w h
  have hsz := fun w => mapSize_ok n w h
  obtain ⟨h1, h2⟩ := h
  go_enter Try.func74, Try.ntmps74
  go_wp2_with (go_at_call 139; refine (names_any _).mono ?_; rintro e w1 ⟨m, rfl, ⟨b1, b2, b3, b4, b5, b6, hm, B1, B2, B3, B4, B5, B6⟩, ht1⟩; have hlk := run_lookup_int (P := Try.prog) Try.underlying147 Try.underlying3 hm 1 _ rfl)
  refine (hnw _).mono ?_
  rintro e w2 ⟨rfl, ht2⟩
  have hB2 := (ht2.blk B1 (by simp)).alloc (.cells #[.int .i64 n] 38)
  have hT2 : Touch [] w (w2.alloc (.cells #[.int .i64 n] 38)) := (ht1.trans ht2).alloc _
  clear hlk hm B1 B2 B3 B4 B5 B6 ht1 ht2
  go_wp2_with (first
    | (go_at_call 141; refine (hsz _).mono ?_; rintro e w3 ⟨rfl, ht3⟩)
    | (at_make; refine wpList_make_full _ rfl _ _ 22 rfl w3.heap.size 23 i0 _ 1 Try.underlying22 hi0 hz0 hz1 _ _ _ _ (8 + 4 * n).toNat rfl rfl (by omega) (by omega) (by rw [hz2]; omega) (by unfold maxLen; omega) (Nat.le_refl _) ?_; intro w4 hown hg))
  have z3 := ht3.size
  have z4 := hg.size
  simp only [World.size_alloc] at z3
  obtain ⟨N, hN⟩ : ∃ N, (8 + 4 * n).toNat = N := ⟨_, rfl⟩
  have hNn : (N : Int) = 8 + 4 * n := by omega
  rw [hN] at hown
  have hown' : w4.ownsRow w3.heap.size 23 1 (.slice (some ⟨w3.heap.size, 0, none⟩) (List.replicate N (0 : Int)).length N) (List.replicate N (0 : Int)).length (u32s (List.replicate N 0)) := by
    have e : (madeCells (Value.int .u32 0).cells (N * 1)).toList = u32s (List.replicate N 0) := by
      rw [Nat.mul_one]; exact (toList_madeCells_one _ N).trans (by simp [u32s])
    rw [e] at hown
    simpa using hown
  obtain ⟨g, hR, _⟩ := Row.of_owns hown' (words_part (l := []) (by simp) (by simp; omega))
  obtain rfl : g = w3.heap.size := by have := hR.at_ (by simp; omega); simp at this; exact this.symm
  have hT4 : Touch [] w w4 := (hT2.trans ht3).grown hg (by simp)
  have hB4 := (Touch.grown (Touch.refl [] w3) hg (by simp)).blk (ht3.blk hB2 (by simp)) (by simp)
  have hbl := hB4.lt
  have HB := Lib.hid (show w.heap.size ≤ w3.heap.size ∧ b1 ≠ w3.heap.size from ⟨by have := (hT2.trans ht3).size; omega, by have := (ht3.blk hB2 (by simp)).lt; omega⟩)
  have HN := Lib.hid hN
  clear hown hown' hg ht3 hT2 hB2 z3 z4 hN hbl hnw hsz
  rw [HN.out]
  go_loopw [33] (fun i wr => ∃ k : Nat, k ≤ 3 ∧ i = .int .i64 k ∧ Row wr (some ⟨w3.heap.size, 0, none⟩) w3.heap.size ((own1 base).take k ++ List.replicate (N - k) 0) ∧ Touch [] w wr ∧ Blk wr b1 names1) (fun i _ => 3 - (intOf i).toNat)
  case atStart => exact ⟨0, by decide, rfl, hR, hT4, hB4⟩
  case round =>
    obtain ⟨k, hk, rfl, hRr, hTr, hBr⟩ := hrel
    clear hR hT4 hB4
    have hcases : k = 0 ∨ k = 1 ∨ k = 2 ∨ k = 3 := by omega
    clear hk
    rcases hcases with rfl | rfl | rfl | rfl
    · have hname : wr.cell? ⟨b1, 0, none⟩ = some (.string s_users) := by rw [hBr.cell]; rfl
      have hbl := hBr.lt
      obtain ⟨_, d1, d2, c3, _, _⟩ := hRr.at_cell 0 0 (by decide) (by simp [own1]; omega) (part_at _ _ 0 rfl)
      have c1 : wr.cell? ⟨w3.heap.size, 0, none⟩ = some (.int .u32 0) := d1
      have c2 : wr.frozen? ⟨w3.heap.size, 0, none⟩ = false := d2
      clear d1 d2
      have hset := hRr.set 0 (by simp [own1]; omega) base hb.1 hb.2
      have hts := (Touch.refl [w3.heap.size] wr).set (p := ⟨w3.heap.size, 0, none⟩) (by simp) (.int .u32 base)
      have hTs : Touch [] w (wr.setCell ⟨w3.heap.size, 0, none⟩ (.int .u32 base)) := hTr.newer hts (by have := HB.out.1; simp; exact this)
      have hBs := hts.blk hBr (by have := HB.out.2; simpa using this)
      have hs := set_snoc (l := (own1 base).take 0) (m := N - 0) (v := base) (by omega)
      rw [Nat.sub_sub] at hs
      have hset : Row (wr.setCell ⟨w3.heap.size, 0, none⟩ (.int .u32 base)) (some ⟨w3.heap.size, 0, none⟩) w3.heap.size ((own1 base).take 1 ++ List.replicate (N - 1) 0) := by
        rw [show (own1 base).take 1 ++ List.replicate (N - 1) 0 = _ from hs.symm]
        exact hset
      have hi : (0 : Int) < (N : Int) := by omega
      have HNN := Lib.hid hNn
      clear hNn hs hts
      have HSET := Lib.hid hset
      clear hset
      go_wp2_with (go_at_call 142; refine (begin_users _ base _ hb).mono ?_; rintro e w9 ⟨rfl, rfl⟩)
      exact ⟨⟨1, by decide, rfl, HSET.out, hTs, hBs⟩, by simp [intOf]⟩
    · have hname : wr.cell? ⟨b1, 1, none⟩ = some (.string s_reads) := by rw [hBr.cell]; rfl
      have hbl := hBr.lt
      obtain ⟨_, d1, d2, c3, _, _⟩ := hRr.at_cell 1 0 (by decide) (by simp [own1]; omega) (part_at _ _ 1 rfl)
      have c1 : wr.cell? ⟨w3.heap.size, 1, none⟩ = some (.int .u32 0) := d1
      have c2 : wr.frozen? ⟨w3.heap.size, 1, none⟩ = false := d2
      clear d1 d2
      have hset := hRr.set 1 (by simp [own1]; omega) base hb.1 hb.2
      have hts := (Touch.refl [w3.heap.size] wr).set (p := ⟨w3.heap.size, 1, none⟩) (by simp) (.int .u32 base)
      have hTs : Touch [] w (wr.setCell ⟨w3.heap.size, 1, none⟩ (.int .u32 base)) := hTr.newer hts (by have := HB.out.1; simp; exact this)
      have hBs := hts.blk hBr (by have := HB.out.2; simpa using this)
      have hs := set_snoc (l := (own1 base).take 1) (m := N - 1) (v := base) (by omega)
      rw [Nat.sub_sub] at hs
      have hset : Row (wr.setCell ⟨w3.heap.size, 1, none⟩ (.int .u32 base)) (some ⟨w3.heap.size, 0, none⟩) w3.heap.size ((own1 base).take 2 ++ List.replicate (N - 2) 0) := by
        rw [show (own1 base).take 2 ++ List.replicate (N - 2) 0 = _ from hs.symm]
        exact hset
      have hi : (1 : Int) < (N : Int) := by omega
      have HNN := Lib.hid hNn
      clear hNn hs hts
      have HSET := Lib.hid hset
      clear hset
      go_wp2_with (go_at_call 142; refine (begin_reads _ base _ hb).mono ?_; rintro e w9 ⟨rfl, rfl⟩)
      exact ⟨⟨2, by decide, rfl, HSET.out, hTs, hBs⟩, by simp [intOf]⟩
    · have hname : wr.cell? ⟨b1, 2, none⟩ = some (.string s_writes) := by rw [hBr.cell]; rfl
      have hbl := hBr.lt
      obtain ⟨_, d1, d2, c3, _, _⟩ := hRr.at_cell 2 0 (by decide) (by simp [own1]; omega) (part_at _ _ 2 rfl)
      have c1 : wr.cell? ⟨w3.heap.size, 2, none⟩ = some (.int .u32 0) := d1
      have c2 : wr.frozen? ⟨w3.heap.size, 2, none⟩ = false := d2
      clear d1 d2
      have hset := hRr.set 2 (by simp [own1]; omega) base hb.1 hb.2
      have hts := (Touch.refl [w3.heap.size] wr).set (p := ⟨w3.heap.size, 2, none⟩) (by simp) (.int .u32 base)
      have hTs : Touch [] w (wr.setCell ⟨w3.heap.size, 2, none⟩ (.int .u32 base)) := hTr.newer hts (by have := HB.out.1; simp; exact this)
      have hBs := hts.blk hBr (by have := HB.out.2; simpa using this)
      have hs := set_snoc (l := (own1 base).take 2) (m := N - 2) (v := base) (by omega)
      rw [Nat.sub_sub] at hs
      have hset : Row (wr.setCell ⟨w3.heap.size, 2, none⟩ (.int .u32 base)) (some ⟨w3.heap.size, 0, none⟩) w3.heap.size ((own1 base).take 3 ++ List.replicate (N - 3) 0) := by
        rw [show (own1 base).take 3 ++ List.replicate (N - 3) 0 = _ from hs.symm]
        exact hset
      have hi : (2 : Int) < (N : Int) := by omega
      have HNN := Lib.hid hNn
      clear hNn hs hts
      have HSET := Lib.hid hset
      clear hset
      go_wp2_with (go_at_call 142; refine (begin_writes _ base _ hb).mono ?_; rintro e w9 ⟨rfl, rfl⟩)
      exact ⟨⟨3, by decide, rfl, HSET.out, hTs, hBs⟩, by simp [intOf]⟩
    · have hlen : ((own1 base).take 3 ++ List.replicate (N - 3) 0).length = N := by simp [own1]; omega
      have HL := Lib.hid hlen
      have HNN := Lib.hid hNn
      clear hlen hNn
      go_wp2
      go_ret2
      exact newWords_of (by rw [HN.out]; rfl) HL.out (by have := HNN.out; omega) (by have := HNN.out; omega) hRr HB.out.1 hTr

/-- The own cells of kind 2 at first. -/
def own2 (base : Int) : List Int := [(base * 256 % 4294967296), (base * 256 % 4294967296), base, base, base]

theorem own2_range (base : Int) (hb : 0 ≤ base ∧ base < 4294967296) : ∀ x, x ∈ own2 base → 0 ≤ x ∧ x < 4294967296 := by
  intro x hx
  simp [own2] at hx
  omega

set_option maxHeartbeats 1600000 in
theorem first2 (n base : Int) (w : World) (h : 1 ≤ n ∧ n ≤ 64) (hb : 0 ≤ base ∧ base < 4294967296) :
    Calls Try.prog 74 #[.int .i64 2, .int .i64 n, .int .u32 base] w (NewWords w (own2 base ++ List.replicate ((8 + 4 * n).toNat - 5) 0)) := by
  obtain ⟨i0, hi0, hz0, hz1, hz2⟩ := info_parts u32_info
  have hnw := fun w => placeNew_ok n w h
  have hsz := fun w => mapSize_ok n w h
  obtain ⟨h1, h2⟩ := h
  go_enter Try.func74, Try.ntmps74
  go_wp2_with (go_at_call 139; refine (names_any _).mono ?_; rintro e w1 ⟨m, rfl, ⟨b1, b2, b3, b4, b5, b6, hm, B1, B2, B3, B4, B5, B6⟩, ht1⟩; have hlk := run_lookup_int (P := Try.prog) Try.underlying147 Try.underlying3 hm 2 _ rfl)
  refine (hnw _).mono ?_
  rintro e w2 ⟨rfl, ht2⟩
  have hB2 := (ht2.blk B2 (by simp)).alloc (.cells #[.int .i64 n] 38)
  have hT2 : Touch [] w (w2.alloc (.cells #[.int .i64 n] 38)) := (ht1.trans ht2).alloc _
  clear hlk hm B1 B2 B3 B4 B5 B6 ht1 ht2
  go_wp2_with (first
    | (go_at_call 141; refine (hsz _).mono ?_; rintro e w3 ⟨rfl, ht3⟩)
    | (at_make; refine wpList_make_full _ rfl _ _ 22 rfl w3.heap.size 23 i0 _ 1 Try.underlying22 hi0 hz0 hz1 _ _ _ _ (8 + 4 * n).toNat rfl rfl (by omega) (by omega) (by rw [hz2]; omega) (by unfold maxLen; omega) (Nat.le_refl _) ?_; intro w4 hown hg))
  have z3 := ht3.size
  have z4 := hg.size
  simp only [World.size_alloc] at z3
  obtain ⟨N, hN⟩ : ∃ N, (8 + 4 * n).toNat = N := ⟨_, rfl⟩
  have hNn : (N : Int) = 8 + 4 * n := by omega
  rw [hN] at hown
  have hown' : w4.ownsRow w3.heap.size 23 1 (.slice (some ⟨w3.heap.size, 0, none⟩) (List.replicate N (0 : Int)).length N) (List.replicate N (0 : Int)).length (u32s (List.replicate N 0)) := by
    have e : (madeCells (Value.int .u32 0).cells (N * 1)).toList = u32s (List.replicate N 0) := by
      rw [Nat.mul_one]; exact (toList_madeCells_one _ N).trans (by simp [u32s])
    rw [e] at hown
    simpa using hown
  obtain ⟨g, hR, _⟩ := Row.of_owns hown' (words_part (l := []) (by simp) (by simp; omega))
  obtain rfl : g = w3.heap.size := by have := hR.at_ (by simp; omega); simp at this; exact this.symm
  have hT4 : Touch [] w w4 := (hT2.trans ht3).grown hg (by simp)
  have hB4 := (Touch.grown (Touch.refl [] w3) hg (by simp)).blk (ht3.blk hB2 (by simp)) (by simp)
  have hbl := hB4.lt
  have HB := Lib.hid (show w.heap.size ≤ w3.heap.size ∧ b2 ≠ w3.heap.size from ⟨by have := (hT2.trans ht3).size; omega, by have := (ht3.blk hB2 (by simp)).lt; omega⟩)
  have HN := Lib.hid hN
  clear hown hown' hg ht3 hT2 hB2 z3 z4 hN hbl hnw hsz
  rw [HN.out]
  go_loopw [33] (fun i wr => ∃ k : Nat, k ≤ 5 ∧ i = .int .i64 k ∧ Row wr (some ⟨w3.heap.size, 0, none⟩) w3.heap.size ((own2 base).take k ++ List.replicate (N - k) 0) ∧ Touch [] w wr ∧ Blk wr b2 names2) (fun i _ => 5 - (intOf i).toNat)
  case atStart => exact ⟨0, by decide, rfl, hR, hT4, hB4⟩
  case round =>
    obtain ⟨k, hk, rfl, hRr, hTr, hBr⟩ := hrel
    clear hR hT4 hB4
    have hcases : k = 0 ∨ k = 1 ∨ k = 2 ∨ k = 3 ∨ k = 4 ∨ k = 5 := by omega
    clear hk
    rcases hcases with rfl | rfl | rfl | rfl | rfl | rfl
    · have hname : wr.cell? ⟨b2, 0, none⟩ = some (.string s_rin) := by rw [hBr.cell]; rfl
      have hbl := hBr.lt
      obtain ⟨_, d1, d2, c3, _, _⟩ := hRr.at_cell 0 0 (by decide) (by simp [own2]; omega) (part_at _ _ 0 rfl)
      have c1 : wr.cell? ⟨w3.heap.size, 0, none⟩ = some (.int .u32 0) := d1
      have c2 : wr.frozen? ⟨w3.heap.size, 0, none⟩ = false := d2
      clear d1 d2
      have hset := hRr.set 0 (by simp [own2]; omega) (base * 256 % 4294967296) (by omega) (by omega)
      have hts := (Touch.refl [w3.heap.size] wr).set (p := ⟨w3.heap.size, 0, none⟩) (by simp) (.int .u32 (base * 256 % 4294967296))
      have hTs : Touch [] w (wr.setCell ⟨w3.heap.size, 0, none⟩ (.int .u32 (base * 256 % 4294967296))) := hTr.newer hts (by have := HB.out.1; simp; exact this)
      have hBs := hts.blk hBr (by have := HB.out.2; simpa using this)
      have hs := set_snoc (l := (own2 base).take 0) (m := N - 0) (v := (base * 256 % 4294967296)) (by omega)
      rw [Nat.sub_sub] at hs
      have hset : Row (wr.setCell ⟨w3.heap.size, 0, none⟩ (.int .u32 (base * 256 % 4294967296))) (some ⟨w3.heap.size, 0, none⟩) w3.heap.size ((own2 base).take 1 ++ List.replicate (N - 1) 0) := by
        rw [show (own2 base).take 1 ++ List.replicate (N - 1) 0 = _ from hs.symm]
        exact hset
      have hi : (0 : Int) < (N : Int) := by omega
      have HNN := Lib.hid hNn
      clear hNn hs hts
      have HSET := Lib.hid hset
      clear hset
      go_wp2_with (go_at_call 142; refine (begin_rin _ base _ hb).mono ?_; rintro e w9 ⟨rfl, rfl⟩)
      exact ⟨⟨1, by decide, rfl, HSET.out, hTs, hBs⟩, by simp [intOf]⟩
    · have hname : wr.cell? ⟨b2, 1, none⟩ = some (.string s_rout) := by rw [hBr.cell]; rfl
      have hbl := hBr.lt
      obtain ⟨_, d1, d2, c3, _, _⟩ := hRr.at_cell 1 0 (by decide) (by simp [own2]; omega) (part_at _ _ 1 rfl)
      have c1 : wr.cell? ⟨w3.heap.size, 1, none⟩ = some (.int .u32 0) := d1
      have c2 : wr.frozen? ⟨w3.heap.size, 1, none⟩ = false := d2
      clear d1 d2
      have hset := hRr.set 1 (by simp [own2]; omega) (base * 256 % 4294967296) (by omega) (by omega)
      have hts := (Touch.refl [w3.heap.size] wr).set (p := ⟨w3.heap.size, 1, none⟩) (by simp) (.int .u32 (base * 256 % 4294967296))
      have hTs : Touch [] w (wr.setCell ⟨w3.heap.size, 1, none⟩ (.int .u32 (base * 256 % 4294967296))) := hTr.newer hts (by have := HB.out.1; simp; exact this)
      have hBs := hts.blk hBr (by have := HB.out.2; simpa using this)
      have hs := set_snoc (l := (own2 base).take 1) (m := N - 1) (v := (base * 256 % 4294967296)) (by omega)
      rw [Nat.sub_sub] at hs
      have hset : Row (wr.setCell ⟨w3.heap.size, 1, none⟩ (.int .u32 (base * 256 % 4294967296))) (some ⟨w3.heap.size, 0, none⟩) w3.heap.size ((own2 base).take 2 ++ List.replicate (N - 2) 0) := by
        rw [show (own2 base).take 2 ++ List.replicate (N - 2) 0 = _ from hs.symm]
        exact hset
      have hi : (1 : Int) < (N : Int) := by omega
      have HNN := Lib.hid hNn
      clear hNn hs hts
      have HSET := Lib.hid hset
      clear hset
      go_wp2_with (go_at_call 142; refine (begin_rout _ base _ hb).mono ?_; rintro e w9 ⟨rfl, rfl⟩)
      exact ⟨⟨2, by decide, rfl, HSET.out, hTs, hBs⟩, by simp [intOf]⟩
    · have hname : wr.cell? ⟨b2, 2, none⟩ = some (.string s_win) := by rw [hBr.cell]; rfl
      have hbl := hBr.lt
      obtain ⟨_, d1, d2, c3, _, _⟩ := hRr.at_cell 2 0 (by decide) (by simp [own2]; omega) (part_at _ _ 2 rfl)
      have c1 : wr.cell? ⟨w3.heap.size, 2, none⟩ = some (.int .u32 0) := d1
      have c2 : wr.frozen? ⟨w3.heap.size, 2, none⟩ = false := d2
      clear d1 d2
      have hset := hRr.set 2 (by simp [own2]; omega) base hb.1 hb.2
      have hts := (Touch.refl [w3.heap.size] wr).set (p := ⟨w3.heap.size, 2, none⟩) (by simp) (.int .u32 base)
      have hTs : Touch [] w (wr.setCell ⟨w3.heap.size, 2, none⟩ (.int .u32 base)) := hTr.newer hts (by have := HB.out.1; simp; exact this)
      have hBs := hts.blk hBr (by have := HB.out.2; simpa using this)
      have hs := set_snoc (l := (own2 base).take 2) (m := N - 2) (v := base) (by omega)
      rw [Nat.sub_sub] at hs
      have hset : Row (wr.setCell ⟨w3.heap.size, 2, none⟩ (.int .u32 base)) (some ⟨w3.heap.size, 0, none⟩) w3.heap.size ((own2 base).take 3 ++ List.replicate (N - 3) 0) := by
        rw [show (own2 base).take 3 ++ List.replicate (N - 3) 0 = _ from hs.symm]
        exact hset
      have hi : (2 : Int) < (N : Int) := by omega
      have HNN := Lib.hid hNn
      clear hNn hs hts
      have HSET := Lib.hid hset
      clear hset
      go_wp2_with (go_at_call 142; refine (begin_win _ base _ hb).mono ?_; rintro e w9 ⟨rfl, rfl⟩)
      exact ⟨⟨3, by decide, rfl, HSET.out, hTs, hBs⟩, by simp [intOf]⟩
    · have hname : wr.cell? ⟨b2, 3, none⟩ = some (.string s_wout) := by rw [hBr.cell]; rfl
      have hbl := hBr.lt
      obtain ⟨_, d1, d2, c3, _, _⟩ := hRr.at_cell 3 0 (by decide) (by simp [own2]; omega) (part_at _ _ 3 rfl)
      have c1 : wr.cell? ⟨w3.heap.size, 3, none⟩ = some (.int .u32 0) := d1
      have c2 : wr.frozen? ⟨w3.heap.size, 3, none⟩ = false := d2
      clear d1 d2
      have hset := hRr.set 3 (by simp [own2]; omega) base hb.1 hb.2
      have hts := (Touch.refl [w3.heap.size] wr).set (p := ⟨w3.heap.size, 3, none⟩) (by simp) (.int .u32 base)
      have hTs : Touch [] w (wr.setCell ⟨w3.heap.size, 3, none⟩ (.int .u32 base)) := hTr.newer hts (by have := HB.out.1; simp; exact this)
      have hBs := hts.blk hBr (by have := HB.out.2; simpa using this)
      have hs := set_snoc (l := (own2 base).take 3) (m := N - 3) (v := base) (by omega)
      rw [Nat.sub_sub] at hs
      have hset : Row (wr.setCell ⟨w3.heap.size, 3, none⟩ (.int .u32 base)) (some ⟨w3.heap.size, 0, none⟩) w3.heap.size ((own2 base).take 4 ++ List.replicate (N - 4) 0) := by
        rw [show (own2 base).take 4 ++ List.replicate (N - 4) 0 = _ from hs.symm]
        exact hset
      have hi : (3 : Int) < (N : Int) := by omega
      have HNN := Lib.hid hNn
      clear hNn hs hts
      have HSET := Lib.hid hset
      clear hset
      go_wp2_with (go_at_call 142; refine (begin_wout _ base _ hb).mono ?_; rintro e w9 ⟨rfl, rfl⟩)
      exact ⟨⟨4, by decide, rfl, HSET.out, hTs, hBs⟩, by simp [intOf]⟩
    · have hname : wr.cell? ⟨b2, 4, none⟩ = some (.string s_phase) := by rw [hBr.cell]; rfl
      have hbl := hBr.lt
      obtain ⟨_, d1, d2, c3, _, _⟩ := hRr.at_cell 4 0 (by decide) (by simp [own2]; omega) (part_at _ _ 4 rfl)
      have c1 : wr.cell? ⟨w3.heap.size, 4, none⟩ = some (.int .u32 0) := d1
      have c2 : wr.frozen? ⟨w3.heap.size, 4, none⟩ = false := d2
      clear d1 d2
      have hset := hRr.set 4 (by simp [own2]; omega) base hb.1 hb.2
      have hts := (Touch.refl [w3.heap.size] wr).set (p := ⟨w3.heap.size, 4, none⟩) (by simp) (.int .u32 base)
      have hTs : Touch [] w (wr.setCell ⟨w3.heap.size, 4, none⟩ (.int .u32 base)) := hTr.newer hts (by have := HB.out.1; simp; exact this)
      have hBs := hts.blk hBr (by have := HB.out.2; simpa using this)
      have hs := set_snoc (l := (own2 base).take 4) (m := N - 4) (v := base) (by omega)
      rw [Nat.sub_sub] at hs
      have hset : Row (wr.setCell ⟨w3.heap.size, 4, none⟩ (.int .u32 base)) (some ⟨w3.heap.size, 0, none⟩) w3.heap.size ((own2 base).take 5 ++ List.replicate (N - 5) 0) := by
        rw [show (own2 base).take 5 ++ List.replicate (N - 5) 0 = _ from hs.symm]
        exact hset
      have hi : (4 : Int) < (N : Int) := by omega
      have HNN := Lib.hid hNn
      clear hNn hs hts
      have HSET := Lib.hid hset
      clear hset
      go_wp2_with (go_at_call 142; refine (begin_phase _ base _ hb).mono ?_; rintro e w9 ⟨rfl, rfl⟩)
      exact ⟨⟨5, by decide, rfl, HSET.out, hTs, hBs⟩, by simp [intOf]⟩
    · have hlen : ((own2 base).take 5 ++ List.replicate (N - 5) 0).length = N := by simp [own2]; omega
      have HL := Lib.hid hlen
      have HNN := Lib.hid hNn
      clear hlen hNn
      go_wp2
      go_ret2
      exact newWords_of (by rw [HN.out]; rfl) HL.out (by have := HNN.out; omega) (by have := HNN.out; omega) hRr HB.out.1 hTr

/-- The own cells of kind 3 at first. -/
def own3 (base : Int) : List Int := [(base * 256 % 4294967296), (base * 256 % 4294967296), 0, base]

theorem own3_range (base : Int) (hb : 0 ≤ base ∧ base < 4294967296) : ∀ x, x ∈ own3 base → 0 ≤ x ∧ x < 4294967296 := by
  intro x hx
  simp [own3] at hx
  omega

set_option maxHeartbeats 1600000 in
theorem first3 (n base : Int) (w : World) (h : 1 ≤ n ∧ n ≤ 64) (hb : 0 ≤ base ∧ base < 4294967296) :
    Calls Try.prog 74 #[.int .i64 3, .int .i64 n, .int .u32 base] w (NewWords w (own3 base ++ List.replicate ((8 + 4 * n).toNat - 4) 0)) := by
  obtain ⟨i0, hi0, hz0, hz1, hz2⟩ := info_parts u32_info
  have hnw := fun w => placeNew_ok n w h
  have hsz := fun w => mapSize_ok n w h
  obtain ⟨h1, h2⟩ := h
  go_enter Try.func74, Try.ntmps74
  go_wp2_with (go_at_call 139; refine (names_any _).mono ?_; rintro e w1 ⟨m, rfl, ⟨b1, b2, b3, b4, b5, b6, hm, B1, B2, B3, B4, B5, B6⟩, ht1⟩; have hlk := run_lookup_int (P := Try.prog) Try.underlying147 Try.underlying3 hm 3 _ rfl)
  refine (hnw _).mono ?_
  rintro e w2 ⟨rfl, ht2⟩
  have hB2 := (ht2.blk B3 (by simp)).alloc (.cells #[.int .i64 n] 38)
  have hT2 : Touch [] w (w2.alloc (.cells #[.int .i64 n] 38)) := (ht1.trans ht2).alloc _
  clear hlk hm B1 B2 B3 B4 B5 B6 ht1 ht2
  go_wp2_with (first
    | (go_at_call 141; refine (hsz _).mono ?_; rintro e w3 ⟨rfl, ht3⟩)
    | (at_make; refine wpList_make_full _ rfl _ _ 22 rfl w3.heap.size 23 i0 _ 1 Try.underlying22 hi0 hz0 hz1 _ _ _ _ (8 + 4 * n).toNat rfl rfl (by omega) (by omega) (by rw [hz2]; omega) (by unfold maxLen; omega) (Nat.le_refl _) ?_; intro w4 hown hg))
  have z3 := ht3.size
  have z4 := hg.size
  simp only [World.size_alloc] at z3
  obtain ⟨N, hN⟩ : ∃ N, (8 + 4 * n).toNat = N := ⟨_, rfl⟩
  have hNn : (N : Int) = 8 + 4 * n := by omega
  rw [hN] at hown
  have hown' : w4.ownsRow w3.heap.size 23 1 (.slice (some ⟨w3.heap.size, 0, none⟩) (List.replicate N (0 : Int)).length N) (List.replicate N (0 : Int)).length (u32s (List.replicate N 0)) := by
    have e : (madeCells (Value.int .u32 0).cells (N * 1)).toList = u32s (List.replicate N 0) := by
      rw [Nat.mul_one]; exact (toList_madeCells_one _ N).trans (by simp [u32s])
    rw [e] at hown
    simpa using hown
  obtain ⟨g, hR, _⟩ := Row.of_owns hown' (words_part (l := []) (by simp) (by simp; omega))
  obtain rfl : g = w3.heap.size := by have := hR.at_ (by simp; omega); simp at this; exact this.symm
  have hT4 : Touch [] w w4 := (hT2.trans ht3).grown hg (by simp)
  have hB4 := (Touch.grown (Touch.refl [] w3) hg (by simp)).blk (ht3.blk hB2 (by simp)) (by simp)
  have hbl := hB4.lt
  have HB := Lib.hid (show w.heap.size ≤ w3.heap.size ∧ b3 ≠ w3.heap.size from ⟨by have := (hT2.trans ht3).size; omega, by have := (ht3.blk hB2 (by simp)).lt; omega⟩)
  have HN := Lib.hid hN
  clear hown hown' hg ht3 hT2 hB2 z3 z4 hN hbl hnw hsz
  rw [HN.out]
  go_loopw [33] (fun i wr => ∃ k : Nat, k ≤ 4 ∧ i = .int .i64 k ∧ Row wr (some ⟨w3.heap.size, 0, none⟩) w3.heap.size ((own3 base).take k ++ List.replicate (N - k) 0) ∧ Touch [] w wr ∧ Blk wr b3 names3) (fun i _ => 4 - (intOf i).toNat)
  case atStart => exact ⟨0, by decide, rfl, hR, hT4, hB4⟩
  case round =>
    obtain ⟨k, hk, rfl, hRr, hTr, hBr⟩ := hrel
    clear hR hT4 hB4
    have hcases : k = 0 ∨ k = 1 ∨ k = 2 ∨ k = 3 ∨ k = 4 := by omega
    clear hk
    rcases hcases with rfl | rfl | rfl | rfl | rfl
    · have hname : wr.cell? ⟨b3, 0, none⟩ = some (.string s_rin) := by rw [hBr.cell]; rfl
      have hbl := hBr.lt
      obtain ⟨_, d1, d2, c3, _, _⟩ := hRr.at_cell 0 0 (by decide) (by simp [own3]; omega) (part_at _ _ 0 rfl)
      have c1 : wr.cell? ⟨w3.heap.size, 0, none⟩ = some (.int .u32 0) := d1
      have c2 : wr.frozen? ⟨w3.heap.size, 0, none⟩ = false := d2
      clear d1 d2
      have hset := hRr.set 0 (by simp [own3]; omega) (base * 256 % 4294967296) (by omega) (by omega)
      have hts := (Touch.refl [w3.heap.size] wr).set (p := ⟨w3.heap.size, 0, none⟩) (by simp) (.int .u32 (base * 256 % 4294967296))
      have hTs : Touch [] w (wr.setCell ⟨w3.heap.size, 0, none⟩ (.int .u32 (base * 256 % 4294967296))) := hTr.newer hts (by have := HB.out.1; simp; exact this)
      have hBs := hts.blk hBr (by have := HB.out.2; simpa using this)
      have hs := set_snoc (l := (own3 base).take 0) (m := N - 0) (v := (base * 256 % 4294967296)) (by omega)
      rw [Nat.sub_sub] at hs
      have hset : Row (wr.setCell ⟨w3.heap.size, 0, none⟩ (.int .u32 (base * 256 % 4294967296))) (some ⟨w3.heap.size, 0, none⟩) w3.heap.size ((own3 base).take 1 ++ List.replicate (N - 1) 0) := by
        rw [show (own3 base).take 1 ++ List.replicate (N - 1) 0 = _ from hs.symm]
        exact hset
      have hi : (0 : Int) < (N : Int) := by omega
      have HNN := Lib.hid hNn
      clear hNn hs hts
      have HSET := Lib.hid hset
      clear hset
      go_wp2_with (go_at_call 142; refine (begin_rin _ base _ hb).mono ?_; rintro e w9 ⟨rfl, rfl⟩)
      exact ⟨⟨1, by decide, rfl, HSET.out, hTs, hBs⟩, by simp [intOf]⟩
    · have hname : wr.cell? ⟨b3, 1, none⟩ = some (.string s_rout) := by rw [hBr.cell]; rfl
      have hbl := hBr.lt
      obtain ⟨_, d1, d2, c3, _, _⟩ := hRr.at_cell 1 0 (by decide) (by simp [own3]; omega) (part_at _ _ 1 rfl)
      have c1 : wr.cell? ⟨w3.heap.size, 1, none⟩ = some (.int .u32 0) := d1
      have c2 : wr.frozen? ⟨w3.heap.size, 1, none⟩ = false := d2
      clear d1 d2
      have hset := hRr.set 1 (by simp [own3]; omega) (base * 256 % 4294967296) (by omega) (by omega)
      have hts := (Touch.refl [w3.heap.size] wr).set (p := ⟨w3.heap.size, 1, none⟩) (by simp) (.int .u32 (base * 256 % 4294967296))
      have hTs : Touch [] w (wr.setCell ⟨w3.heap.size, 1, none⟩ (.int .u32 (base * 256 % 4294967296))) := hTr.newer hts (by have := HB.out.1; simp; exact this)
      have hBs := hts.blk hBr (by have := HB.out.2; simpa using this)
      have hs := set_snoc (l := (own3 base).take 1) (m := N - 1) (v := (base * 256 % 4294967296)) (by omega)
      rw [Nat.sub_sub] at hs
      have hset : Row (wr.setCell ⟨w3.heap.size, 1, none⟩ (.int .u32 (base * 256 % 4294967296))) (some ⟨w3.heap.size, 0, none⟩) w3.heap.size ((own3 base).take 2 ++ List.replicate (N - 2) 0) := by
        rw [show (own3 base).take 2 ++ List.replicate (N - 2) 0 = _ from hs.symm]
        exact hset
      have hi : (1 : Int) < (N : Int) := by omega
      have HNN := Lib.hid hNn
      clear hNn hs hts
      have HSET := Lib.hid hset
      clear hset
      go_wp2_with (go_at_call 142; refine (begin_rout _ base _ hb).mono ?_; rintro e w9 ⟨rfl, rfl⟩)
      exact ⟨⟨2, by decide, rfl, HSET.out, hTs, hBs⟩, by simp [intOf]⟩
    · have hname : wr.cell? ⟨b3, 2, none⟩ = some (.string s_tail) := by rw [hBr.cell]; rfl
      have hbl := hBr.lt
      obtain ⟨_, d1, d2, c3, _, _⟩ := hRr.at_cell 2 0 (by decide) (by simp [own3]; omega) (part_at _ _ 2 rfl)
      have c1 : wr.cell? ⟨w3.heap.size, 2, none⟩ = some (.int .u32 0) := d1
      have c2 : wr.frozen? ⟨w3.heap.size, 2, none⟩ = false := d2
      clear d1 d2
      have hset := hRr.set 2 (by simp [own3]; omega) 0 (by decide) (by decide)
      have hts := (Touch.refl [w3.heap.size] wr).set (p := ⟨w3.heap.size, 2, none⟩) (by simp) (.int .u32 0)
      have hTs : Touch [] w (wr.setCell ⟨w3.heap.size, 2, none⟩ (.int .u32 0)) := hTr.newer hts (by have := HB.out.1; simp; exact this)
      have hBs := hts.blk hBr (by have := HB.out.2; simpa using this)
      have hs := set_snoc (l := (own3 base).take 2) (m := N - 2) (v := 0) (by omega)
      rw [Nat.sub_sub] at hs
      have hset : Row (wr.setCell ⟨w3.heap.size, 2, none⟩ (.int .u32 0)) (some ⟨w3.heap.size, 0, none⟩) w3.heap.size ((own3 base).take 3 ++ List.replicate (N - 3) 0) := by
        rw [show (own3 base).take 3 ++ List.replicate (N - 3) 0 = _ from hs.symm]
        exact hset
      have hi : (2 : Int) < (N : Int) := by omega
      have HNN := Lib.hid hNn
      clear hNn hs hts
      have HSET := Lib.hid hset
      clear hset
      go_wp2_with (go_at_call 142; refine (begin_tail _ base _ hb).mono ?_; rintro e w9 ⟨rfl, rfl⟩)
      exact ⟨⟨3, by decide, rfl, HSET.out, hTs, hBs⟩, by simp [intOf]⟩
    · have hname : wr.cell? ⟨b3, 3, none⟩ = some (.string s_phase) := by rw [hBr.cell]; rfl
      have hbl := hBr.lt
      obtain ⟨_, d1, d2, c3, _, _⟩ := hRr.at_cell 3 0 (by decide) (by simp [own3]; omega) (part_at _ _ 3 rfl)
      have c1 : wr.cell? ⟨w3.heap.size, 3, none⟩ = some (.int .u32 0) := d1
      have c2 : wr.frozen? ⟨w3.heap.size, 3, none⟩ = false := d2
      clear d1 d2
      have hset := hRr.set 3 (by simp [own3]; omega) base hb.1 hb.2
      have hts := (Touch.refl [w3.heap.size] wr).set (p := ⟨w3.heap.size, 3, none⟩) (by simp) (.int .u32 base)
      have hTs : Touch [] w (wr.setCell ⟨w3.heap.size, 3, none⟩ (.int .u32 base)) := hTr.newer hts (by have := HB.out.1; simp; exact this)
      have hBs := hts.blk hBr (by have := HB.out.2; simpa using this)
      have hs := set_snoc (l := (own3 base).take 3) (m := N - 3) (v := base) (by omega)
      rw [Nat.sub_sub] at hs
      have hset : Row (wr.setCell ⟨w3.heap.size, 3, none⟩ (.int .u32 base)) (some ⟨w3.heap.size, 0, none⟩) w3.heap.size ((own3 base).take 4 ++ List.replicate (N - 4) 0) := by
        rw [show (own3 base).take 4 ++ List.replicate (N - 4) 0 = _ from hs.symm]
        exact hset
      have hi : (3 : Int) < (N : Int) := by omega
      have HNN := Lib.hid hNn
      clear hNn hs hts
      have HSET := Lib.hid hset
      clear hset
      go_wp2_with (go_at_call 142; refine (begin_phase _ base _ hb).mono ?_; rintro e w9 ⟨rfl, rfl⟩)
      exact ⟨⟨4, by decide, rfl, HSET.out, hTs, hBs⟩, by simp [intOf]⟩
    · have hlen : ((own3 base).take 4 ++ List.replicate (N - 4) 0).length = N := by simp [own3]; omega
      have HL := Lib.hid hlen
      have HNN := Lib.hid hNn
      clear hlen hNn
      go_wp2
      go_ret2
      exact newWords_of (by rw [HN.out]; rfl) HL.out (by have := HNN.out; omega) (by have := HNN.out; omega) hRr HB.out.1 hTr

/-- The own cells of kind 4 at first. -/
def own4 (base : Int) : List Int := [0, 0]

theorem own4_range (base : Int) (hb : 0 ≤ base ∧ base < 4294967296) : ∀ x, x ∈ own4 base → 0 ≤ x ∧ x < 4294967296 := by
  intro x hx
  simp [own4] at hx
  omega

set_option maxHeartbeats 1600000 in
theorem first4 (n base : Int) (w : World) (h : 1 ≤ n ∧ n ≤ 64) (hb : 0 ≤ base ∧ base < 4294967296) :
    Calls Try.prog 74 #[.int .i64 4, .int .i64 n, .int .u32 base] w (NewWords w (own4 base ++ List.replicate ((8 + 4 * n).toNat - 2) 0)) := by
  obtain ⟨i0, hi0, hz0, hz1, hz2⟩ := info_parts u32_info
  have hnw := fun w => placeNew_ok n w h
  have hsz := fun w => mapSize_ok n w h
  obtain ⟨h1, h2⟩ := h
  go_enter Try.func74, Try.ntmps74
  go_wp2_with (go_at_call 139; refine (names_any _).mono ?_; rintro e w1 ⟨m, rfl, ⟨b1, b2, b3, b4, b5, b6, hm, B1, B2, B3, B4, B5, B6⟩, ht1⟩; have hlk := run_lookup_int (P := Try.prog) Try.underlying147 Try.underlying3 hm 4 _ rfl)
  refine (hnw _).mono ?_
  rintro e w2 ⟨rfl, ht2⟩
  have hB2 := (ht2.blk B4 (by simp)).alloc (.cells #[.int .i64 n] 38)
  have hT2 : Touch [] w (w2.alloc (.cells #[.int .i64 n] 38)) := (ht1.trans ht2).alloc _
  clear hlk hm B1 B2 B3 B4 B5 B6 ht1 ht2
  go_wp2_with (first
    | (go_at_call 141; refine (hsz _).mono ?_; rintro e w3 ⟨rfl, ht3⟩)
    | (at_make; refine wpList_make_full _ rfl _ _ 22 rfl w3.heap.size 23 i0 _ 1 Try.underlying22 hi0 hz0 hz1 _ _ _ _ (8 + 4 * n).toNat rfl rfl (by omega) (by omega) (by rw [hz2]; omega) (by unfold maxLen; omega) (Nat.le_refl _) ?_; intro w4 hown hg))
  have z3 := ht3.size
  have z4 := hg.size
  simp only [World.size_alloc] at z3
  obtain ⟨N, hN⟩ : ∃ N, (8 + 4 * n).toNat = N := ⟨_, rfl⟩
  have hNn : (N : Int) = 8 + 4 * n := by omega
  rw [hN] at hown
  have hown' : w4.ownsRow w3.heap.size 23 1 (.slice (some ⟨w3.heap.size, 0, none⟩) (List.replicate N (0 : Int)).length N) (List.replicate N (0 : Int)).length (u32s (List.replicate N 0)) := by
    have e : (madeCells (Value.int .u32 0).cells (N * 1)).toList = u32s (List.replicate N 0) := by
      rw [Nat.mul_one]; exact (toList_madeCells_one _ N).trans (by simp [u32s])
    rw [e] at hown
    simpa using hown
  obtain ⟨g, hR, _⟩ := Row.of_owns hown' (words_part (l := []) (by simp) (by simp; omega))
  obtain rfl : g = w3.heap.size := by have := hR.at_ (by simp; omega); simp at this; exact this.symm
  have hT4 : Touch [] w w4 := (hT2.trans ht3).grown hg (by simp)
  have hB4 := (Touch.grown (Touch.refl [] w3) hg (by simp)).blk (ht3.blk hB2 (by simp)) (by simp)
  have hbl := hB4.lt
  have HB := Lib.hid (show w.heap.size ≤ w3.heap.size ∧ b4 ≠ w3.heap.size from ⟨by have := (hT2.trans ht3).size; omega, by have := (ht3.blk hB2 (by simp)).lt; omega⟩)
  have HN := Lib.hid hN
  clear hown hown' hg ht3 hT2 hB2 z3 z4 hN hbl hnw hsz
  rw [HN.out]
  go_loopw [33] (fun i wr => ∃ k : Nat, k ≤ 2 ∧ i = .int .i64 k ∧ Row wr (some ⟨w3.heap.size, 0, none⟩) w3.heap.size ((own4 base).take k ++ List.replicate (N - k) 0) ∧ Touch [] w wr ∧ Blk wr b4 names4) (fun i _ => 2 - (intOf i).toNat)
  case atStart => exact ⟨0, by decide, rfl, hR, hT4, hB4⟩
  case round =>
    obtain ⟨k, hk, rfl, hRr, hTr, hBr⟩ := hrel
    clear hR hT4 hB4
    have hcases : k = 0 ∨ k = 1 ∨ k = 2 := by omega
    clear hk
    rcases hcases with rfl | rfl | rfl
    · have hname : wr.cell? ⟨b4, 0, none⟩ = some (.string s_tail) := by rw [hBr.cell]; rfl
      have hbl := hBr.lt
      obtain ⟨_, d1, d2, c3, _, _⟩ := hRr.at_cell 0 0 (by decide) (by simp [own4]; omega) (part_at _ _ 0 rfl)
      have c1 : wr.cell? ⟨w3.heap.size, 0, none⟩ = some (.int .u32 0) := d1
      have c2 : wr.frozen? ⟨w3.heap.size, 0, none⟩ = false := d2
      clear d1 d2
      have hset := hRr.set 0 (by simp [own4]; omega) 0 (by decide) (by decide)
      have hts := (Touch.refl [w3.heap.size] wr).set (p := ⟨w3.heap.size, 0, none⟩) (by simp) (.int .u32 0)
      have hTs : Touch [] w (wr.setCell ⟨w3.heap.size, 0, none⟩ (.int .u32 0)) := hTr.newer hts (by have := HB.out.1; simp; exact this)
      have hBs := hts.blk hBr (by have := HB.out.2; simpa using this)
      have hs := set_snoc (l := (own4 base).take 0) (m := N - 0) (v := 0) (by omega)
      rw [Nat.sub_sub] at hs
      have hset : Row (wr.setCell ⟨w3.heap.size, 0, none⟩ (.int .u32 0)) (some ⟨w3.heap.size, 0, none⟩) w3.heap.size ((own4 base).take 1 ++ List.replicate (N - 1) 0) := by
        rw [show (own4 base).take 1 ++ List.replicate (N - 1) 0 = _ from hs.symm]
        exact hset
      have hi : (0 : Int) < (N : Int) := by omega
      have HNN := Lib.hid hNn
      clear hNn hs hts
      have HSET := Lib.hid hset
      clear hset
      go_wp2_with (go_at_call 142; refine (begin_tail _ base _ hb).mono ?_; rintro e w9 ⟨rfl, rfl⟩)
      exact ⟨⟨1, by decide, rfl, HSET.out, hTs, hBs⟩, by simp [intOf]⟩
    · have hname : wr.cell? ⟨b4, 1, none⟩ = some (.string s_count) := by rw [hBr.cell]; rfl
      have hbl := hBr.lt
      obtain ⟨_, d1, d2, c3, _, _⟩ := hRr.at_cell 1 0 (by decide) (by simp [own4]; omega) (part_at _ _ 1 rfl)
      have c1 : wr.cell? ⟨w3.heap.size, 1, none⟩ = some (.int .u32 0) := d1
      have c2 : wr.frozen? ⟨w3.heap.size, 1, none⟩ = false := d2
      clear d1 d2
      have hset := hRr.set 1 (by simp [own4]; omega) 0 (by decide) (by decide)
      have hts := (Touch.refl [w3.heap.size] wr).set (p := ⟨w3.heap.size, 1, none⟩) (by simp) (.int .u32 0)
      have hTs : Touch [] w (wr.setCell ⟨w3.heap.size, 1, none⟩ (.int .u32 0)) := hTr.newer hts (by have := HB.out.1; simp; exact this)
      have hBs := hts.blk hBr (by have := HB.out.2; simpa using this)
      have hs := set_snoc (l := (own4 base).take 1) (m := N - 1) (v := 0) (by omega)
      rw [Nat.sub_sub] at hs
      have hset : Row (wr.setCell ⟨w3.heap.size, 1, none⟩ (.int .u32 0)) (some ⟨w3.heap.size, 0, none⟩) w3.heap.size ((own4 base).take 2 ++ List.replicate (N - 2) 0) := by
        rw [show (own4 base).take 2 ++ List.replicate (N - 2) 0 = _ from hs.symm]
        exact hset
      have hi : (1 : Int) < (N : Int) := by omega
      have HNN := Lib.hid hNn
      clear hNn hs hts
      have HSET := Lib.hid hset
      clear hset
      go_wp2_with (go_at_call 142; refine (begin_count _ base _ hb).mono ?_; rintro e w9 ⟨rfl, rfl⟩)
      exact ⟨⟨2, by decide, rfl, HSET.out, hTs, hBs⟩, by simp [intOf]⟩
    · have hlen : ((own4 base).take 2 ++ List.replicate (N - 2) 0).length = N := by simp [own4]; omega
      have HL := Lib.hid hlen
      have HNN := Lib.hid hNn
      clear hlen hNn
      go_wp2
      go_ret2
      exact newWords_of (by rw [HN.out]; rfl) HL.out (by have := HNN.out; omega) (by have := HNN.out; omega) hRr HB.out.1 hTr

/-- The own cells of kind 5 at first. -/
def own5 (base : Int) : List Int := [0]

theorem own5_range (base : Int) (hb : 0 ≤ base ∧ base < 4294967296) : ∀ x, x ∈ own5 base → 0 ≤ x ∧ x < 4294967296 := by
  intro x hx
  simp [own5] at hx
  omega

set_option maxHeartbeats 1600000 in
theorem first5 (n base : Int) (w : World) (h : 1 ≤ n ∧ n ≤ 64) (hb : 0 ≤ base ∧ base < 4294967296) :
    Calls Try.prog 74 #[.int .i64 5, .int .i64 n, .int .u32 base] w (NewWords w (own5 base ++ List.replicate ((8 + 4 * n).toNat - 1) 0)) := by
  obtain ⟨i0, hi0, hz0, hz1, hz2⟩ := info_parts u32_info
  have hnw := fun w => placeNew_ok n w h
  have hsz := fun w => mapSize_ok n w h
  obtain ⟨h1, h2⟩ := h
  go_enter Try.func74, Try.ntmps74
  go_wp2_with (go_at_call 139; refine (names_any _).mono ?_; rintro e w1 ⟨m, rfl, ⟨b1, b2, b3, b4, b5, b6, hm, B1, B2, B3, B4, B5, B6⟩, ht1⟩; have hlk := run_lookup_int (P := Try.prog) Try.underlying147 Try.underlying3 hm 5 _ rfl)
  refine (hnw _).mono ?_
  rintro e w2 ⟨rfl, ht2⟩
  have hB2 := (ht2.blk B5 (by simp)).alloc (.cells #[.int .i64 n] 38)
  have hT2 : Touch [] w (w2.alloc (.cells #[.int .i64 n] 38)) := (ht1.trans ht2).alloc _
  clear hlk hm B1 B2 B3 B4 B5 B6 ht1 ht2
  go_wp2_with (first
    | (go_at_call 141; refine (hsz _).mono ?_; rintro e w3 ⟨rfl, ht3⟩)
    | (at_make; refine wpList_make_full _ rfl _ _ 22 rfl w3.heap.size 23 i0 _ 1 Try.underlying22 hi0 hz0 hz1 _ _ _ _ (8 + 4 * n).toNat rfl rfl (by omega) (by omega) (by rw [hz2]; omega) (by unfold maxLen; omega) (Nat.le_refl _) ?_; intro w4 hown hg))
  have z3 := ht3.size
  have z4 := hg.size
  simp only [World.size_alloc] at z3
  obtain ⟨N, hN⟩ : ∃ N, (8 + 4 * n).toNat = N := ⟨_, rfl⟩
  have hNn : (N : Int) = 8 + 4 * n := by omega
  rw [hN] at hown
  have hown' : w4.ownsRow w3.heap.size 23 1 (.slice (some ⟨w3.heap.size, 0, none⟩) (List.replicate N (0 : Int)).length N) (List.replicate N (0 : Int)).length (u32s (List.replicate N 0)) := by
    have e : (madeCells (Value.int .u32 0).cells (N * 1)).toList = u32s (List.replicate N 0) := by
      rw [Nat.mul_one]; exact (toList_madeCells_one _ N).trans (by simp [u32s])
    rw [e] at hown
    simpa using hown
  obtain ⟨g, hR, _⟩ := Row.of_owns hown' (words_part (l := []) (by simp) (by simp; omega))
  obtain rfl : g = w3.heap.size := by have := hR.at_ (by simp; omega); simp at this; exact this.symm
  have hT4 : Touch [] w w4 := (hT2.trans ht3).grown hg (by simp)
  have hB4 := (Touch.grown (Touch.refl [] w3) hg (by simp)).blk (ht3.blk hB2 (by simp)) (by simp)
  have hbl := hB4.lt
  have HB := Lib.hid (show w.heap.size ≤ w3.heap.size ∧ b5 ≠ w3.heap.size from ⟨by have := (hT2.trans ht3).size; omega, by have := (ht3.blk hB2 (by simp)).lt; omega⟩)
  have HN := Lib.hid hN
  clear hown hown' hg ht3 hT2 hB2 z3 z4 hN hbl hnw hsz
  rw [HN.out]
  go_loopw [33] (fun i wr => ∃ k : Nat, k ≤ 1 ∧ i = .int .i64 k ∧ Row wr (some ⟨w3.heap.size, 0, none⟩) w3.heap.size ((own5 base).take k ++ List.replicate (N - k) 0) ∧ Touch [] w wr ∧ Blk wr b5 names5) (fun i _ => 1 - (intOf i).toNat)
  case atStart => exact ⟨0, by decide, rfl, hR, hT4, hB4⟩
  case round =>
    obtain ⟨k, hk, rfl, hRr, hTr, hBr⟩ := hrel
    clear hR hT4 hB4
    have hcases : k = 0 ∨ k = 1 := by omega
    clear hk
    rcases hcases with rfl | rfl
    · have hname : wr.cell? ⟨b5, 0, none⟩ = some (.string s_word) := by rw [hBr.cell]; rfl
      have hbl := hBr.lt
      obtain ⟨_, d1, d2, c3, _, _⟩ := hRr.at_cell 0 0 (by decide) (by simp [own5]; omega) (part_at _ _ 0 rfl)
      have c1 : wr.cell? ⟨w3.heap.size, 0, none⟩ = some (.int .u32 0) := d1
      have c2 : wr.frozen? ⟨w3.heap.size, 0, none⟩ = false := d2
      clear d1 d2
      have hset := hRr.set 0 (by simp [own5]; omega) 0 (by decide) (by decide)
      have hts := (Touch.refl [w3.heap.size] wr).set (p := ⟨w3.heap.size, 0, none⟩) (by simp) (.int .u32 0)
      have hTs : Touch [] w (wr.setCell ⟨w3.heap.size, 0, none⟩ (.int .u32 0)) := hTr.newer hts (by have := HB.out.1; simp; exact this)
      have hBs := hts.blk hBr (by have := HB.out.2; simpa using this)
      have hs := set_snoc (l := (own5 base).take 0) (m := N - 0) (v := 0) (by omega)
      rw [Nat.sub_sub] at hs
      have hset : Row (wr.setCell ⟨w3.heap.size, 0, none⟩ (.int .u32 0)) (some ⟨w3.heap.size, 0, none⟩) w3.heap.size ((own5 base).take 1 ++ List.replicate (N - 1) 0) := by
        rw [show (own5 base).take 1 ++ List.replicate (N - 1) 0 = _ from hs.symm]
        exact hset
      have hi : (0 : Int) < (N : Int) := by omega
      have HNN := Lib.hid hNn
      clear hNn hs hts
      have HSET := Lib.hid hset
      clear hset
      go_wp2_with (go_at_call 142; refine (begin_word5 base _ hb).mono ?_; rintro e w9 ⟨rfl, rfl⟩)
      exact ⟨⟨1, by decide, rfl, HSET.out, hTs, hBs⟩, by simp [intOf]⟩
    · have hlen : ((own5 base).take 1 ++ List.replicate (N - 1) 0).length = N := by simp [own5]; omega
      have HL := Lib.hid hlen
      have HNN := Lib.hid hNn
      clear hlen hNn
      go_wp2
      go_ret2
      exact newWords_of (by rw [HN.out]; rfl) HL.out (by have := HNN.out; omega) (by have := HNN.out; omega) hRr HB.out.1 hTr

/-- The own cells of kind 6 at first. -/
def own6 (base : Int) : List Int := [(base % 256 * 65792)]

theorem own6_range (base : Int) (hb : 0 ≤ base ∧ base < 4294967296) : ∀ x, x ∈ own6 base → 0 ≤ x ∧ x < 4294967296 := by
  intro x hx
  simp [own6] at hx
  omega

set_option maxHeartbeats 1600000 in
theorem first6 (n base : Int) (w : World) (h : 1 ≤ n ∧ n ≤ 64) (hb : 0 ≤ base ∧ base < 4294967296) :
    Calls Try.prog 74 #[.int .i64 6, .int .i64 n, .int .u32 base] w (NewWords w (own6 base ++ List.replicate ((8 + 4 * n).toNat - 1) 0)) := by
  obtain ⟨i0, hi0, hz0, hz1, hz2⟩ := info_parts u32_info
  have hnw := fun w => placeNew_ok n w h
  have hsz := fun w => mapSize_ok n w h
  obtain ⟨h1, h2⟩ := h
  go_enter Try.func74, Try.ntmps74
  go_wp2_with (go_at_call 139; refine (names_any _).mono ?_; rintro e w1 ⟨m, rfl, ⟨b1, b2, b3, b4, b5, b6, hm, B1, B2, B3, B4, B5, B6⟩, ht1⟩; have hlk := run_lookup_int (P := Try.prog) Try.underlying147 Try.underlying3 hm 6 _ rfl)
  refine (hnw _).mono ?_
  rintro e w2 ⟨rfl, ht2⟩
  have hB2 := (ht2.blk B6 (by simp)).alloc (.cells #[.int .i64 n] 38)
  have hT2 : Touch [] w (w2.alloc (.cells #[.int .i64 n] 38)) := (ht1.trans ht2).alloc _
  clear hlk hm B1 B2 B3 B4 B5 B6 ht1 ht2
  go_wp2_with (first
    | (go_at_call 141; refine (hsz _).mono ?_; rintro e w3 ⟨rfl, ht3⟩)
    | (at_make; refine wpList_make_full _ rfl _ _ 22 rfl w3.heap.size 23 i0 _ 1 Try.underlying22 hi0 hz0 hz1 _ _ _ _ (8 + 4 * n).toNat rfl rfl (by omega) (by omega) (by rw [hz2]; omega) (by unfold maxLen; omega) (Nat.le_refl _) ?_; intro w4 hown hg))
  have z3 := ht3.size
  have z4 := hg.size
  simp only [World.size_alloc] at z3
  obtain ⟨N, hN⟩ : ∃ N, (8 + 4 * n).toNat = N := ⟨_, rfl⟩
  have hNn : (N : Int) = 8 + 4 * n := by omega
  rw [hN] at hown
  have hown' : w4.ownsRow w3.heap.size 23 1 (.slice (some ⟨w3.heap.size, 0, none⟩) (List.replicate N (0 : Int)).length N) (List.replicate N (0 : Int)).length (u32s (List.replicate N 0)) := by
    have e : (madeCells (Value.int .u32 0).cells (N * 1)).toList = u32s (List.replicate N 0) := by
      rw [Nat.mul_one]; exact (toList_madeCells_one _ N).trans (by simp [u32s])
    rw [e] at hown
    simpa using hown
  obtain ⟨g, hR, _⟩ := Row.of_owns hown' (words_part (l := []) (by simp) (by simp; omega))
  obtain rfl : g = w3.heap.size := by have := hR.at_ (by simp; omega); simp at this; exact this.symm
  have hT4 : Touch [] w w4 := (hT2.trans ht3).grown hg (by simp)
  have hB4 := (Touch.grown (Touch.refl [] w3) hg (by simp)).blk (ht3.blk hB2 (by simp)) (by simp)
  have hbl := hB4.lt
  have HB := Lib.hid (show w.heap.size ≤ w3.heap.size ∧ b6 ≠ w3.heap.size from ⟨by have := (hT2.trans ht3).size; omega, by have := (ht3.blk hB2 (by simp)).lt; omega⟩)
  have HN := Lib.hid hN
  clear hown hown' hg ht3 hT2 hB2 z3 z4 hN hbl hnw hsz
  rw [HN.out]
  go_loopw [33] (fun i wr => ∃ k : Nat, k ≤ 1 ∧ i = .int .i64 k ∧ Row wr (some ⟨w3.heap.size, 0, none⟩) w3.heap.size ((own6 base).take k ++ List.replicate (N - k) 0) ∧ Touch [] w wr ∧ Blk wr b6 names6) (fun i _ => 1 - (intOf i).toNat)
  case atStart => exact ⟨0, by decide, rfl, hR, hT4, hB4⟩
  case round =>
    obtain ⟨k, hk, rfl, hRr, hTr, hBr⟩ := hrel
    clear hR hT4 hB4
    have hcases : k = 0 ∨ k = 1 := by omega
    clear hk
    rcases hcases with rfl | rfl
    · have hname : wr.cell? ⟨b6, 0, none⟩ = some (.string s_word) := by rw [hBr.cell]; rfl
      have hbl := hBr.lt
      obtain ⟨_, d1, d2, c3, _, _⟩ := hRr.at_cell 0 0 (by decide) (by simp [own6]; omega) (part_at _ _ 0 rfl)
      have c1 : wr.cell? ⟨w3.heap.size, 0, none⟩ = some (.int .u32 0) := d1
      have c2 : wr.frozen? ⟨w3.heap.size, 0, none⟩ = false := d2
      clear d1 d2
      have hset := hRr.set 0 (by simp [own6]; omega) (base % 256 * 65792) (by omega) (by omega)
      have hts := (Touch.refl [w3.heap.size] wr).set (p := ⟨w3.heap.size, 0, none⟩) (by simp) (.int .u32 (base % 256 * 65792))
      have hTs : Touch [] w (wr.setCell ⟨w3.heap.size, 0, none⟩ (.int .u32 (base % 256 * 65792))) := hTr.newer hts (by have := HB.out.1; simp; exact this)
      have hBs := hts.blk hBr (by have := HB.out.2; simpa using this)
      have hs := set_snoc (l := (own6 base).take 0) (m := N - 0) (v := (base % 256 * 65792)) (by omega)
      rw [Nat.sub_sub] at hs
      have hset : Row (wr.setCell ⟨w3.heap.size, 0, none⟩ (.int .u32 (base % 256 * 65792))) (some ⟨w3.heap.size, 0, none⟩) w3.heap.size ((own6 base).take 1 ++ List.replicate (N - 1) 0) := by
        rw [show (own6 base).take 1 ++ List.replicate (N - 1) 0 = _ from hs.symm]
        exact hset
      have hi : (0 : Int) < (N : Int) := by omega
      have HNN := Lib.hid hNn
      clear hNn hs hts
      have HSET := Lib.hid hset
      clear hset
      go_wp2_with (go_at_call 142; refine (begin_word6 base _ hb).mono ?_; rintro e w9 ⟨rfl, rfl⟩)
      exact ⟨⟨1, by decide, rfl, HSET.out, hTs, hBs⟩, by simp [intOf]⟩
    · have hlen : ((own6 base).take 1 ++ List.replicate (N - 1) 0).length = N := by simp [own6]; omega
      have HL := Lib.hid hlen
      have HNN := Lib.hid hNn
      clear hlen hNn
      go_wp2
      go_ret2
      exact newWords_of (by rw [HN.out]; rfl) HL.out (by have := HNN.out; omega) (by have := HNN.out; omega) hRr HB.out.1 hTr

end Go.Proofs.Ytlndihdlodempaa.Z
