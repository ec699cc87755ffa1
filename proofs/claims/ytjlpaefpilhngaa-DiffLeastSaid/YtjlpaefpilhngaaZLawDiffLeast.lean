/- The statement DiffLeast: its walk. -/
import Derived.Test.YtjlpaefpilhngaaZLawDiffAhead
import Derived.Test.YtjlpaefpilhngaaZSame
import Derived.Outline
set_option linter.unusedVariables false
set_option linter.unusedSimpArgs false
namespace Go.Proofs.Ytjlpaefpilhngaa.Z
open Go.RowKit

/-- The place of the least of k values; -1: there is none. -/
def bestA (g : Nat → Int) : Nat → Int
  | 0 => -1
  | k + 1 => if bestA g k < 0 ∨ g k < g (bestA g k).toNat then (k : Int) else bestA g k

theorem bestA_range (g : Nat → Int) (k : Nat) : (k = 0 ∧ bestA g k = -1) ∨ (0 < k ∧ 0 ≤ bestA g k ∧ bestA g k < k) := by
  induction k with
  | zero => exact .inl ⟨rfl, rfl⟩
  | succ k ih =>
    right
    unfold bestA
    split <;> omega

/-- How far a word of a list is ahead of another one. -/
def farA (L : List Int) (f : Int) (i : Nat) : Int := (L.getD i 0 - f) % 4294967296

set_option maxHeartbeats 400000 in
theorem least1_any {w : World} {A : Option Addr} {n c p q : Nat} {L : List Int} (hr : Rd w 1 A n (u32s L)) (f : Int) (i : Nat) (hi : i < n) (hc : n ≤ c) (hm : c ≤ 9223372036854775807)
    (hp : w.cell? ⟨p, 0, none⟩ = some (.slice A n c)) (hq : w.cell? ⟨q, 0, none⟩ = some (.int .u32 f)) :
    Calls Try.prog 43 #[.int .i64 (i : Int), .pointer (some ⟨p, 0, none⟩), .pointer (some ⟨q, 0, none⟩)] w fun e w' => e = .returned (.int .u32 (farA L f i)) ∧ Touch [] w w' := by
  obtain ⟨ad, rfl, hb, hca⟩ := u32s_at hr hi
  have i1 : (i : Int) < (n : Int) := by omega
  unfold farA
  generalize L.getD i 0 = x at hca ⊢
  go_enter Try.func43, Try.ntmps43
  go_wp2_with fail
  go_quiet (fail)
  go_wp2
  go_ret
  exact ⟨rfl, (Touch.refl _ _).drewN _⟩

set_option maxHeartbeats 1600000 in
theorem first_any {w : World} {p q n : Nat} (g : Nat → Int) (hn : n ≤ 1000)
    (hg : ∀ (W : World) (i : Nat), Touch [] w W → i < n → Calls Try.prog 43 #[.int .i64 (i : Int), .pointer (some ⟨p, 0, none⟩), .pointer (some ⟨q, 0, none⟩)] W fun e w' => e = .returned (.int .u32 (g i)) ∧ Touch [] W w') :
    Calls Try.prog 42 #[.int .i64 (n : Int), .func (.func 43) #[] #[.pointer (some ⟨p, 0, none⟩), .pointer (some ⟨q, 0, none⟩)]] w fun e w' => e = .returned (.int .i64 (bestA g n)) ∧ Touch [] w w' := by
  have HG := Lib.hid hg
  clear hg
  go_enter Try.func42, Try.ntmps42
  go_wp2_with fail
  go_loopw [5, 8] (fun b i wr => ∃ k : Nat, k ≤ n ∧ i = .int .i64 k ∧ b = .int .i64 (bestA g k) ∧ Touch [] w wr) (fun _ i _ => n - (intOf i).toNat)
  case atStart => exact ⟨0, Nat.zero_le _, rfl, rfl, Touch.refl _ _⟩
  case round =>
    obtain ⟨k, hk, rfl, rfl, hT⟩ := hrel
    have hb := bestA_range g k
    obtain ⟨b, hbe⟩ : ∃ b, bestA g k = b := ⟨_, rfl⟩
    have hs : bestA g (k + 1) = if b < 0 ∨ g k < g b.toNat then (k : Int) else b := by rw [← hbe]; rfl
    rw [hbe] at hb ⊢
    have HS := Lib.hid hs
    clear hs
    by_cases hlt : k < n
    · have hi : (k : Int) < (n : Int) := by omega
      rcases hb with ⟨hk0, hb1⟩ | ⟨hk0, hb0, hbk⟩
      · have hneg : b < 0 := by omega
        have HN := Lib.hid (show bestA g (k + 1) = (k : Int) from by rw [HS.out, if_pos (.inl hneg)])
        clear hk0 hb1 hbe
        go_wp2_with fail
        exact ⟨⟨k + 1, by omega, by go_num, by rw [HN.out], hT⟩, by simp [intOf]; omega⟩
      · obtain ⟨bn, rfl⟩ := Int.eq_ofNat_of_zero_le hb0
        have hbn : bn < n := by omega
        have hneg : ¬ ((bn : Int) < 0) := by omega
        obtain ⟨x, hx⟩ : ∃ x, g k = x := ⟨_, rfl⟩
        obtain ⟨y, hy⟩ : ∃ y, g bn = y := ⟨_, rfl⟩
        have h1 := fun W hW => HG.out W k hW hlt
        have h2 := fun W hW => HG.out W bn hW hbn
        rw [hx] at h1
        rw [hy] at h2
        have hs2 := HS.out
        rw [hx, Int.toNat_natCast, hy] at hs2
        have HS2 := Lib.hid hs2
        clear hs2 hx hy hbe HS
        go_wp2_with (first
          | (go_at_call 43; ((with_reducible refine (h1 _ hT).mono ?_); rintro e w1 ⟨rfl, ht1⟩))
          | (go_at_call 43; ((with_reducible refine (h2 _ (hT.trans ht1)).mono ?_); rintro e w2 ⟨rfl, ht2⟩)))
        · have hxy : x < y := by assumption
          exact ⟨⟨k + 1, by omega, by go_num, by rw [HS2.out, if_pos (.inr hxy)], (hT.trans ht1).trans ht2⟩, by simp [intOf]; omega⟩
        · have hxy : y ≤ x := by assumption
          exact ⟨⟨k + 1, by omega, by go_num, by rw [HS2.out, if_neg (by omega)], (hT.trans ht1).trans ht2⟩, by simp [intOf]; omega⟩
    · have hkn : k = n := by omega
      have HB := Lib.hid (show bestA g n = b from by rw [← hkn]; exact hbe)
      have hi : (n : Int) ≤ (k : Int) := by omega
      clear hkn hbe hb HS
      go_wp2_with fail
      go_ret
      exact ⟨by rw [HB.out]; rfl, hT⟩

set_option maxHeartbeats 400000 in
theorem least_any {w : World} {A : Option Addr} {n c : Nat} {L : List Int} (hr : Rd w 1 A n (u32s L)) (f : Int) (hn : n ≤ 1000) (hc : n ≤ c) (hm : c ≤ 9223372036854775807) :
    Calls Try.prog 21 #[.int .u32 f, .slice A n c] w fun e w' => e = .returned (.int .i64 (bestA (farA L f) n)) ∧ Touch [] w w' := by
  have hg : ∀ (W : World) (i : Nat), Touch [] ((w.alloc (.cells #[.int .u32 f] 22)).alloc (.cells #[.slice A n c] 31)) W → i < n →
      Calls Try.prog 43 #[.int .i64 (i : Int), .pointer (some ⟨w.heap.size + 1, 0, none⟩), .pointer (some ⟨w.heap.size, 0, none⟩)] W fun e w' => e = .returned (.int .u32 (farA L f i)) ∧ Touch [] W w' := by
    intro W i hW hi
    have hT : Touch [] w W := (((Touch.refl [] w).alloc _).alloc _).trans hW
    have b1 := (Blk.new w #[.int .u32 f] 22).alloc (.cells #[.slice A n c] 31)
    have b2 := Blk.new (w.alloc (.cells #[.int .u32 f] 22)) #[.slice A n c] 31
    rw [World.size_alloc] at b2
    exact least1_any (hr.touch hT (by simp)) f i hi hc hm ((hW.blk b2 (by simp)).cell 0) ((hW.blk b1 (by simp)).cell 0)
  have hf := first_any (farA L f) hn hg
  clear hg
  go_enter Try.func21, Try.ntmps21
  go_wp2_with (go_at_call 42; refine hf.mono ?_; rintro e w1 ⟨rfl, ht1⟩)
  go_ret
  exact ⟨rfl, (((Touch.refl [] w).alloc _).alloc _).trans ht1⟩

theorem far_range (L : List Int) (f : Int) (i : Nat) : 0 ≤ farA L f i ∧ farA L f i < 4294967296 := by unfold farA; omega

set_option maxHeartbeats 1600000 in
theorem refLeast_any {w : World} {A : Option Addr} {n c : Nat} {L : List Int} (hr : Rd w 1 A n (u32s L)) (hw : Words L) (f : Int) (hf : 0 ≤ f ∧ f < 4294967296) (hn : n ≤ 1000) :
    Calls Try.prog 22 #[.int .u32 f, .slice A n c] w fun e w' => e = .returned (.int .i64 (bestA (farA L f) n)) ∧ Touch [] w w' := by
  have HR := Lib.hid (far_range L f)
  obtain ⟨f0, f1⟩ := hf
  go_enter Try.func22, Try.ntmps22
  go_wp2_with fail
  go_loopw [5, 6, 7] (fun b q i wr => ∃ k : Nat, k ≤ n ∧ i = .int .i64 k ∧ b = .int .i64 (bestA (farA L f) k) ∧ q = .int .i64 (if k = 0 then 0 else farA L f (bestA (farA L f) k).toNat) ∧ Touch [] w wr) (fun _ _ i _ => n - (intOf i).toNat)
  case atStart => exact ⟨0, Nat.zero_le _, rfl, rfl, rfl, Touch.refl _ _⟩
  case round =>
    obtain ⟨k, hk, rfl, rfl, rfl, hT⟩ := hrel
    have hb := bestA_range (farA L f) k
    obtain ⟨b, hbe⟩ : ∃ b, bestA (farA L f) k = b := ⟨_, rfl⟩
    have hs : bestA (farA L f) (k + 1) = if b < 0 ∨ farA L f k < farA L f b.toNat then (k : Int) else b := by rw [← hbe]; rfl
    rw [hbe] at hb ⊢
    have HS := Lib.hid hs
    clear hs
    by_cases hlt : k < n
    · have hi : (k : Int) < (n : Int) := by omega
      obtain ⟨ad, rfl, _, hca⟩ := u32s_at (hr.touch hT (by simp)) hlt
      have hx0 := hw.getD k
      obtain ⟨v, hv⟩ : ∃ v, L.getD k 0 = v := ⟨_, rfl⟩
      have hfk : farA L f k = (v - f) % 4294967296 := by unfold farA; rw [hv]
      rw [hv] at hca hx0
      obtain ⟨v0, v1⟩ := hx0
      have HF := Lib.hid hfk
      clear hfk hv
      go_wp2_with fail
      · have hc : b < 0 ∨ (v - f) % 4294967296 < farA L f b.toNat := by assumption
        have e1 : bestA (farA L f) (k + 1) = (k : Int) := by rw [HS.out, HF.out, if_pos hc]
        exact ⟨⟨k + 1, by omega, by go_num, by rw [e1], by rw [e1, Int.toNat_natCast, HF.out, if_neg (by omega)], hT⟩, by simp [intOf]; omega⟩
      · have hc : 0 ≤ b ∧ farA L f b.toNat ≤ (v - f) % 4294967296 := by assumption
        have e1 : bestA (farA L f) (k + 1) = b := by rw [HS.out, HF.out, if_neg (by omega)]
        have hk0 : k ≠ 0 := by intro h0; omega
        exact ⟨⟨k + 1, by omega, by go_num, by rw [e1], by rw [e1, if_neg hk0, if_neg (by omega)], hT⟩, by simp [intOf]; omega⟩
      · have hc : ¬ 0 ≤ b := by assumption
        have e1 : bestA (farA L f) (k + 1) = (k : Int) := by rw [HS.out, HF.out, if_pos (.inl (by omega))]
        exact ⟨⟨k + 1, by omega, by go_num, by rw [e1], by rw [e1, Int.toNat_natCast, HF.out, if_neg (by omega)], hT⟩, by simp [intOf]; omega⟩
    · have hkn : k = n := by omega
      have HB := Lib.hid (show bestA (farA L f) n = b from by rw [← hkn]; exact hbe)
      have hi : (n : Int) ≤ (k : Int) := by omega
      clear hkn hbe hb HS
      go_wp2_with fail
      all_goals
        go_ret
        exact ⟨by rw [HB.out]; rfl, hT⟩

set_option maxHeartbeats 400000 in
theorem diffLeast_small {w : World} {A : Option Addr} {n c : Nat} {L : List Int} (hr : Rd w 1 A n (u32s L)) (hL : ∀ x, x ∈ L → 0 ≤ x ∧ x < 4294967296) (f : Int) (hf : 0 ≤ f ∧ f < 4294967296) (hn : n ≤ 100) (hc : n ≤ c) (hm : c ≤ 9223372036854775807) :
    Calls Try.prog 7 #[.int .u32 f, .slice A n c] w fun e w' => e = .returned (.bool true) ∧ Touch [] w w' := by
  have hl := len_of_rd hr
  have hw : Words L := ⟨by omega, hL⟩
  have i1 : ¬ ((100 : Int) < (n : Int)) := by omega
  have h1 := least_any hr f (by omega) hc hm
  have h2 := fun W (hW : Touch [] w W) => refLeast_any (hr.touch hW (by simp)) (c := c) hw f hf (by omega)
  generalize bestA (farA L f) n = b at h1 h2
  have H2 := Lib.hid h2
  clear h2 hl hf
  go_enter Try.func7, Try.ntmps7
  go_wp2_with (first
    | (go_at_call 21; refine h1.mono ?_; rintro e w1 ⟨rfl, ht1⟩)
    | (go_at_call 22; refine (H2.out _ ht1).mono ?_; rintro e w2 ⟨rfl, ht2⟩)
    | (go_at_call 14; refine (awake02 _).mono ?_; rintro e w3 ⟨rfl, ht3⟩))
  go_ret
  exact ⟨by simp, (ht1.trans ht2).trans ht3⟩

set_option maxHeartbeats 400000 in
theorem diffLeast_big {w : World} {A : Option Addr} {n c : Nat} (f : Int) (hn : 100 < n) (hn2 : n ≤ 9223372036854775807) :
    Calls Try.prog 7 #[.int .u32 f, .slice A n c] w fun e w' => e = .returned (.bool true) ∧ Touch [] w w' := by
  have i1 : ((100 : Int) < (n : Int)) := by omega
  go_enter Try.func7, Try.ntmps7
  go_wp2_with (go_at_call 14; refine (awake02 _).mono ?_; rintro e w3 ⟨rfl, ht3⟩)
  go_ret
  exact ⟨by simp, ht3⟩

/-- WHATEVER THE INPUT. -/
theorem diffLeast_any {A : Option Addr} {n c : Nat} {L : List Int} (w : World) (f : Int) (hf : 0 ≤ f ∧ f < 4294967296) (hr : Rd w 1 A n (L.flatMap fun x => [Value.int .u32 x])) (hL : ∀ x, x ∈ L → 0 ≤ x ∧ x < 4294967296) (hc : n ≤ c) (hm : c ≤ 9223372036854775807) :
    Calls Try.prog 7 #[.int .u32 f, .slice A n c] w fun e w' => e = .returned (.bool true) ∧ Touch [] w w' := by
  have hr' : Rd w 1 A n (u32s L) := by
    rw [← u32s_flatMap]
    exact hr
  by_cases hn : n ≤ 100
  · exact diffLeast_small hr' hL f hf hn hc hm
  · exact diffLeast_big f (by omega) (by omega)

end Go.Proofs.Ytjlpaefpilhngaa.Z
