/- The statements on permits: the document's example. -/
import Derived.Test.YtghiggaldkojpaaZRef06
import Derived.Test.YtghiggaldkojpaaZSame
import Derived.Test.YtghiggaldkojpaaZFirst2
import Derived.Outline
set_option linter.unusedVariables false
set_option linter.unusedSimpArgs false
namespace Go.Proofs.Ytghiggaldkojpaa.Z
open Go.RowKit

def z16 : List Int := own4 0 ++ List.replicate ((8 + 4 * (2 : Int)).toNat - 2) 0
def z16b : List Int := z16.set 15 1

theorem give16 : giveA z16 2 1 = (⟨2, 15, 1, 0, 0⟩, true, z16b) := by decide +kernel
theorem give16b : giveA z16b 2 1 = (⟨2, 15, 1, 0, 1⟩, true, z16b) := by decide +kernel
theorem take16b : takeA z16b 2 1 = (⟨4, 15, 0, 0, 1⟩, true, z16) := by decide +kernel
theorem take16 : takeA z16 2 1 = (⟨0, 0, 0, 0, 0⟩, false, z16) := by decide +kernel

theorem i64_two : I64 2 := by unfold I64; decide

theorem z16_length : z16.length = 16 := by decide +kernel

/-- What From makes of a row. -/
theorem from_row {w : World} {p : Option Addr} {g cap n : Nat} {L : List Int} (h : Row w p g L) (hn : L.length = n) :
    Calls Try.prog 17 #[.slice p n cap] w (NewMem w L) := from_ok w (h.rd' hn) h.words

set_option maxHeartbeats 1600000 in
theorem awake06 (w : World) : Calls Try.prog 28 #[] w fun e w' => e = .returned (.bool true) ∧ Touch [] w w' := by
  have hf := fun W => first4 2 0 W (by decide) (by decide)
  rw [show own4 0 ++ List.replicate ((8 + 4 * (2 : Int)).toNat - 2) 0 = z16 from rfl] at hf
  have HF := Lib.hid hf
  clear hf
  go_enter Try.func28, Try.ntmps28
  go_wp2_with (go_at_call 35; refine (HF.out _).mono ?_; rintro e w1 ⟨p, g, cap, rfl, hR, hg, hgl, ht1, hcap, hcm⟩)
  refine (from_row hR rfl).mono ?_
  rintro e w2 ⟨m, a, rfl, hM, k1, k2, ht2⟩
  have hT2 : Touch [] w w2 := ht1.trans ht2
  have hge : w.heap.size ≤ a := by have := ht1.size; omega
  have hsz := hT2.size
  have hml := hM.lt.1
  clear hR hg hgl ht1 ht2 hcap hcm
  go_wp2_with fail
  refine (give_any (hM.touch ((Touch.refl [] _).alloc _) (by simp) (by simp)) 2 1 i64_two).mono ?_
  rw [give16]
  simp only [Acc.cells]
  rintro e w3 ⟨rfl, hM3, ht3⟩
  have hT3 : Touch [] w w3 := (hT2.alloc _).newer ht3 (lv_ge hge)
  have B3 := ht3.own1 (fun k hk => by rw [(mem_lv hk).1]; exact hM.lt.2 (mem_lv hk).2)
  obtain ⟨z3, p3, q3⟩ := B3.own
  go_wp2_with fail
  refine (give_any (hM3.touch ((Touch.refl [] _).alloc _) (by simp) (by simp)) 2 1 i64_two).mono ?_
  rw [give16b]
  simp only [Acc.cells]
  rintro e w4 ⟨rfl, hM4, ht4⟩
  have hT4 : Touch [] w w4 := (hT3.alloc _).newer ht4 (lv_ge hge)
  have hal : a < w2.heap.size := hM.lt.2 (by rw [z16_length]; decide)
  have B4 := ht4.blk (B3.alloc _) (lv_not (by omega))
  obtain ⟨z4, p4, q4⟩ := B4.own
  clear p3 q3 z3
  go_wp2_with fail
  refine (take_any (hM4.touch ((Touch.refl [] _).alloc _) (by simp) (by simp)) 2 1 i64_two).mono ?_
  rw [take16b]
  simp only [Acc.cells]
  rintro e w5 ⟨rfl, hM5, ht5⟩
  have hT5 : Touch [] w w5 := (hT4.alloc _).newer ht5 (lv_ge hge)
  have B5 := ht5.blk (B4.alloc _) (lv_not (by omega))
  obtain ⟨z5, p5, q5⟩ := B5.own
  clear p4 q4 z4
  go_wp2_with fail
  refine (take_any (hM5.touch ((Touch.refl [] _).alloc _) (by simp) (by simp)) 2 1 i64_two).mono ?_
  rw [take16]
  simp only [Acc.cells]
  rintro e w6 ⟨rfl, hM6, ht6⟩
  have hT6 : Touch [] w w6 := (hT5.alloc _).newer ht6 (lv_ge hge)
  go_wp2_with fail
  go_ret
  exact ⟨by simp, hT6.alloc _⟩

end Go.Proofs.Ytghiggaldkojpaa.Z
