/- The statements on waiting: the document's example. -/
import Derived.Test.YtghiggaldkojpaaZRef07b
import Derived.Test.YtghiggaldkojpaaZSame
import Derived.Outline
set_option linter.unusedVariables false
set_option linter.unusedSimpArgs false
namespace Go.Proofs.Ytghiggaldkojpaa.Z
open Go.RowKit

theorem words_5000 : Words [5, 0, 0, 0] := ⟨by decide, by simp⟩

theorem rd_new4 (w : World) (T : TypeId) : Rd (w.alloc (.cells #[.int .u32 5, .int .u32 0, .int .u32 0, .int .u32 0] T)) 1 (some ⟨w.heap.size, 0, none⟩) 4 (u32s [5, 0, 0, 0]) := by
  have hb := Blk.new w #[.int .u32 5, .int .u32 0, .int .u32 0, .int .u32 0] T
  refine ⟨rfl, fun _ => ⟨_, rfl, hb.lt, fun j u hu => ?_⟩⟩
  rw [Addr.add_lit]
  simp only [Nat.zero_add]
  rw [hb.cell, ← hu]
  simp [u32s]

theorem no07 (v : Int) (w : World) : Calls Try.prog 72 #[.int .u32 v] w fun e w' => e = .returned (.bool (v == 4)) ∧ Touch [] w w' := by
  go_enter Try.func72, Try.ntmps72
  go_wp2
  go_ret
  exact ⟨rfl, Touch.refl [] w⟩

set_option maxHeartbeats 1600000 in
theorem awake07 (w : World) : Calls Try.prog 16 #[] w fun e w' => e = .returned (.bool true) ∧ Touch [] w w' := by
  have hf := from_ok (L := [5, 0, 0, 0]) (c := 4) _ (rd_new4 w 25) words_5000
  have hw := fun W m a (hM : Mem W m a [5, 0, 0, 0]) => wait_any hM 1 1 0 0 0 (by unfold I64; decide) 72 #[] #[] (fun v => v == 4) (enters_of Try.func72 (by kernel_rfl) rfl) (fun W v _ _ _ => no07 v W)
  rw [show (waitA [5, 0, 0, 0] 1 1 0 0 0 fun v => v == 4) = ⟨0, ⟨1, 0, 0, 0, 5⟩, false, false, [5, 0, 0, 0]⟩ from by rw [waitA0 (by decide)]; rfl] at hw
  simp only [WaitR.value, Acc.cells] at hw
  have HF := Lib.hid hf
  have HW := Lib.hid hw
  clear hf hw
  go_enter Try.func16, Try.ntmps16
  go_wp2_with fail
  refine HF.out.mono ?_
  rintro e w1 ⟨m, a, rfl, hm, h1, h2, t1⟩
  go_wp2_with fail
  refine (HW.out _ _ _ hm).mono ?_
  rintro e w2 ⟨rfl, hm2, t2⟩
  go_wp2_with fail
  go_ret
  refine ⟨rfl, ?_⟩
  have T1 : Touch [] w w1 := ((Touch.refl [] w).alloc _).trans t1
  have hs := t1.size
  rw [World.size_alloc] at h2 hs
  have T2 := T1.newer t2 (lv_ge (by omega))
  repeat (first | with_reducible exact T2 | with_reducible apply Touch.drew | with_reducible apply Touch.alloc)

end Go.Proofs.Ytghiggaldkojpaa.Z
