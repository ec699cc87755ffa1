/- The statements on memories: the document's example. -/
import Derived.Test.YtjlpaefpilhngaaZSame
import Derived.Test.YtjlpaefpilhngaaZCells2
import Derived.Outline
set_option linter.unusedVariables false
set_option linter.unusedSimpArgs false
namespace Go.Proofs.Ytjlpaefpilhngaa.Z
open Go.RowKit

theorem words_one : Words [4294967295] := ⟨by decide, by simp⟩

theorem rd_new1 (w : World) (x : Value) (T : TypeId) : Rd (w.alloc (.cells #[x] T)) 1 (some ⟨w.heap.size, 0, none⟩) 1 [x] :=
  ⟨by simp, fun _ => ⟨_, rfl, by simp, cell_one_new w x T⟩⟩

set_option maxHeartbeats 800000 in
theorem awake01 (w : World) : Calls Try.prog 24 #[] w fun e w' => e = .returned (.bool true) ∧ Touch [] w w' := by
  have hf := from_ok (L := [4294967295]) (c := 1) _ (rd_new1 w (.int .u32 4294967295) 22) words_one
  go_enter Try.func24, Try.ntmps24
  go_wp2_with (first
    | (go_at_call 23; refine hf.mono ?_; rintro e w1 ⟨m, a, rfl, hm, h1, h2, ht1⟩)
    | (go_at_call 34; refine (add_any hm 0 2 (by decide)).mono ?_; rw [show ldA [4294967295] 0 = 4294967295 from by decide, show addA [4294967295] 0 2 = [1] from by decide]; rintro e w2 ⟨rfl, hm2, ht2⟩)
    | (go_at_call 33; refine (load_any hm2 0).mono ?_; rw [show ldA [1] 0 = 1 from by decide]; rintro e w3 ⟨rfl, ht3⟩))
  go_ret
  refine ⟨rfl, Below.toTouch ?_⟩
  have hb1 : Below w.heap.size w w1 := Below.touch ((Below.refl _ _).alloc (Nat.le_refl _) _) (by simp) ht1 (by simp)
  have hs := ht1.size
  rw [World.size_alloc] at h2 hs
  have hb2 := Below.touch hb1 (by omega) ht2 (lv_ge (by omega))
  exact Below.touch hb2 (by have := ht2.size; omega) ht3 (by simp)

end Go.Proofs.Ytjlpaefpilhngaa.Z
