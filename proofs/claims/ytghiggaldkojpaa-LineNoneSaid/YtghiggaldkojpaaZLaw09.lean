/- The document's example of layer 9. -/
import Derived.Test.YtghiggaldkojpaaZRun6
set_option linter.unusedVariables false
set_option linter.unusedSimpArgs false
namespace Go.Proofs.Ytghiggaldkojpaa.Z
open Go.RowKit

theorem run_note_nil (w : World) (what arg : Int) :
    Calls Try.prog 46 #[.pointer none, .int .i64 what, .int .i64 arg] w fun e w' => e = .returned (.tuple #[]) ∧ Touch [] w w' := by
  go_enter Try.func46, Try.ntmps46
  go_wp2
  go_end0
  exact ⟨rfl, Touch.refl _ _⟩

/-- A new run. -/
theorem RunHas.new {S0 : List Nat} {w0 w : World} {m a : Nat} {rs : List Res} (s : Rn) (H : Has S0 w0 w (.mem m a s.L :: rs)) (hn : s.notes = []) (T : TypeId) :
    RunHas S0 w0 m a w.heap.size rs s (w.alloc (.cells (rcells m s (.slice none 0 0)) T)) := by
  refine ⟨.slice none 0 0, ?_⟩
  rw [hn]
  exact (H.al1).own_nil _ _

theorem newmem_has {S0 : List Nat} {w0 w : World} {rs : List Res} (H : Has S0 w0 w rs) (n : Nat) (hn : n ≤ 1024) :
    Calls Try.prog 36 #[.int .i64 n] w (HasMem S0 w0 (List.replicate n 0) rs) :=
  (new_ok n w hn).mono fun e w' h => has_newmem H h

/-- The example's run, before its step and behind it. -/
def aw9 : Rn := ⟨1, 1, 0, Fr.zero, Acc.zero, [], List.replicate 12 0⟩
def aw9' : Rn := ((aw9.did (doA (List.replicate 12 0) ⟨2, 0, 7, 0, 0⟩)).fin true).wake 0

set_option maxHeartbeats 400000 in
theorem lines09 {S0 : List Nat} {w0 w : World} {m a r : Nat} {rs : List Res} (H : RunHas S0 w0 m a r rs aw9.fresh w) :
    Calls Try.prog 87 #[.pointer (some ⟨r, 0, none⟩)] w fun e w' => e = .returned (.tuple #[]) ∧ RunHas S0 w0 m a r rs aw9' w' := by
  obtain ⟨nv, H⟩ := H
  go_enter Try.func87, Try.ntmps87
  go_wp2_with fail
  refine (run_store H 0 7 (by decide)).mono ?_
  rintro e w1 ⟨rfl, H1⟩
  go_wp2_with fail
  refine (run_end H1 true).mono ?_
  rintro e w2 ⟨rfl, H2⟩
  go_wp2_with fail
  refine (run_wake H2 0).mono ?_
  rintro e w3 ⟨rfl, H3⟩
  go_wp2_with fail
  go_end0
  exact ⟨rfl, nv, H3⟩

set_option maxHeartbeats 800000 in
theorem awake09 (w : World) : Calls Try.prog 56 #[] w fun e w' => e = .returned (.bool true) ∧ Touch [] w w' := by
  have hnew := fun W => newmem_has (Has.start [] W) 12 (by decide)
  have hs := fun W m a r (H : RunHas [] w m a r [] aw9 W) => run_step_lines (rs2 := []) (s2 := aw9') H rfl 87 #[] #[] (enters_of Try.func87 (by kernel_rfl) rfl) (fun W H => lines09 H)
  have hld := fun W m a rs (H : Has [] w W (.mem m a aw9'.L :: rs)) => load_has H 0
  rw [show aw9'.over = true from rfl] at hs
  rw [show ldA aw9'.L 0 = 7 from rfl] at hld
  have HS := Lib.hid hs
  have HL := Lib.hid hld
  clear hs hld
  go_enter Try.func56, Try.ntmps56
  go_wp2_with fail
  refine (hnew _).mono ?_
  rintro e w1 ⟨m, a, rfl, H1⟩
  clear hnew
  go_wp2_with fail
  refine (HS.out _ _ _ _ (RunHas.new aw9 H1 rfl 94)).mono ?_
  rintro e w2 ⟨rfl, nv, H2⟩
  generalize w1.heap.size = r at H2 ⊢
  go_wp2_with fail
  refine (HL.out _ _ _ _ H2).mono ?_
  rintro e w3 ⟨rfl, H3⟩
  have h13 : w3.cell? ⟨r, 13, none⟩ = some (.int .i64 2) := (H3.blk1.cell 13)
  go_wp2_with fail
  go_ret
  exact ⟨rfl, H3.touch⟩

end Go.Proofs.Ytghiggaldkojpaa.Z
