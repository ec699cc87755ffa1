/-
  No cell of these rows narrows 'for every input' (looked for: loops, veiled, ifaces, maps, wideKeys, modest, calm, conditions, laid).
  DERIVED. THE GIVEN ROWS OF THIS SEAT. 9 by the template 'for every input the law returns true; each argument reads behind the call as it read before'; 0 by the template 'total and deterministic' (their statements: YtmbbcgkfankiaaaTotals.lean).
  GIVEN WITH THE SEED: the statements are not yours to turn. If you find one false, say at which input.
  Laid BY PROGRAM, IN A SANDBOX (cutbox-rows.mjs): the forced cells as the released guide's own fill.sh prints them over the translation 83b44a0739a18f5e… (all of the seat's roots in one cut). By AI agents, Wed Nov 11 2026. No macro, syntax, notation, axiom, sorry.
-/
import Derived.Test.YtmbbcgkfankiaaaChecked
import GoSem.Claim
import GoSem.ClaimJoined
import GoSem.ClaimMapViews
import Derived.JoinedTies
import Derived.KernelRfl
namespace Go.Proofs.Ytmbbcgkfankiaaa
/- THE CELL 'sum', in the pinned program and in every row, IS THE sha256 OF THE DUMP (.gsa) THAT YtmbbcgkfankiaaaProg.lean LOADS. Nothing in Lean hashes anything: it is a label: what it is worth is what the hold of that sum in a sandbox is worth. -/
noncomputable def Try.pinned : Pinned := { name := "ytmbbcgkfankiaaa", sum := "83b44a0739a18f5e5a70ec4bfcb57d75e4ac57984a1a4e28fda1e8880f2d349f", checked := Try.checked }
namespace Rows
def none {H : Type} : Left H := { results := [], args := [] }

/-- 'stilemanlaw16.WfAlone': WHATEVER THE INPUT: true; the input reads as it did. -/
def wfAloneSpec : ChangeSpec := { name := "wfAlone", fn := fun _ => fun
  | [d1, d2, d3] => { results := [.lit (.bool true)], args := [d1, d2, d3] }
  | _ => none }
def wfAloneRow : OpenClaim := { program := "ytmbbcgkfankiaaa", sum := "83b44a0739a18f5e5a70ec4bfcb57d75e4ac57984a1a4e28fda1e8880f2d349f", func := "stileman/stilemanlaw16.WfAlone", spec := "wfAlone", unfollowed := true, recurses := true, apart := false }
def WfAloneSaid : Prop := wfAloneRow.holds Try.pinned (OpenSpec.ofChange wfAloneSpec)

/-- ITS FALSE NEIGHBOUR: 'it returns false'. Refute it at one input. -/
def wfAloneWrong : ChangeSpec := { name := "wfAlone", fn := fun _ => fun
  | [d1, d2, d3] => { results := [.lit (.bool false)], args := [d1, d2, d3] }
  | _ => none }
def WfAloneWrongFalsely : Prop := wfAloneRow.holds Try.pinned (OpenSpec.ofChange wfAloneWrong)

/-- 'stilemanlaw16.WfTries': WHATEVER THE INPUT: true; the input reads as it did. -/
def wfTriesSpec : ChangeSpec := { name := "wfTries", fn := fun _ => fun
  | [d1, d2, d3] => { results := [.lit (.bool true)], args := [d1, d2, d3] }
  | _ => none }
def wfTriesRow : OpenClaim := { program := "ytmbbcgkfankiaaa", sum := "83b44a0739a18f5e5a70ec4bfcb57d75e4ac57984a1a4e28fda1e8880f2d349f", func := "stileman/stilemanlaw16.WfTries", spec := "wfTries", unfollowed := true, recurses := true, apart := false }
def WfTriesSaid : Prop := wfTriesRow.holds Try.pinned (OpenSpec.ofChange wfTriesSpec)

/-- ITS FALSE NEIGHBOUR: 'it returns false'. Refute it at one input. -/
def wfTriesWrong : ChangeSpec := { name := "wfTries", fn := fun _ => fun
  | [d1, d2, d3] => { results := [.lit (.bool false)], args := [d1, d2, d3] }
  | _ => none }
def WfTriesWrongFalsely : Prop := wfTriesRow.holds Try.pinned (OpenSpec.ofChange wfTriesWrong)

/-- 'stilemanlaw16.WfSteps': WHATEVER THE INPUT: true; the input reads as it did. -/
def wfStepsSpec : ChangeSpec := { name := "wfSteps", fn := fun _ => fun
  | [d1, d2, d3, d4, d5] => { results := [.lit (.bool true)], args := [d1, d2, d3, d4, d5] }
  | _ => none }
def wfStepsRow : OpenClaim := { program := "ytmbbcgkfankiaaa", sum := "83b44a0739a18f5e5a70ec4bfcb57d75e4ac57984a1a4e28fda1e8880f2d349f", func := "stileman/stilemanlaw16.WfSteps", spec := "wfSteps", unfollowed := true, recurses := true, apart := false }
def WfStepsSaid : Prop := wfStepsRow.holds Try.pinned (OpenSpec.ofChange wfStepsSpec)

/-- ITS FALSE NEIGHBOUR: 'it returns false'. Refute it at one input. -/
def wfStepsWrong : ChangeSpec := { name := "wfSteps", fn := fun _ => fun
  | [d1, d2, d3, d4, d5] => { results := [.lit (.bool false)], args := [d1, d2, d3, d4, d5] }
  | _ => none }
def WfStepsWrongFalsely : Prop := wfStepsRow.holds Try.pinned (OpenSpec.ofChange wfStepsWrong)

/-- 'stilemanlaw16.WfExcludes': WHATEVER THE INPUT: true; the input reads as it did. -/
def wfExcludesSpec : ChangeSpec := { name := "wfExcludes", fn := fun _ => fun
  | [d1, d2, d3, d4] => { results := [.lit (.bool true)], args := [d1, d2, d3, d4] }
  | _ => none }
def wfExcludesRow : OpenClaim := { program := "ytmbbcgkfankiaaa", sum := "83b44a0739a18f5e5a70ec4bfcb57d75e4ac57984a1a4e28fda1e8880f2d349f", func := "stileman/stilemanlaw16.WfExcludes", spec := "wfExcludes", unfollowed := true, recurses := true, apart := false }
def WfExcludesSaid : Prop := wfExcludesRow.holds Try.pinned (OpenSpec.ofChange wfExcludesSpec)

/-- ITS FALSE NEIGHBOUR: 'it returns false'. Refute it at one input. -/
def wfExcludesWrong : ChangeSpec := { name := "wfExcludes", fn := fun _ => fun
  | [d1, d2, d3, d4] => { results := [.lit (.bool false)], args := [d1, d2, d3, d4] }
  | _ => none }
def WfExcludesWrongFalsely : Prop := wfExcludesRow.holds Try.pinned (OpenSpec.ofChange wfExcludesWrong)

/-- 'stilemanlaw16.WfTogether': WHATEVER THE INPUT: true; the input reads as it did. -/
def wfTogetherSpec : ChangeSpec := { name := "wfTogether", fn := fun _ => fun
  | [d1, d2, d3, d4] => { results := [.lit (.bool true)], args := [d1, d2, d3, d4] }
  | _ => none }
def wfTogetherRow : OpenClaim := { program := "ytmbbcgkfankiaaa", sum := "83b44a0739a18f5e5a70ec4bfcb57d75e4ac57984a1a4e28fda1e8880f2d349f", func := "stileman/stilemanlaw16.WfTogether", spec := "wfTogether", unfollowed := true, recurses := true, apart := false }
def WfTogetherSaid : Prop := wfTogetherRow.holds Try.pinned (OpenSpec.ofChange wfTogetherSpec)

/-- ITS FALSE NEIGHBOUR: 'it returns false'. Refute it at one input. -/
def wfTogetherWrong : ChangeSpec := { name := "wfTogether", fn := fun _ => fun
  | [d1, d2, d3, d4] => { results := [.lit (.bool false)], args := [d1, d2, d3, d4] }
  | _ => none }
def WfTogetherWrongFalsely : Prop := wfTogetherRow.holds Try.pinned (OpenSpec.ofChange wfTogetherWrong)

/-- 'stilemanlaw11.PfAlone': WHATEVER THE INPUT: true; the input reads as it did. -/
def pfAloneSpec : ChangeSpec := { name := "pfAlone", fn := fun _ => fun
  | [d1, d2, d3] => { results := [.lit (.bool true)], args := [d1, d2, d3] }
  | _ => none }
def pfAloneRow : OpenClaim := { program := "ytmbbcgkfankiaaa", sum := "83b44a0739a18f5e5a70ec4bfcb57d75e4ac57984a1a4e28fda1e8880f2d349f", func := "stileman/stilemanlaw11.PfAlone", spec := "pfAlone", unfollowed := true, recurses := true, apart := false }
def PfAloneSaid : Prop := pfAloneRow.holds Try.pinned (OpenSpec.ofChange pfAloneSpec)

/-- ITS FALSE NEIGHBOUR: 'it returns false'. Refute it at one input. -/
def pfAloneWrong : ChangeSpec := { name := "pfAlone", fn := fun _ => fun
  | [d1, d2, d3] => { results := [.lit (.bool false)], args := [d1, d2, d3] }
  | _ => none }
def PfAloneWrongFalsely : Prop := pfAloneRow.holds Try.pinned (OpenSpec.ofChange pfAloneWrong)

/-- 'stilemanlaw11.PfTries': WHATEVER THE INPUT: true; the input reads as it did. -/
def pfTriesSpec : ChangeSpec := { name := "pfTries", fn := fun _ => fun
  | [d1, d2, d3] => { results := [.lit (.bool true)], args := [d1, d2, d3] }
  | _ => none }
def pfTriesRow : OpenClaim := { program := "ytmbbcgkfankiaaa", sum := "83b44a0739a18f5e5a70ec4bfcb57d75e4ac57984a1a4e28fda1e8880f2d349f", func := "stileman/stilemanlaw11.PfTries", spec := "pfTries", unfollowed := true, recurses := true, apart := false }
def PfTriesSaid : Prop := pfTriesRow.holds Try.pinned (OpenSpec.ofChange pfTriesSpec)

/-- ITS FALSE NEIGHBOUR: 'it returns false'. Refute it at one input. -/
def pfTriesWrong : ChangeSpec := { name := "pfTries", fn := fun _ => fun
  | [d1, d2, d3] => { results := [.lit (.bool false)], args := [d1, d2, d3] }
  | _ => none }
def PfTriesWrongFalsely : Prop := pfTriesRow.holds Try.pinned (OpenSpec.ofChange pfTriesWrong)

/-- 'stilemanlaw11.PfExcludes': WHATEVER THE INPUT: true; the input reads as it did. -/
def pfExcludesSpec : ChangeSpec := { name := "pfExcludes", fn := fun _ => fun
  | [d1, d2, d3, d4] => { results := [.lit (.bool true)], args := [d1, d2, d3, d4] }
  | _ => none }
def pfExcludesRow : OpenClaim := { program := "ytmbbcgkfankiaaa", sum := "83b44a0739a18f5e5a70ec4bfcb57d75e4ac57984a1a4e28fda1e8880f2d349f", func := "stileman/stilemanlaw11.PfExcludes", spec := "pfExcludes", unfollowed := true, recurses := true, apart := false }
def PfExcludesSaid : Prop := pfExcludesRow.holds Try.pinned (OpenSpec.ofChange pfExcludesSpec)

/-- ITS FALSE NEIGHBOUR: 'it returns false'. Refute it at one input. -/
def pfExcludesWrong : ChangeSpec := { name := "pfExcludes", fn := fun _ => fun
  | [d1, d2, d3, d4] => { results := [.lit (.bool false)], args := [d1, d2, d3, d4] }
  | _ => none }
def PfExcludesWrongFalsely : Prop := pfExcludesRow.holds Try.pinned (OpenSpec.ofChange pfExcludesWrong)

/-- 'stilemanlaw11.PfTogether': WHATEVER THE INPUT: true; the input reads as it did. -/
def pfTogetherSpec : ChangeSpec := { name := "pfTogether", fn := fun _ => fun
  | [d1, d2, d3, d4] => { results := [.lit (.bool true)], args := [d1, d2, d3, d4] }
  | _ => none }
def pfTogetherRow : OpenClaim := { program := "ytmbbcgkfankiaaa", sum := "83b44a0739a18f5e5a70ec4bfcb57d75e4ac57984a1a4e28fda1e8880f2d349f", func := "stileman/stilemanlaw11.PfTogether", spec := "pfTogether", unfollowed := true, recurses := true, apart := false }
def PfTogetherSaid : Prop := pfTogetherRow.holds Try.pinned (OpenSpec.ofChange pfTogetherSpec)

/-- ITS FALSE NEIGHBOUR: 'it returns false'. Refute it at one input. -/
def pfTogetherWrong : ChangeSpec := { name := "pfTogether", fn := fun _ => fun
  | [d1, d2, d3, d4] => { results := [.lit (.bool false)], args := [d1, d2, d3, d4] }
  | _ => none }
def PfTogetherWrongFalsely : Prop := pfTogetherRow.holds Try.pinned (OpenSpec.ofChange pfTogetherWrong)

/- THE SECOND FORM. 'bulk': how many values and letters a reading holds, each counted each time it is reached (what is shared counts as often as it is met; a slice's spare places count too). A statement '..UptoSaid' is the law's where the arguments, and the package variables that the reading takes, are together of bulk at most 1048576: NARROWER than '..Said'. Prove '..Said' where nothing that the law and all that it calls make is longer than what came in: it says more and counts as full. Else prove '..UptoSaid'. A law counts once. -/
mutual
def uptoBulk {H : Type} : DataW H → Nat
  | .lit (.string bytes) => bytes.length + 1
  | .lit _ => 1
  | .nil => 1
  | .ptr d => uptoBulk d + 1
  | .slice elems spare => uptoBulkAll elems + uptoBulkAll spare + 1
  | .agg parts => uptoBulkAll parts + 1
  | .iface _ d => uptoBulk d + 1
  | .map entries => uptoBulkEntries entries + 1
  | .held _ => 1
def uptoBulkAll {H : Type} : List (DataW H) → Nat
  | [] => 0
  | d :: r => uptoBulk d + uptoBulkAll r
def uptoBulkEntries {H : Type} : List (Lit × DataW H) → Nat
  | [] => 0
  | x :: r => uptoBulkEntry x + uptoBulkEntries r
def uptoBulkEntry {H : Type} : Lit × DataW H → Nat
  | (.string bytes, d) => bytes.length + uptoBulk d + 1
  | (_, d) => uptoBulk d + 1
 end
def uptoSmall : (H : Type) → List (DataW H) → Bool := fun _ ds => decide (uptoBulkAll ds ≤ 1048576)
def OpenSpec.upto (s : _root_.Go.ChangeSpec) : _root_.Go.OpenSpec := { _root_.Go.OpenSpec.ofChange s with cond := some uptoSmall }

/-- 'stilemanlaw16.WfAlone', WHERE WHAT IT READS IS OF BULK AT MOST 1048576: true; the input reads as it did. -/
def wfAloneUptoRow : OpenClaim := { program := "ytmbbcgkfankiaaa", sum := "83b44a0739a18f5e5a70ec4bfcb57d75e4ac57984a1a4e28fda1e8880f2d349f", func := "stileman/stilemanlaw16.WfAlone", spec := "wfAlone", unfollowed := true, recurses := true, apart := false, narrowed := true }
def WfAloneUptoSaid : Prop := wfAloneUptoRow.holds Try.pinned (OpenSpec.upto wfAloneSpec)

/-- 'stilemanlaw16.WfTries', WHERE WHAT IT READS IS OF BULK AT MOST 1048576: true; the input reads as it did. -/
def wfTriesUptoRow : OpenClaim := { program := "ytmbbcgkfankiaaa", sum := "83b44a0739a18f5e5a70ec4bfcb57d75e4ac57984a1a4e28fda1e8880f2d349f", func := "stileman/stilemanlaw16.WfTries", spec := "wfTries", unfollowed := true, recurses := true, apart := false, narrowed := true }
def WfTriesUptoSaid : Prop := wfTriesUptoRow.holds Try.pinned (OpenSpec.upto wfTriesSpec)

/-- 'stilemanlaw16.WfSteps', WHERE WHAT IT READS IS OF BULK AT MOST 1048576: true; the input reads as it did. -/
def wfStepsUptoRow : OpenClaim := { program := "ytmbbcgkfankiaaa", sum := "83b44a0739a18f5e5a70ec4bfcb57d75e4ac57984a1a4e28fda1e8880f2d349f", func := "stileman/stilemanlaw16.WfSteps", spec := "wfSteps", unfollowed := true, recurses := true, apart := false, narrowed := true }
def WfStepsUptoSaid : Prop := wfStepsUptoRow.holds Try.pinned (OpenSpec.upto wfStepsSpec)

/-- 'stilemanlaw16.WfExcludes', WHERE WHAT IT READS IS OF BULK AT MOST 1048576: true; the input reads as it did. -/
def wfExcludesUptoRow : OpenClaim := { program := "ytmbbcgkfankiaaa", sum := "83b44a0739a18f5e5a70ec4bfcb57d75e4ac57984a1a4e28fda1e8880f2d349f", func := "stileman/stilemanlaw16.WfExcludes", spec := "wfExcludes", unfollowed := true, recurses := true, apart := false, narrowed := true }
def WfExcludesUptoSaid : Prop := wfExcludesUptoRow.holds Try.pinned (OpenSpec.upto wfExcludesSpec)

/-- 'stilemanlaw16.WfTogether', WHERE WHAT IT READS IS OF BULK AT MOST 1048576: true; the input reads as it did. -/
def wfTogetherUptoRow : OpenClaim := { program := "ytmbbcgkfankiaaa", sum := "83b44a0739a18f5e5a70ec4bfcb57d75e4ac57984a1a4e28fda1e8880f2d349f", func := "stileman/stilemanlaw16.WfTogether", spec := "wfTogether", unfollowed := true, recurses := true, apart := false, narrowed := true }
def WfTogetherUptoSaid : Prop := wfTogetherUptoRow.holds Try.pinned (OpenSpec.upto wfTogetherSpec)

/-- 'stilemanlaw11.PfAlone', WHERE WHAT IT READS IS OF BULK AT MOST 1048576: true; the input reads as it did. -/
def pfAloneUptoRow : OpenClaim := { program := "ytmbbcgkfankiaaa", sum := "83b44a0739a18f5e5a70ec4bfcb57d75e4ac57984a1a4e28fda1e8880f2d349f", func := "stileman/stilemanlaw11.PfAlone", spec := "pfAlone", unfollowed := true, recurses := true, apart := false, narrowed := true }
def PfAloneUptoSaid : Prop := pfAloneUptoRow.holds Try.pinned (OpenSpec.upto pfAloneSpec)

/-- 'stilemanlaw11.PfTries', WHERE WHAT IT READS IS OF BULK AT MOST 1048576: true; the input reads as it did. -/
def pfTriesUptoRow : OpenClaim := { program := "ytmbbcgkfankiaaa", sum := "83b44a0739a18f5e5a70ec4bfcb57d75e4ac57984a1a4e28fda1e8880f2d349f", func := "stileman/stilemanlaw11.PfTries", spec := "pfTries", unfollowed := true, recurses := true, apart := false, narrowed := true }
def PfTriesUptoSaid : Prop := pfTriesUptoRow.holds Try.pinned (OpenSpec.upto pfTriesSpec)

/-- 'stilemanlaw11.PfExcludes', WHERE WHAT IT READS IS OF BULK AT MOST 1048576: true; the input reads as it did. -/
def pfExcludesUptoRow : OpenClaim := { program := "ytmbbcgkfankiaaa", sum := "83b44a0739a18f5e5a70ec4bfcb57d75e4ac57984a1a4e28fda1e8880f2d349f", func := "stileman/stilemanlaw11.PfExcludes", spec := "pfExcludes", unfollowed := true, recurses := true, apart := false, narrowed := true }
def PfExcludesUptoSaid : Prop := pfExcludesUptoRow.holds Try.pinned (OpenSpec.upto pfExcludesSpec)

/-- 'stilemanlaw11.PfTogether', WHERE WHAT IT READS IS OF BULK AT MOST 1048576: true; the input reads as it did. -/
def pfTogetherUptoRow : OpenClaim := { program := "ytmbbcgkfankiaaa", sum := "83b44a0739a18f5e5a70ec4bfcb57d75e4ac57984a1a4e28fda1e8880f2d349f", func := "stileman/stilemanlaw11.PfTogether", spec := "pfTogether", unfollowed := true, recurses := true, apart := false, narrowed := true }
def PfTogetherUptoSaid : Prop := pfTogetherUptoRow.holds Try.pinned (OpenSpec.upto pfTogetherSpec)

end Rows
end Go.Proofs.Ytmbbcgkfankiaaa
