/-
  No cell of these rows narrows 'for every input' (looked for: loops, veiled, ifaces, maps, wideKeys, modest, calm, conditions, laid).
  DERIVED. THE GIVEN ROWS OF THIS SEAT. 10 by the template 'for every input the law returns true; each argument reads behind the call as it read before'; 0 by the template 'total and deterministic' (their statements: YtdffdppkdbbdoaaTotals.lean).
  GIVEN WITH THE SEED: the statements are not yours to turn. If you find one false, say at which input.
  Laid BY PROGRAM, IN A SANDBOX (cutbox-rows.mjs): the forced cells as the released guide's own fill.sh prints them over the translation 3f63d07dacc45149… (all of the seat's roots in one cut). By AI agents, Wed Nov 11 2026. No macro, syntax, notation, axiom, sorry.
-/
import Derived.Test.YtdffdppkdbbdoaaChecked
import GoSem.Claim
import GoSem.ClaimJoined
import GoSem.ClaimMapViews
import Derived.JoinedTies
import Derived.KernelRfl
namespace Go.Proofs.Ytdffdppkdbbdoaa
/- THE CELL 'sum', in the pinned program and in every row, IS THE sha256 OF THE DUMP (.gsa) THAT YtdffdppkdbbdoaaProg.lean LOADS. Nothing in Lean hashes anything: it is a label: what it is worth is what the hold of that sum in a sandbox is worth. -/
noncomputable def Try.pinned : Pinned := { name := "ytdffdppkdbbdoaa", sum := "3f63d07dacc451497f0e367960ea64b9ae3f1a5c9227fba98752138f93abae7d", checked := Try.checked }
namespace Rows
def none {H : Type} : Left H := { results := [], args := [] }

/-- 'stilemanlaw15.RfAlone': WHATEVER THE INPUT: true; the input reads as it did. -/
def rfAloneSpec : ChangeSpec := { name := "rfAlone", fn := fun _ => fun
  | [d1, d2, d3] => { results := [.lit (.bool true)], args := [d1, d2, d3] }
  | _ => none }
def rfAloneRow : OpenClaim := { program := "ytdffdppkdbbdoaa", sum := "3f63d07dacc451497f0e367960ea64b9ae3f1a5c9227fba98752138f93abae7d", func := "stileman/stilemanlaw15.RfAlone", spec := "rfAlone", unfollowed := true, recurses := true, apart := false }
def RfAloneSaid : Prop := rfAloneRow.holds Try.pinned (OpenSpec.ofChange rfAloneSpec)

/-- ITS FALSE NEIGHBOUR: 'it returns false'. Refute it at one input. -/
def rfAloneWrong : ChangeSpec := { name := "rfAlone", fn := fun _ => fun
  | [d1, d2, d3] => { results := [.lit (.bool false)], args := [d1, d2, d3] }
  | _ => none }
def RfAloneWrongFalsely : Prop := rfAloneRow.holds Try.pinned (OpenSpec.ofChange rfAloneWrong)

/-- 'stilemanlaw15.RfTries': WHATEVER THE INPUT: true; the input reads as it did. -/
def rfTriesSpec : ChangeSpec := { name := "rfTries", fn := fun _ => fun
  | [d1, d2, d3] => { results := [.lit (.bool true)], args := [d1, d2, d3] }
  | _ => none }
def rfTriesRow : OpenClaim := { program := "ytdffdppkdbbdoaa", sum := "3f63d07dacc451497f0e367960ea64b9ae3f1a5c9227fba98752138f93abae7d", func := "stileman/stilemanlaw15.RfTries", spec := "rfTries", unfollowed := true, recurses := true, apart := false }
def RfTriesSaid : Prop := rfTriesRow.holds Try.pinned (OpenSpec.ofChange rfTriesSpec)

/-- ITS FALSE NEIGHBOUR: 'it returns false'. Refute it at one input. -/
def rfTriesWrong : ChangeSpec := { name := "rfTries", fn := fun _ => fun
  | [d1, d2, d3] => { results := [.lit (.bool false)], args := [d1, d2, d3] }
  | _ => none }
def RfTriesWrongFalsely : Prop := rfTriesRow.holds Try.pinned (OpenSpec.ofChange rfTriesWrong)

/-- 'stilemanlaw15.RfSteps': WHATEVER THE INPUT: true; the input reads as it did. -/
def rfStepsSpec : ChangeSpec := { name := "rfSteps", fn := fun _ => fun
  | [d1, d2, d3, d4, d5] => { results := [.lit (.bool true)], args := [d1, d2, d3, d4, d5] }
  | _ => none }
def rfStepsRow : OpenClaim := { program := "ytdffdppkdbbdoaa", sum := "3f63d07dacc451497f0e367960ea64b9ae3f1a5c9227fba98752138f93abae7d", func := "stileman/stilemanlaw15.RfSteps", spec := "rfSteps", unfollowed := true, recurses := true, apart := false }
def RfStepsSaid : Prop := rfStepsRow.holds Try.pinned (OpenSpec.ofChange rfStepsSpec)

/-- ITS FALSE NEIGHBOUR: 'it returns false'. Refute it at one input. -/
def rfStepsWrong : ChangeSpec := { name := "rfSteps", fn := fun _ => fun
  | [d1, d2, d3, d4, d5] => { results := [.lit (.bool false)], args := [d1, d2, d3, d4, d5] }
  | _ => none }
def RfStepsWrongFalsely : Prop := rfStepsRow.holds Try.pinned (OpenSpec.ofChange rfStepsWrong)

/-- 'stilemanlaw15.RfExcludes': WHATEVER THE INPUT: true; the input reads as it did. -/
def rfExcludesSpec : ChangeSpec := { name := "rfExcludes", fn := fun _ => fun
  | [d1, d2, d3, d4] => { results := [.lit (.bool true)], args := [d1, d2, d3, d4] }
  | _ => none }
def rfExcludesRow : OpenClaim := { program := "ytdffdppkdbbdoaa", sum := "3f63d07dacc451497f0e367960ea64b9ae3f1a5c9227fba98752138f93abae7d", func := "stileman/stilemanlaw15.RfExcludes", spec := "rfExcludes", unfollowed := true, recurses := true, apart := false }
def RfExcludesSaid : Prop := rfExcludesRow.holds Try.pinned (OpenSpec.ofChange rfExcludesSpec)

/-- ITS FALSE NEIGHBOUR: 'it returns false'. Refute it at one input. -/
def rfExcludesWrong : ChangeSpec := { name := "rfExcludes", fn := fun _ => fun
  | [d1, d2, d3, d4] => { results := [.lit (.bool false)], args := [d1, d2, d3, d4] }
  | _ => none }
def RfExcludesWrongFalsely : Prop := rfExcludesRow.holds Try.pinned (OpenSpec.ofChange rfExcludesWrong)

/-- 'stilemanlaw15.RfTogether': WHATEVER THE INPUT: true; the input reads as it did. -/
def rfTogetherSpec : ChangeSpec := { name := "rfTogether", fn := fun _ => fun
  | [d1, d2, d3, d4] => { results := [.lit (.bool true)], args := [d1, d2, d3, d4] }
  | _ => none }
def rfTogetherRow : OpenClaim := { program := "ytdffdppkdbbdoaa", sum := "3f63d07dacc451497f0e367960ea64b9ae3f1a5c9227fba98752138f93abae7d", func := "stileman/stilemanlaw15.RfTogether", spec := "rfTogether", unfollowed := true, recurses := true, apart := false }
def RfTogetherSaid : Prop := rfTogetherRow.holds Try.pinned (OpenSpec.ofChange rfTogetherSpec)

/-- ITS FALSE NEIGHBOUR: 'it returns false'. Refute it at one input. -/
def rfTogetherWrong : ChangeSpec := { name := "rfTogether", fn := fun _ => fun
  | [d1, d2, d3, d4] => { results := [.lit (.bool false)], args := [d1, d2, d3, d4] }
  | _ => none }
def RfTogetherWrongFalsely : Prop := rfTogetherRow.holds Try.pinned (OpenSpec.ofChange rfTogetherWrong)

/-- 'stilemanlaw10.TfAlone': WHATEVER THE INPUT: true; the input reads as it did. -/
def tfAloneSpec : ChangeSpec := { name := "tfAlone", fn := fun _ => fun
  | [d1, d2, d3] => { results := [.lit (.bool true)], args := [d1, d2, d3] }
  | _ => none }
def tfAloneRow : OpenClaim := { program := "ytdffdppkdbbdoaa", sum := "3f63d07dacc451497f0e367960ea64b9ae3f1a5c9227fba98752138f93abae7d", func := "stileman/stilemanlaw10.TfAlone", spec := "tfAlone", unfollowed := true, recurses := true, apart := false }
def TfAloneSaid : Prop := tfAloneRow.holds Try.pinned (OpenSpec.ofChange tfAloneSpec)

/-- ITS FALSE NEIGHBOUR: 'it returns false'. Refute it at one input. -/
def tfAloneWrong : ChangeSpec := { name := "tfAlone", fn := fun _ => fun
  | [d1, d2, d3] => { results := [.lit (.bool false)], args := [d1, d2, d3] }
  | _ => none }
def TfAloneWrongFalsely : Prop := tfAloneRow.holds Try.pinned (OpenSpec.ofChange tfAloneWrong)

/-- 'stilemanlaw10.TfSteps': WHATEVER THE INPUT: true; the input reads as it did. -/
def tfStepsSpec : ChangeSpec := { name := "tfSteps", fn := fun _ => fun
  | [d1, d2, d3, d4, d5] => { results := [.lit (.bool true)], args := [d1, d2, d3, d4, d5] }
  | _ => none }
def tfStepsRow : OpenClaim := { program := "ytdffdppkdbbdoaa", sum := "3f63d07dacc451497f0e367960ea64b9ae3f1a5c9227fba98752138f93abae7d", func := "stileman/stilemanlaw10.TfSteps", spec := "tfSteps", unfollowed := true, recurses := true, apart := false }
def TfStepsSaid : Prop := tfStepsRow.holds Try.pinned (OpenSpec.ofChange tfStepsSpec)

/-- ITS FALSE NEIGHBOUR: 'it returns false'. Refute it at one input. -/
def tfStepsWrong : ChangeSpec := { name := "tfSteps", fn := fun _ => fun
  | [d1, d2, d3, d4, d5] => { results := [.lit (.bool false)], args := [d1, d2, d3, d4, d5] }
  | _ => none }
def TfStepsWrongFalsely : Prop := tfStepsRow.holds Try.pinned (OpenSpec.ofChange tfStepsWrong)

/-- 'stilemanlaw10.TfTries': WHATEVER THE INPUT: true; the input reads as it did. -/
def tfTriesSpec : ChangeSpec := { name := "tfTries", fn := fun _ => fun
  | [d1, d2, d3] => { results := [.lit (.bool true)], args := [d1, d2, d3] }
  | _ => none }
def tfTriesRow : OpenClaim := { program := "ytdffdppkdbbdoaa", sum := "3f63d07dacc451497f0e367960ea64b9ae3f1a5c9227fba98752138f93abae7d", func := "stileman/stilemanlaw10.TfTries", spec := "tfTries", unfollowed := true, recurses := true, apart := false }
def TfTriesSaid : Prop := tfTriesRow.holds Try.pinned (OpenSpec.ofChange tfTriesSpec)

/-- ITS FALSE NEIGHBOUR: 'it returns false'. Refute it at one input. -/
def tfTriesWrong : ChangeSpec := { name := "tfTries", fn := fun _ => fun
  | [d1, d2, d3] => { results := [.lit (.bool false)], args := [d1, d2, d3] }
  | _ => none }
def TfTriesWrongFalsely : Prop := tfTriesRow.holds Try.pinned (OpenSpec.ofChange tfTriesWrong)

/-- 'stilemanlaw10.TfExcludes': WHATEVER THE INPUT: true; the input reads as it did. -/
def tfExcludesSpec : ChangeSpec := { name := "tfExcludes", fn := fun _ => fun
  | [d1, d2, d3, d4] => { results := [.lit (.bool true)], args := [d1, d2, d3, d4] }
  | _ => none }
def tfExcludesRow : OpenClaim := { program := "ytdffdppkdbbdoaa", sum := "3f63d07dacc451497f0e367960ea64b9ae3f1a5c9227fba98752138f93abae7d", func := "stileman/stilemanlaw10.TfExcludes", spec := "tfExcludes", unfollowed := true, recurses := true, apart := false }
def TfExcludesSaid : Prop := tfExcludesRow.holds Try.pinned (OpenSpec.ofChange tfExcludesSpec)

/-- ITS FALSE NEIGHBOUR: 'it returns false'. Refute it at one input. -/
def tfExcludesWrong : ChangeSpec := { name := "tfExcludes", fn := fun _ => fun
  | [d1, d2, d3, d4] => { results := [.lit (.bool false)], args := [d1, d2, d3, d4] }
  | _ => none }
def TfExcludesWrongFalsely : Prop := tfExcludesRow.holds Try.pinned (OpenSpec.ofChange tfExcludesWrong)

/-- 'stilemanlaw10.TfTogether': WHATEVER THE INPUT: true; the input reads as it did. -/
def tfTogetherSpec : ChangeSpec := { name := "tfTogether", fn := fun _ => fun
  | [d1, d2, d3, d4] => { results := [.lit (.bool true)], args := [d1, d2, d3, d4] }
  | _ => none }
def tfTogetherRow : OpenClaim := { program := "ytdffdppkdbbdoaa", sum := "3f63d07dacc451497f0e367960ea64b9ae3f1a5c9227fba98752138f93abae7d", func := "stileman/stilemanlaw10.TfTogether", spec := "tfTogether", unfollowed := true, recurses := true, apart := false }
def TfTogetherSaid : Prop := tfTogetherRow.holds Try.pinned (OpenSpec.ofChange tfTogetherSpec)

/-- ITS FALSE NEIGHBOUR: 'it returns false'. Refute it at one input. -/
def tfTogetherWrong : ChangeSpec := { name := "tfTogether", fn := fun _ => fun
  | [d1, d2, d3, d4] => { results := [.lit (.bool false)], args := [d1, d2, d3, d4] }
  | _ => none }
def TfTogetherWrongFalsely : Prop := tfTogetherRow.holds Try.pinned (OpenSpec.ofChange tfTogetherWrong)

/- THE SECOND FORM. 'bulk': how many values and letters a reading holds, each counted each time it is reached (what is shared counts as often as it is met; a slice's spare places count too). A statement '..UptoSaid' is the law's where the arguments, and the package variables that the reading takes, are together of bulk at most 1048576: NARROWER than '..Said'. Prove '..Said' where nothing that the law and all that it calls make is longer than what came in: it says more and counts as full. Else prove '..UptoSaid'. A law counts once. -/
mutual
def uptoBulk {H : Type} : DataW H → Nat
  | .lit (.string bytes) => bytes.length + 1
  | .lit _ => 1
  | .nil => 1
  | .ptr d => uptoBulk d + 1
  | .slice elems spare => uptoBulkAll elems + uptoBulkAll spare + 1
  | .agg parts => uptoBulkAll parts + 1
  | .iface _ d => uptoBulk d + 1
  | .map entries => uptoBulkEntries entries + 1
  | .held _ => 1
def uptoBulkAll {H : Type} : List (DataW H) → Nat
  | [] => 0
  | d :: r => uptoBulk d + uptoBulkAll r
def uptoBulkEntries {H : Type} : List (Lit × DataW H) → Nat
  | [] => 0
  | x :: r => uptoBulkEntry x + uptoBulkEntries r
def uptoBulkEntry {H : Type} : Lit × DataW H → Nat
  | (.string bytes, d) => bytes.length + uptoBulk d + 1
  | (_, d) => uptoBulk d + 1
 end
def uptoSmall : (H : Type) → List (DataW H) → Bool := fun _ ds => decide (uptoBulkAll ds ≤ 1048576)
def OpenSpec.upto (s : _root_.Go.ChangeSpec) : _root_.Go.OpenSpec := { _root_.Go.OpenSpec.ofChange s with cond := some uptoSmall }

/-- 'stilemanlaw15.RfAlone', WHERE WHAT IT READS IS OF BULK AT MOST 1048576: true; the input reads as it did. -/
def rfAloneUptoRow : OpenClaim := { program := "ytdffdppkdbbdoaa", sum := "3f63d07dacc451497f0e367960ea64b9ae3f1a5c9227fba98752138f93abae7d", func := "stileman/stilemanlaw15.RfAlone", spec := "rfAlone", unfollowed := true, recurses := true, apart := false, narrowed := true }
def RfAloneUptoSaid : Prop := rfAloneUptoRow.holds Try.pinned (OpenSpec.upto rfAloneSpec)

/-- 'stilemanlaw15.RfTries', WHERE WHAT IT READS IS OF BULK AT MOST 1048576: true; the input reads as it did. -/
def rfTriesUptoRow : OpenClaim := { program := "ytdffdppkdbbdoaa", sum := "3f63d07dacc451497f0e367960ea64b9ae3f1a5c9227fba98752138f93abae7d", func := "stileman/stilemanlaw15.RfTries", spec := "rfTries", unfollowed := true, recurses := true, apart := false, narrowed := true }
def RfTriesUptoSaid : Prop := rfTriesUptoRow.holds Try.pinned (OpenSpec.upto rfTriesSpec)

/-- 'stilemanlaw15.RfSteps', WHERE WHAT IT READS IS OF BULK AT MOST 1048576: true; the input reads as it did. -/
def rfStepsUptoRow : OpenClaim := { program := "ytdffdppkdbbdoaa", sum := "3f63d07dacc451497f0e367960ea64b9ae3f1a5c9227fba98752138f93abae7d", func := "stileman/stilemanlaw15.RfSteps", spec := "rfSteps", unfollowed := true, recurses := true, apart := false, narrowed := true }
def RfStepsUptoSaid : Prop := rfStepsUptoRow.holds Try.pinned (OpenSpec.upto rfStepsSpec)

/-- 'stilemanlaw15.RfExcludes', WHERE WHAT IT READS IS OF BULK AT MOST 1048576: true; the input reads as it did. -/
def rfExcludesUptoRow : OpenClaim := { program := "ytdffdppkdbbdoaa", sum := "3f63d07dacc451497f0e367960ea64b9ae3f1a5c9227fba98752138f93abae7d", func := "stileman/stilemanlaw15.RfExcludes", spec := "rfExcludes", unfollowed := true, recurses := true, apart := false, narrowed := true }
def RfExcludesUptoSaid : Prop := rfExcludesUptoRow.holds Try.pinned (OpenSpec.upto rfExcludesSpec)

/-- 'stilemanlaw15.RfTogether', WHERE WHAT IT READS IS OF BULK AT MOST 1048576: true; the input reads as it did. -/
def rfTogetherUptoRow : OpenClaim := { program := "ytdffdppkdbbdoaa", sum := "3f63d07dacc451497f0e367960ea64b9ae3f1a5c9227fba98752138f93abae7d", func := "stileman/stilemanlaw15.RfTogether", spec := "rfTogether", unfollowed := true, recurses := true, apart := false, narrowed := true }
def RfTogetherUptoSaid : Prop := rfTogetherUptoRow.holds Try.pinned (OpenSpec.upto rfTogetherSpec)

/-- 'stilemanlaw10.TfAlone', WHERE WHAT IT READS IS OF BULK AT MOST 1048576: true; the input reads as it did. -/
def tfAloneUptoRow : OpenClaim := { program := "ytdffdppkdbbdoaa", sum := "3f63d07dacc451497f0e367960ea64b9ae3f1a5c9227fba98752138f93abae7d", func := "stileman/stilemanlaw10.TfAlone", spec := "tfAlone", unfollowed := true, recurses := true, apart := false, narrowed := true }
def TfAloneUptoSaid : Prop := tfAloneUptoRow.holds Try.pinned (OpenSpec.upto tfAloneSpec)

/-- 'stilemanlaw10.TfSteps', WHERE WHAT IT READS IS OF BULK AT MOST 1048576: true; the input reads as it did. -/
def tfStepsUptoRow : OpenClaim := { program := "ytdffdppkdbbdoaa", sum := "3f63d07dacc451497f0e367960ea64b9ae3f1a5c9227fba98752138f93abae7d", func := "stileman/stilemanlaw10.TfSteps", spec := "tfSteps", unfollowed := true, recurses := true, apart := false, narrowed := true }
def TfStepsUptoSaid : Prop := tfStepsUptoRow.holds Try.pinned (OpenSpec.upto tfStepsSpec)

/-- 'stilemanlaw10.TfTries', WHERE WHAT IT READS IS OF BULK AT MOST 1048576: true; the input reads as it did. -/
def tfTriesUptoRow : OpenClaim := { program := "ytdffdppkdbbdoaa", sum := "3f63d07dacc451497f0e367960ea64b9ae3f1a5c9227fba98752138f93abae7d", func := "stileman/stilemanlaw10.TfTries", spec := "tfTries", unfollowed := true, recurses := true, apart := false, narrowed := true }
def TfTriesUptoSaid : Prop := tfTriesUptoRow.holds Try.pinned (OpenSpec.upto tfTriesSpec)

/-- 'stilemanlaw10.TfExcludes', WHERE WHAT IT READS IS OF BULK AT MOST 1048576: true; the input reads as it did. -/
def tfExcludesUptoRow : OpenClaim := { program := "ytdffdppkdbbdoaa", sum := "3f63d07dacc451497f0e367960ea64b9ae3f1a5c9227fba98752138f93abae7d", func := "stileman/stilemanlaw10.TfExcludes", spec := "tfExcludes", unfollowed := true, recurses := true, apart := false, narrowed := true }
def TfExcludesUptoSaid : Prop := tfExcludesUptoRow.holds Try.pinned (OpenSpec.upto tfExcludesSpec)

/-- 'stilemanlaw10.TfTogether', WHERE WHAT IT READS IS OF BULK AT MOST 1048576: true; the input reads as it did. -/
def tfTogetherUptoRow : OpenClaim := { program := "ytdffdppkdbbdoaa", sum := "3f63d07dacc451497f0e367960ea64b9ae3f1a5c9227fba98752138f93abae7d", func := "stileman/stilemanlaw10.TfTogether", spec := "tfTogether", unfollowed := true, recurses := true, apart := false, narrowed := true }
def TfTogetherUptoSaid : Prop := tfTogetherUptoRow.holds Try.pinned (OpenSpec.upto tfTogetherSpec)

end Rows
end Go.Proofs.Ytdffdppkdbbdoaa
