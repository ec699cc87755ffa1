/-
  No cell of these rows narrows 'for every input' (looked for: loops, veiled, ifaces, maps, wideKeys, modest, calm, conditions, laid).
  DERIVED. THE GIVEN ROWS OF THIS SEAT. 8 by the template 'for every input the law returns true; each argument reads behind the call as it read before'; 0 by the template 'total and deterministic' (their statements: YtlndihdlodempaaTotals.lean).
  GIVEN WITH THE SEED: the statements are not yours to turn. If you find one false, say at which input.
  Laid BY PROGRAM, IN A SANDBOX (cutbox-rows.mjs): the forced cells as the released guide's own fill.sh prints them over the translation 5c35403e8703bb89… (all of the seat's roots in one cut). By AI agents, Wed Nov 11 2026. No macro, syntax, notation, axiom, sorry.
-/
import Derived.Test.YtlndihdlodempaaChecked
import GoSem.Claim
import GoSem.ClaimJoined
import GoSem.ClaimMapViews
import Derived.JoinedTies
import Derived.KernelRfl
namespace Go.Proofs.Ytlndihdlodempaa
/- THE CELL 'sum', in the pinned program and in every row, IS THE sha256 OF THE DUMP (.gsa) THAT YtlndihdlodempaaProg.lean LOADS. Nothing in Lean hashes anything: it is a label: what it is worth is what the hold of that sum in a sandbox is worth. -/
noncomputable def Try.pinned : Pinned := { name := "ytlndihdlodempaa", sum := "5c35403e8703bb89ef0ef46bf520ad0477e45239a8cadeec49600d2cd3a29be4", checked := Try.checked }
namespace Rows
def none {H : Type} : Left H := { results := [], args := [] }

/-- 'stilemanlaw09.LineSteps': WHATEVER THE INPUT: true; the input reads as it did. -/
def lineStepsSpec : ChangeSpec := { name := "lineSteps", fn := fun _ => fun
  | [d1, d2, d3, d4, d5, d6] => { results := [.lit (.bool true)], args := [d1, d2, d3, d4, d5, d6] }
  | _ => none }
def lineStepsRow : OpenClaim := { program := "ytlndihdlodempaa", sum := "5c35403e8703bb89ef0ef46bf520ad0477e45239a8cadeec49600d2cd3a29be4", func := "stileman/stilemanlaw09.LineSteps", spec := "lineSteps", unfollowed := true, recurses := true, apart := false }
def LineStepsSaid : Prop := lineStepsRow.holds Try.pinned (OpenSpec.ofChange lineStepsSpec)

/-- ITS FALSE NEIGHBOUR: 'it returns false'. Refute it at one input. -/
def lineStepsWrong : ChangeSpec := { name := "lineSteps", fn := fun _ => fun
  | [d1, d2, d3, d4, d5, d6] => { results := [.lit (.bool false)], args := [d1, d2, d3, d4, d5, d6] }
  | _ => none }
def LineStepsWrongFalsely : Prop := lineStepsRow.holds Try.pinned (OpenSpec.ofChange lineStepsWrong)

/-- 'stilemanlaw12.MutexSteps': WHATEVER THE INPUT: true; the input reads as it did. -/
def mutexStepsSpec : ChangeSpec := { name := "mutexSteps", fn := fun _ => fun
  | [d1, d2, d3, d4, d5, d6, d7, d8, d9] => { results := [.lit (.bool true)], args := [d1, d2, d3, d4, d5, d6, d7, d8, d9] }
  | _ => none }
def mutexStepsRow : OpenClaim := { program := "ytlndihdlodempaa", sum := "5c35403e8703bb89ef0ef46bf520ad0477e45239a8cadeec49600d2cd3a29be4", func := "stileman/stilemanlaw12.MutexSteps", spec := "mutexSteps", unfollowed := true, recurses := true, apart := false }
def MutexStepsSaid : Prop := mutexStepsRow.holds Try.pinned (OpenSpec.ofChange mutexStepsSpec)

/-- ITS FALSE NEIGHBOUR: 'it returns false'. Refute it at one input. -/
def mutexStepsWrong : ChangeSpec := { name := "mutexSteps", fn := fun _ => fun
  | [d1, d2, d3, d4, d5, d6, d7, d8, d9] => { results := [.lit (.bool false)], args := [d1, d2, d3, d4, d5, d6, d7, d8, d9] }
  | _ => none }
def MutexStepsWrongFalsely : Prop := mutexStepsRow.holds Try.pinned (OpenSpec.ofChange mutexStepsWrong)

/-- 'stilemanlaw12.MutexPlay': WHATEVER THE INPUT: true; the input reads as it did. -/
def mutexPlaySpec : ChangeSpec := { name := "mutexPlay", fn := fun _ => fun
  | [d1, d2, d3] => { results := [.lit (.bool true)], args := [d1, d2, d3] }
  | _ => none }
def mutexPlayRow : OpenClaim := { program := "ytlndihdlodempaa", sum := "5c35403e8703bb89ef0ef46bf520ad0477e45239a8cadeec49600d2cd3a29be4", func := "stileman/stilemanlaw12.MutexPlay", spec := "mutexPlay", unfollowed := true, recurses := true, apart := false }
def MutexPlaySaid : Prop := mutexPlayRow.holds Try.pinned (OpenSpec.ofChange mutexPlaySpec)

/-- ITS FALSE NEIGHBOUR: 'it returns false'. Refute it at one input. -/
def mutexPlayWrong : ChangeSpec := { name := "mutexPlay", fn := fun _ => fun
  | [d1, d2, d3] => { results := [.lit (.bool false)], args := [d1, d2, d3] }
  | _ => none }
def MutexPlayWrongFalsely : Prop := mutexPlayRow.holds Try.pinned (OpenSpec.ofChange mutexPlayWrong)

/-- 'stilemanlaw12.MutexFair': WHATEVER THE INPUT: true; the input reads as it did. -/
def mutexFairSpec : ChangeSpec := { name := "mutexFair", fn := fun _ => fun
  | [d1, d2, d3] => { results := [.lit (.bool true)], args := [d1, d2, d3] }
  | _ => none }
def mutexFairRow : OpenClaim := { program := "ytlndihdlodempaa", sum := "5c35403e8703bb89ef0ef46bf520ad0477e45239a8cadeec49600d2cd3a29be4", func := "stileman/stilemanlaw12.MutexFair", spec := "mutexFair", unfollowed := true, recurses := true, apart := false }
def MutexFairSaid : Prop := mutexFairRow.holds Try.pinned (OpenSpec.ofChange mutexFairSpec)

/-- ITS FALSE NEIGHBOUR: 'it returns false'. Refute it at one input. -/
def mutexFairWrong : ChangeSpec := { name := "mutexFair", fn := fun _ => fun
  | [d1, d2, d3] => { results := [.lit (.bool false)], args := [d1, d2, d3] }
  | _ => none }
def MutexFairWrongFalsely : Prop := mutexFairRow.holds Try.pinned (OpenSpec.ofChange mutexFairWrong)

/-- 'stilemanlaw15.RfSteps': WHATEVER THE INPUT: true; the input reads as it did. -/
def rfStepsSpec : ChangeSpec := { name := "rfSteps", fn := fun _ => fun
  | [d1, d2, d3, d4, d5] => { results := [.lit (.bool true)], args := [d1, d2, d3, d4, d5] }
  | _ => none }
def rfStepsRow : OpenClaim := { program := "ytlndihdlodempaa", sum := "5c35403e8703bb89ef0ef46bf520ad0477e45239a8cadeec49600d2cd3a29be4", func := "stileman/stilemanlaw15.RfSteps", spec := "rfSteps", unfollowed := true, recurses := true, apart := false }
def RfStepsSaid : Prop := rfStepsRow.holds Try.pinned (OpenSpec.ofChange rfStepsSpec)

/-- ITS FALSE NEIGHBOUR: 'it returns false'. Refute it at one input. -/
def rfStepsWrong : ChangeSpec := { name := "rfSteps", fn := fun _ => fun
  | [d1, d2, d3, d4, d5] => { results := [.lit (.bool false)], args := [d1, d2, d3, d4, d5] }
  | _ => none }
def RfStepsWrongFalsely : Prop := rfStepsRow.holds Try.pinned (OpenSpec.ofChange rfStepsWrong)

/-- 'stilemanlaw10.TfSteps': WHATEVER THE INPUT: true; the input reads as it did. -/
def tfStepsSpec : ChangeSpec := { name := "tfSteps", fn := fun _ => fun
  | [d1, d2, d3, d4, d5] => { results := [.lit (.bool true)], args := [d1, d2, d3, d4, d5] }
  | _ => none }
def tfStepsRow : OpenClaim := { program := "ytlndihdlodempaa", sum := "5c35403e8703bb89ef0ef46bf520ad0477e45239a8cadeec49600d2cd3a29be4", func := "stileman/stilemanlaw10.TfSteps", spec := "tfSteps", unfollowed := true, recurses := true, apart := false }
def TfStepsSaid : Prop := tfStepsRow.holds Try.pinned (OpenSpec.ofChange tfStepsSpec)

/-- ITS FALSE NEIGHBOUR: 'it returns false'. Refute it at one input. -/
def tfStepsWrong : ChangeSpec := { name := "tfSteps", fn := fun _ => fun
  | [d1, d2, d3, d4, d5] => { results := [.lit (.bool false)], args := [d1, d2, d3, d4, d5] }
  | _ => none }
def TfStepsWrongFalsely : Prop := tfStepsRow.holds Try.pinned (OpenSpec.ofChange tfStepsWrong)

/-- 'stilemanlaw16.WfSteps': WHATEVER THE INPUT: true; the input reads as it did. -/
def wfStepsSpec : ChangeSpec := { name := "wfSteps", fn := fun _ => fun
  | [d1, d2, d3, d4, d5] => { results := [.lit (.bool true)], args := [d1, d2, d3, d4, d5] }
  | _ => none }
def wfStepsRow : OpenClaim := { program := "ytlndihdlodempaa", sum := "5c35403e8703bb89ef0ef46bf520ad0477e45239a8cadeec49600d2cd3a29be4", func := "stileman/stilemanlaw16.WfSteps", spec := "wfSteps", unfollowed := true, recurses := true, apart := false }
def WfStepsSaid : Prop := wfStepsRow.holds Try.pinned (OpenSpec.ofChange wfStepsSpec)

/-- ITS FALSE NEIGHBOUR: 'it returns false'. Refute it at one input. -/
def wfStepsWrong : ChangeSpec := { name := "wfSteps", fn := fun _ => fun
  | [d1, d2, d3, d4, d5] => { results := [.lit (.bool false)], args := [d1, d2, d3, d4, d5] }
  | _ => none }
def WfStepsWrongFalsely : Prop := wfStepsRow.holds Try.pinned (OpenSpec.ofChange wfStepsWrong)

/-- 'stilemanlaw13.FqSteps': WHATEVER THE INPUT: true; the input reads as it did. -/
def fqStepsSpec : ChangeSpec := { name := "fqSteps", fn := fun _ => fun
  | [d1, d2, d3, d4, d5] => { results := [.lit (.bool true)], args := [d1, d2, d3, d4, d5] }
  | _ => none }
def fqStepsRow : OpenClaim := { program := "ytlndihdlodempaa", sum := "5c35403e8703bb89ef0ef46bf520ad0477e45239a8cadeec49600d2cd3a29be4", func := "stileman/stilemanlaw13.FqSteps", spec := "fqSteps", unfollowed := true, recurses := true, apart := false }
def FqStepsSaid : Prop := fqStepsRow.holds Try.pinned (OpenSpec.ofChange fqStepsSpec)

/-- ITS FALSE NEIGHBOUR: 'it returns false'. Refute it at one input. -/
def fqStepsWrong : ChangeSpec := { name := "fqSteps", fn := fun _ => fun
  | [d1, d2, d3, d4, d5] => { results := [.lit (.bool false)], args := [d1, d2, d3, d4, d5] }
  | _ => none }
def FqStepsWrongFalsely : Prop := fqStepsRow.holds Try.pinned (OpenSpec.ofChange fqStepsWrong)

/- THE SECOND FORM. 'bulk': how many values and letters a reading holds, each counted each time it is reached (what is shared counts as often as it is met; a slice's spare places count too). A statement '..UptoSaid' is the law's where the arguments, and the package variables that the reading takes, are together of bulk at most 1048576: NARROWER than '..Said'. Prove '..Said' where nothing that the law and all that it calls make is longer than what came in: it says more and counts as full. Else prove '..UptoSaid'. A law counts once. -/
mutual
def uptoBulk {H : Type} : DataW H → Nat
  | .lit (.string bytes) => bytes.length + 1
  | .lit _ => 1
  | .nil => 1
  | .ptr d => uptoBulk d + 1
  | .slice elems spare => uptoBulkAll elems + uptoBulkAll spare + 1
  | .agg parts => uptoBulkAll parts + 1
  | .iface _ d => uptoBulk d + 1
  | .map entries => uptoBulkEntries entries + 1
  | .held _ => 1
def uptoBulkAll {H : Type} : List (DataW H) → Nat
  | [] => 0
  | d :: r => uptoBulk d + uptoBulkAll r
def uptoBulkEntries {H : Type} : List (Lit × DataW H) → Nat
  | [] => 0
  | x :: r => uptoBulkEntry x + uptoBulkEntries r
def uptoBulkEntry {H : Type} : Lit × DataW H → Nat
  | (.string bytes, d) => bytes.length + uptoBulk d + 1
  | (_, d) => uptoBulk d + 1
 end
def uptoSmall : (H : Type) → List (DataW H) → Bool := fun _ ds => decide (uptoBulkAll ds ≤ 1048576)
def OpenSpec.upto (s : _root_.Go.ChangeSpec) : _root_.Go.OpenSpec := { _root_.Go.OpenSpec.ofChange s with cond := some uptoSmall }

/-- 'stilemanlaw09.LineSteps', WHERE WHAT IT READS IS OF BULK AT MOST 1048576: true; the input reads as it did. -/
def lineStepsUptoRow : OpenClaim := { program := "ytlndihdlodempaa", sum := "5c35403e8703bb89ef0ef46bf520ad0477e45239a8cadeec49600d2cd3a29be4", func := "stileman/stilemanlaw09.LineSteps", spec := "lineSteps", unfollowed := true, recurses := true, apart := false, narrowed := true }
def LineStepsUptoSaid : Prop := lineStepsUptoRow.holds Try.pinned (OpenSpec.upto lineStepsSpec)

/-- 'stilemanlaw12.MutexSteps', WHERE WHAT IT READS IS OF BULK AT MOST 1048576: true; the input reads as it did. -/
def mutexStepsUptoRow : OpenClaim := { program := "ytlndihdlodempaa", sum := "5c35403e8703bb89ef0ef46bf520ad0477e45239a8cadeec49600d2cd3a29be4", func := "stileman/stilemanlaw12.MutexSteps", spec := "mutexSteps", unfollowed := true, recurses := true, apart := false, narrowed := true }
def MutexStepsUptoSaid : Prop := mutexStepsUptoRow.holds Try.pinned (OpenSpec.upto mutexStepsSpec)

/-- 'stilemanlaw12.MutexPlay', WHERE WHAT IT READS IS OF BULK AT MOST 1048576: true; the input reads as it did. -/
def mutexPlayUptoRow : OpenClaim := { program := "ytlndihdlodempaa", sum := "5c35403e8703bb89ef0ef46bf520ad0477e45239a8cadeec49600d2cd3a29be4", func := "stileman/stilemanlaw12.MutexPlay", spec := "mutexPlay", unfollowed := true, recurses := true, apart := false, narrowed := true }
def MutexPlayUptoSaid : Prop := mutexPlayUptoRow.holds Try.pinned (OpenSpec.upto mutexPlaySpec)

/-- 'stilemanlaw12.MutexFair', WHERE WHAT IT READS IS OF BULK AT MOST 1048576: true; the input reads as it did. -/
def mutexFairUptoRow : OpenClaim := { program := "ytlndihdlodempaa", sum := "5c35403e8703bb89ef0ef46bf520ad0477e45239a8cadeec49600d2cd3a29be4", func := "stileman/stilemanlaw12.MutexFair", spec := "mutexFair", unfollowed := true, recurses := true, apart := false, narrowed := true }
def MutexFairUptoSaid : Prop := mutexFairUptoRow.holds Try.pinned (OpenSpec.upto mutexFairSpec)

/-- 'stilemanlaw15.RfSteps', WHERE WHAT IT READS IS OF BULK AT MOST 1048576: true; the input reads as it did. -/
def rfStepsUptoRow : OpenClaim := { program := "ytlndihdlodempaa", sum := "5c35403e8703bb89ef0ef46bf520ad0477e45239a8cadeec49600d2cd3a29be4", func := "stileman/stilemanlaw15.RfSteps", spec := "rfSteps", unfollowed := true, recurses := true, apart := false, narrowed := true }
def RfStepsUptoSaid : Prop := rfStepsUptoRow.holds Try.pinned (OpenSpec.upto rfStepsSpec)

/-- 'stilemanlaw10.TfSteps', WHERE WHAT IT READS IS OF BULK AT MOST 1048576: true; the input reads as it did. -/
def tfStepsUptoRow : OpenClaim := { program := "ytlndihdlodempaa", sum := "5c35403e8703bb89ef0ef46bf520ad0477e45239a8cadeec49600d2cd3a29be4", func := "stileman/stilemanlaw10.TfSteps", spec := "tfSteps", unfollowed := true, recurses := true, apart := false, narrowed := true }
def TfStepsUptoSaid : Prop := tfStepsUptoRow.holds Try.pinned (OpenSpec.upto tfStepsSpec)

/-- 'stilemanlaw16.WfSteps', WHERE WHAT IT READS IS OF BULK AT MOST 1048576: true; the input reads as it did. -/
def wfStepsUptoRow : OpenClaim := { program := "ytlndihdlodempaa", sum := "5c35403e8703bb89ef0ef46bf520ad0477e45239a8cadeec49600d2cd3a29be4", func := "stileman/stilemanlaw16.WfSteps", spec := "wfSteps", unfollowed := true, recurses := true, apart := false, narrowed := true }
def WfStepsUptoSaid : Prop := wfStepsUptoRow.holds Try.pinned (OpenSpec.upto wfStepsSpec)

/-- 'stilemanlaw13.FqSteps', WHERE WHAT IT READS IS OF BULK AT MOST 1048576: true; the input reads as it did. -/
def fqStepsUptoRow : OpenClaim := { program := "ytlndihdlodempaa", sum := "5c35403e8703bb89ef0ef46bf520ad0477e45239a8cadeec49600d2cd3a29be4", func := "stileman/stilemanlaw13.FqSteps", spec := "fqSteps", unfollowed := true, recurses := true, apart := false, narrowed := true }
def FqStepsUptoSaid : Prop := fqStepsUptoRow.holds Try.pinned (OpenSpec.upto fqStepsSpec)

end Rows
end Go.Proofs.Ytlndihdlodempaa
