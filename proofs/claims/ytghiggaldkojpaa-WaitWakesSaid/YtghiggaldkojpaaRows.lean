/-
  No cell of these rows narrows 'for every input' (looked for: loops, veiled, ifaces, maps, wideKeys, modest, calm, conditions, laid).
  DERIVED. THE GIVEN ROWS OF THIS SEAT. 13 by the template 'for every input the law returns true; each argument reads behind the call as it read before'; 0 by the template 'total and deterministic' (their statements: YtghiggaldkojpaaTotals.lean).
  GIVEN WITH THE SEED: the statements are not yours to turn. If you find one false, say at which input.
  Laid BY PROGRAM, IN A SANDBOX (cutbox-rows.mjs): the forced cells as the released guide's own fill.sh prints them over the translation d10741c8edde7ce4… (all of the seat's roots in one cut). By AI agents, Wed Nov 11 2026. No macro, syntax, notation, axiom, sorry.
-/
import Derived.Test.YtghiggaldkojpaaChecked
import GoSem.Claim
import GoSem.ClaimJoined
import GoSem.ClaimMapViews
import Derived.JoinedTies
import Derived.KernelRfl
namespace Go.Proofs.Ytghiggaldkojpaa
/- THE CELL 'sum', in the pinned program and in every row, IS THE sha256 OF THE DUMP (.gsa) THAT YtghiggaldkojpaaProg.lean LOADS. Nothing in Lean hashes anything: it is a label: what it is worth is what the hold of that sum in a sandbox is worth. -/
noncomputable def Try.pinned : Pinned := { name := "ytghiggaldkojpaa", sum := "d10741c8edde7ce4e51d84a9aac678e59efc1f93a34b31ff741c7830440b681a", checked := Try.checked }
namespace Rows
def none {H : Type} : Left H := { results := [], args := [] }

/-- 'stilemanlaw07.WaitAccess': WHATEVER THE INPUT: true; the input reads as it did. -/
def waitAccessSpec : ChangeSpec := { name := "waitAccess", fn := fun _ => fun
  | [d1, d2, d3, d4, d5, d6, d7] => { results := [.lit (.bool true)], args := [d1, d2, d3, d4, d5, d6, d7] }
  | _ => none }
def waitAccessRow : OpenClaim := { program := "ytghiggaldkojpaa", sum := "d10741c8edde7ce4e51d84a9aac678e59efc1f93a34b31ff741c7830440b681a", func := "stileman/stilemanlaw07.WaitAccess", spec := "waitAccess", unfollowed := true, recurses := true, apart := false }
def WaitAccessSaid : Prop := waitAccessRow.holds Try.pinned (OpenSpec.ofChange waitAccessSpec)

/-- ITS FALSE NEIGHBOUR: 'it returns false'. Refute it at one input. -/
def waitAccessWrong : ChangeSpec := { name := "waitAccess", fn := fun _ => fun
  | [d1, d2, d3, d4, d5, d6, d7] => { results := [.lit (.bool false)], args := [d1, d2, d3, d4, d5, d6, d7] }
  | _ => none }
def WaitAccessWrongFalsely : Prop := waitAccessRow.holds Try.pinned (OpenSpec.ofChange waitAccessWrong)

/-- 'stilemanlaw07.WaitSteps': WHATEVER THE INPUT: true; the input reads as it did. -/
def waitStepsSpec : ChangeSpec := { name := "waitSteps", fn := fun _ => fun
  | [d1, d2, d3, d4, d5, d6, d7] => { results := [.lit (.bool true)], args := [d1, d2, d3, d4, d5, d6, d7] }
  | _ => none }
def waitStepsRow : OpenClaim := { program := "ytghiggaldkojpaa", sum := "d10741c8edde7ce4e51d84a9aac678e59efc1f93a34b31ff741c7830440b681a", func := "stileman/stilemanlaw07.WaitSteps", spec := "waitSteps", unfollowed := true, recurses := true, apart := false }
def WaitStepsSaid : Prop := waitStepsRow.holds Try.pinned (OpenSpec.ofChange waitStepsSpec)

/-- ITS FALSE NEIGHBOUR: 'it returns false'. Refute it at one input. -/
def waitStepsWrong : ChangeSpec := { name := "waitSteps", fn := fun _ => fun
  | [d1, d2, d3, d4, d5, d6, d7] => { results := [.lit (.bool false)], args := [d1, d2, d3, d4, d5, d6, d7] }
  | _ => none }
def WaitStepsWrongFalsely : Prop := waitStepsRow.holds Try.pinned (OpenSpec.ofChange waitStepsWrong)

/-- 'stilemanlaw06.ParkPlays': WHATEVER THE INPUT: true; the input reads as it did. -/
def parkPlaysSpec : ChangeSpec := { name := "parkPlays", fn := fun _ => fun
  | [d1, d2, d3] => { results := [.lit (.bool true)], args := [d1, d2, d3] }
  | _ => none }
def parkPlaysRow : OpenClaim := { program := "ytghiggaldkojpaa", sum := "d10741c8edde7ce4e51d84a9aac678e59efc1f93a34b31ff741c7830440b681a", func := "stileman/stilemanlaw06.ParkPlays", spec := "parkPlays", unfollowed := true, recurses := true, apart := false }
def ParkPlaysSaid : Prop := parkPlaysRow.holds Try.pinned (OpenSpec.ofChange parkPlaysSpec)

/-- ITS FALSE NEIGHBOUR: 'it returns false'. Refute it at one input. -/
def parkPlaysWrong : ChangeSpec := { name := "parkPlays", fn := fun _ => fun
  | [d1, d2, d3] => { results := [.lit (.bool false)], args := [d1, d2, d3] }
  | _ => none }
def ParkPlaysWrongFalsely : Prop := parkPlaysRow.holds Try.pinned (OpenSpec.ofChange parkPlaysWrong)

/-- 'stilemanlaw06.ParkOnce': WHATEVER THE INPUT: true; the input reads as it did. -/
def parkOnceSpec : ChangeSpec := { name := "parkOnce", fn := fun _ => fun
  | [d1, d2, d3, d4] => { results := [.lit (.bool true)], args := [d1, d2, d3, d4] }
  | _ => none }
def parkOnceRow : OpenClaim := { program := "ytghiggaldkojpaa", sum := "d10741c8edde7ce4e51d84a9aac678e59efc1f93a34b31ff741c7830440b681a", func := "stileman/stilemanlaw06.ParkOnce", spec := "parkOnce", unfollowed := true, recurses := true, apart := false }
def ParkOnceSaid : Prop := parkOnceRow.holds Try.pinned (OpenSpec.ofChange parkOnceSpec)

/-- ITS FALSE NEIGHBOUR: 'it returns false'. Refute it at one input. -/
def parkOnceWrong : ChangeSpec := { name := "parkOnce", fn := fun _ => fun
  | [d1, d2, d3, d4] => { results := [.lit (.bool false)], args := [d1, d2, d3, d4] }
  | _ => none }
def ParkOnceWrongFalsely : Prop := parkOnceRow.holds Try.pinned (OpenSpec.ofChange parkOnceWrong)

/-- 'stilemanlaw06.ParkNone': WHATEVER THE INPUT: true; the input reads as it did. -/
def parkNoneSpec : ChangeSpec := { name := "parkNone", fn := fun _ => fun
  | [d1, d2] => { results := [.lit (.bool true)], args := [d1, d2] }
  | _ => none }
def parkNoneRow : OpenClaim := { program := "ytghiggaldkojpaa", sum := "d10741c8edde7ce4e51d84a9aac678e59efc1f93a34b31ff741c7830440b681a", func := "stileman/stilemanlaw06.ParkNone", spec := "parkNone", unfollowed := true, recurses := true, apart := false }
def ParkNoneSaid : Prop := parkNoneRow.holds Try.pinned (OpenSpec.ofChange parkNoneSpec)

/-- ITS FALSE NEIGHBOUR: 'it returns false'. Refute it at one input. -/
def parkNoneWrong : ChangeSpec := { name := "parkNone", fn := fun _ => fun
  | [d1, d2] => { results := [.lit (.bool false)], args := [d1, d2] }
  | _ => none }
def ParkNoneWrongFalsely : Prop := parkNoneRow.holds Try.pinned (OpenSpec.ofChange parkNoneWrong)

/-- 'stilemanlaw08.WakeSteps': WHATEVER THE INPUT: true; the input reads as it did. -/
def wakeStepsSpec : ChangeSpec := { name := "wakeSteps", fn := fun _ => fun
  | [d1, d2, d3, d4] => { results := [.lit (.bool true)], args := [d1, d2, d3, d4] }
  | _ => none }
def wakeStepsRow : OpenClaim := { program := "ytghiggaldkojpaa", sum := "d10741c8edde7ce4e51d84a9aac678e59efc1f93a34b31ff741c7830440b681a", func := "stileman/stilemanlaw08.WakeSteps", spec := "wakeSteps", unfollowed := true, recurses := true, apart := false }
def WakeStepsSaid : Prop := wakeStepsRow.holds Try.pinned (OpenSpec.ofChange wakeStepsSpec)

/-- ITS FALSE NEIGHBOUR: 'it returns false'. Refute it at one input. -/
def wakeStepsWrong : ChangeSpec := { name := "wakeSteps", fn := fun _ => fun
  | [d1, d2, d3, d4] => { results := [.lit (.bool false)], args := [d1, d2, d3, d4] }
  | _ => none }
def WakeStepsWrongFalsely : Prop := wakeStepsRow.holds Try.pinned (OpenSpec.ofChange wakeStepsWrong)

/-- 'stilemanlaw08.WakeAll': WHATEVER THE INPUT: true; the input reads as it did. -/
def wakeAllSpec : ChangeSpec := { name := "wakeAll", fn := fun _ => fun
  | [d1, d2, d3] => { results := [.lit (.bool true)], args := [d1, d2, d3] }
  | _ => none }
def wakeAllRow : OpenClaim := { program := "ytghiggaldkojpaa", sum := "d10741c8edde7ce4e51d84a9aac678e59efc1f93a34b31ff741c7830440b681a", func := "stileman/stilemanlaw08.WakeAll", spec := "wakeAll", unfollowed := true, recurses := true, apart := false }
def WakeAllSaid : Prop := wakeAllRow.holds Try.pinned (OpenSpec.ofChange wakeAllSpec)

/-- ITS FALSE NEIGHBOUR: 'it returns false'. Refute it at one input. -/
def wakeAllWrong : ChangeSpec := { name := "wakeAll", fn := fun _ => fun
  | [d1, d2, d3] => { results := [.lit (.bool false)], args := [d1, d2, d3] }
  | _ => none }
def WakeAllWrongFalsely : Prop := wakeAllRow.holds Try.pinned (OpenSpec.ofChange wakeAllWrong)

/-- 'stilemanlaw07.WaitWakes': WHATEVER THE INPUT: true; the input reads as it did. -/
def waitWakesSpec : ChangeSpec := { name := "waitWakes", fn := fun _ => fun
  | [d1, d2] => { results := [.lit (.bool true)], args := [d1, d2] }
  | _ => none }
def waitWakesRow : OpenClaim := { program := "ytghiggaldkojpaa", sum := "d10741c8edde7ce4e51d84a9aac678e59efc1f93a34b31ff741c7830440b681a", func := "stileman/stilemanlaw07.WaitWakes", spec := "waitWakes", unfollowed := true, recurses := true, apart := false }
def WaitWakesSaid : Prop := waitWakesRow.holds Try.pinned (OpenSpec.ofChange waitWakesSpec)

/-- ITS FALSE NEIGHBOUR: 'it returns false'. Refute it at one input. -/
def waitWakesWrong : ChangeSpec := { name := "waitWakes", fn := fun _ => fun
  | [d1, d2] => { results := [.lit (.bool false)], args := [d1, d2] }
  | _ => none }
def WaitWakesWrongFalsely : Prop := waitWakesRow.holds Try.pinned (OpenSpec.ofChange waitWakesWrong)

/-- 'stilemanlaw09.LineNone': WHATEVER THE INPUT: true; the input reads as it did. -/
def lineNoneSpec : ChangeSpec := { name := "lineNone", fn := fun _ => fun
  | [d1, d2, d3, d4] => { results := [.lit (.bool true)], args := [d1, d2, d3, d4] }
  | _ => none }
def lineNoneRow : OpenClaim := { program := "ytghiggaldkojpaa", sum := "d10741c8edde7ce4e51d84a9aac678e59efc1f93a34b31ff741c7830440b681a", func := "stileman/stilemanlaw09.LineNone", spec := "lineNone", unfollowed := true, recurses := true, apart := false }
def LineNoneSaid : Prop := lineNoneRow.holds Try.pinned (OpenSpec.ofChange lineNoneSpec)

/-- ITS FALSE NEIGHBOUR: 'it returns false'. Refute it at one input. -/
def lineNoneWrong : ChangeSpec := { name := "lineNone", fn := fun _ => fun
  | [d1, d2, d3, d4] => { results := [.lit (.bool false)], args := [d1, d2, d3, d4] }
  | _ => none }
def LineNoneWrongFalsely : Prop := lineNoneRow.holds Try.pinned (OpenSpec.ofChange lineNoneWrong)

/-- 'stilemanlaw09.LineSteps': WHATEVER THE INPUT: true; the input reads as it did. -/
def lineStepsSpec : ChangeSpec := { name := "lineSteps", fn := fun _ => fun
  | [d1, d2, d3, d4, d5, d6] => { results := [.lit (.bool true)], args := [d1, d2, d3, d4, d5, d6] }
  | _ => none }
def lineStepsRow : OpenClaim := { program := "ytghiggaldkojpaa", sum := "d10741c8edde7ce4e51d84a9aac678e59efc1f93a34b31ff741c7830440b681a", func := "stileman/stilemanlaw09.LineSteps", spec := "lineSteps", unfollowed := true, recurses := true, apart := false }
def LineStepsSaid : Prop := lineStepsRow.holds Try.pinned (OpenSpec.ofChange lineStepsSpec)

/-- ITS FALSE NEIGHBOUR: 'it returns false'. Refute it at one input. -/
def lineStepsWrong : ChangeSpec := { name := "lineSteps", fn := fun _ => fun
  | [d1, d2, d3, d4, d5, d6] => { results := [.lit (.bool false)], args := [d1, d2, d3, d4, d5, d6] }
  | _ => none }
def LineStepsWrongFalsely : Prop := lineStepsRow.holds Try.pinned (OpenSpec.ofChange lineStepsWrong)

/-- 'stilemanlaw12.MutexSteps': WHATEVER THE INPUT: true; the input reads as it did. -/
def mutexStepsSpec : ChangeSpec := { name := "mutexSteps", fn := fun _ => fun
  | [d1, d2, d3, d4, d5, d6, d7, d8, d9] => { results := [.lit (.bool true)], args := [d1, d2, d3, d4, d5, d6, d7, d8, d9] }
  | _ => none }
def mutexStepsRow : OpenClaim := { program := "ytghiggaldkojpaa", sum := "d10741c8edde7ce4e51d84a9aac678e59efc1f93a34b31ff741c7830440b681a", func := "stileman/stilemanlaw12.MutexSteps", spec := "mutexSteps", unfollowed := true, recurses := true, apart := false }
def MutexStepsSaid : Prop := mutexStepsRow.holds Try.pinned (OpenSpec.ofChange mutexStepsSpec)

/-- ITS FALSE NEIGHBOUR: 'it returns false'. Refute it at one input. -/
def mutexStepsWrong : ChangeSpec := { name := "mutexSteps", fn := fun _ => fun
  | [d1, d2, d3, d4, d5, d6, d7, d8, d9] => { results := [.lit (.bool false)], args := [d1, d2, d3, d4, d5, d6, d7, d8, d9] }
  | _ => none }
def MutexStepsWrongFalsely : Prop := mutexStepsRow.holds Try.pinned (OpenSpec.ofChange mutexStepsWrong)

/-- 'stilemanlaw12.MutexPlay': WHATEVER THE INPUT: true; the input reads as it did. -/
def mutexPlaySpec : ChangeSpec := { name := "mutexPlay", fn := fun _ => fun
  | [d1, d2, d3] => { results := [.lit (.bool true)], args := [d1, d2, d3] }
  | _ => none }
def mutexPlayRow : OpenClaim := { program := "ytghiggaldkojpaa", sum := "d10741c8edde7ce4e51d84a9aac678e59efc1f93a34b31ff741c7830440b681a", func := "stileman/stilemanlaw12.MutexPlay", spec := "mutexPlay", unfollowed := true, recurses := true, apart := false }
def MutexPlaySaid : Prop := mutexPlayRow.holds Try.pinned (OpenSpec.ofChange mutexPlaySpec)

/-- ITS FALSE NEIGHBOUR: 'it returns false'. Refute it at one input. -/
def mutexPlayWrong : ChangeSpec := { name := "mutexPlay", fn := fun _ => fun
  | [d1, d2, d3] => { results := [.lit (.bool false)], args := [d1, d2, d3] }
  | _ => none }
def MutexPlayWrongFalsely : Prop := mutexPlayRow.holds Try.pinned (OpenSpec.ofChange mutexPlayWrong)

/-- 'stilemanlaw12.MutexFair': WHATEVER THE INPUT: true; the input reads as it did. -/
def mutexFairSpec : ChangeSpec := { name := "mutexFair", fn := fun _ => fun
  | [d1, d2, d3] => { results := [.lit (.bool true)], args := [d1, d2, d3] }
  | _ => none }
def mutexFairRow : OpenClaim := { program := "ytghiggaldkojpaa", sum := "d10741c8edde7ce4e51d84a9aac678e59efc1f93a34b31ff741c7830440b681a", func := "stileman/stilemanlaw12.MutexFair", spec := "mutexFair", unfollowed := true, recurses := true, apart := false }
def MutexFairSaid : Prop := mutexFairRow.holds Try.pinned (OpenSpec.ofChange mutexFairSpec)

/-- ITS FALSE NEIGHBOUR: 'it returns false'. Refute it at one input. -/
def mutexFairWrong : ChangeSpec := { name := "mutexFair", fn := fun _ => fun
  | [d1, d2, d3] => { results := [.lit (.bool false)], args := [d1, d2, d3] }
  | _ => none }
def MutexFairWrongFalsely : Prop := mutexFairRow.holds Try.pinned (OpenSpec.ofChange mutexFairWrong)

/- THE SECOND FORM. 'bulk': how many values and letters a reading holds, each counted each time it is reached (what is shared counts as often as it is met; a slice's spare places count too). A statement '..UptoSaid' is the law's where the arguments, and the package variables that the reading takes, are together of bulk at most 1048576: NARROWER than '..Said'. Prove '..Said' where nothing that the law and all that it calls make is longer than what came in: it says more and counts as full. Else prove '..UptoSaid'. A law counts once. -/
mutual
def uptoBulk {H : Type} : DataW H → Nat
  | .lit (.string bytes) => bytes.length + 1
  | .lit _ => 1
  | .nil => 1
  | .ptr d => uptoBulk d + 1
  | .slice elems spare => uptoBulkAll elems + uptoBulkAll spare + 1
  | .agg parts => uptoBulkAll parts + 1
  | .iface _ d => uptoBulk d + 1
  | .map entries => uptoBulkEntries entries + 1
  | .held _ => 1
def uptoBulkAll {H : Type} : List (DataW H) → Nat
  | [] => 0
  | d :: r => uptoBulk d + uptoBulkAll r
def uptoBulkEntries {H : Type} : List (Lit × DataW H) → Nat
  | [] => 0
  | x :: r => uptoBulkEntry x + uptoBulkEntries r
def uptoBulkEntry {H : Type} : Lit × DataW H → Nat
  | (.string bytes, d) => bytes.length + uptoBulk d + 1
  | (_, d) => uptoBulk d + 1
 end
def uptoSmall : (H : Type) → List (DataW H) → Bool := fun _ ds => decide (uptoBulkAll ds ≤ 1048576)
def OpenSpec.upto (s : _root_.Go.ChangeSpec) : _root_.Go.OpenSpec := { _root_.Go.OpenSpec.ofChange s with cond := some uptoSmall }

/-- 'stilemanlaw07.WaitAccess', WHERE WHAT IT READS IS OF BULK AT MOST 1048576: true; the input reads as it did. -/
def waitAccessUptoRow : OpenClaim := { program := "ytghiggaldkojpaa", sum := "d10741c8edde7ce4e51d84a9aac678e59efc1f93a34b31ff741c7830440b681a", func := "stileman/stilemanlaw07.WaitAccess", spec := "waitAccess", unfollowed := true, recurses := true, apart := false, narrowed := true }
def WaitAccessUptoSaid : Prop := waitAccessUptoRow.holds Try.pinned (OpenSpec.upto waitAccessSpec)

/-- 'stilemanlaw07.WaitSteps', WHERE WHAT IT READS IS OF BULK AT MOST 1048576: true; the input reads as it did. -/
def waitStepsUptoRow : OpenClaim := { program := "ytghiggaldkojpaa", sum := "d10741c8edde7ce4e51d84a9aac678e59efc1f93a34b31ff741c7830440b681a", func := "stileman/stilemanlaw07.WaitSteps", spec := "waitSteps", unfollowed := true, recurses := true, apart := false, narrowed := true }
def WaitStepsUptoSaid : Prop := waitStepsUptoRow.holds Try.pinned (OpenSpec.upto waitStepsSpec)

/-- 'stilemanlaw06.ParkPlays', WHERE WHAT IT READS IS OF BULK AT MOST 1048576: true; the input reads as it did. -/
def parkPlaysUptoRow : OpenClaim := { program := "ytghiggaldkojpaa", sum := "d10741c8edde7ce4e51d84a9aac678e59efc1f93a34b31ff741c7830440b681a", func := "stileman/stilemanlaw06.ParkPlays", spec := "parkPlays", unfollowed := true, recurses := true, apart := false, narrowed := true }
def ParkPlaysUptoSaid : Prop := parkPlaysUptoRow.holds Try.pinned (OpenSpec.upto parkPlaysSpec)

/-- 'stilemanlaw06.ParkOnce', WHERE WHAT IT READS IS OF BULK AT MOST 1048576: true; the input reads as it did. -/
def parkOnceUptoRow : OpenClaim := { program := "ytghiggaldkojpaa", sum := "d10741c8edde7ce4e51d84a9aac678e59efc1f93a34b31ff741c7830440b681a", func := "stileman/stilemanlaw06.ParkOnce", spec := "parkOnce", unfollowed := true, recurses := true, apart := false, narrowed := true }
def ParkOnceUptoSaid : Prop := parkOnceUptoRow.holds Try.pinned (OpenSpec.upto parkOnceSpec)

/-- 'stilemanlaw06.ParkNone', WHERE WHAT IT READS IS OF BULK AT MOST 1048576: true; the input reads as it did. -/
def parkNoneUptoRow : OpenClaim := { program := "ytghiggaldkojpaa", sum := "d10741c8edde7ce4e51d84a9aac678e59efc1f93a34b31ff741c7830440b681a", func := "stileman/stilemanlaw06.ParkNone", spec := "parkNone", unfollowed := true, recurses := true, apart := false, narrowed := true }
def ParkNoneUptoSaid : Prop := parkNoneUptoRow.holds Try.pinned (OpenSpec.upto parkNoneSpec)

/-- 'stilemanlaw08.WakeSteps', WHERE WHAT IT READS IS OF BULK AT MOST 1048576: true; the input reads as it did. -/
def wakeStepsUptoRow : OpenClaim := { program := "ytghiggaldkojpaa", sum := "d10741c8edde7ce4e51d84a9aac678e59efc1f93a34b31ff741c7830440b681a", func := "stileman/stilemanlaw08.WakeSteps", spec := "wakeSteps", unfollowed := true, recurses := true, apart := false, narrowed := true }
def WakeStepsUptoSaid : Prop := wakeStepsUptoRow.holds Try.pinned (OpenSpec.upto wakeStepsSpec)

/-- 'stilemanlaw08.WakeAll', WHERE WHAT IT READS IS OF BULK AT MOST 1048576: true; the input reads as it did. -/
def wakeAllUptoRow : OpenClaim := { program := "ytghiggaldkojpaa", sum := "d10741c8edde7ce4e51d84a9aac678e59efc1f93a34b31ff741c7830440b681a", func := "stileman/stilemanlaw08.WakeAll", spec := "wakeAll", unfollowed := true, recurses := true, apart := false, narrowed := true }
def WakeAllUptoSaid : Prop := wakeAllUptoRow.holds Try.pinned (OpenSpec.upto wakeAllSpec)

/-- 'stilemanlaw07.WaitWakes', WHERE WHAT IT READS IS OF BULK AT MOST 1048576: true; the input reads as it did. -/
def waitWakesUptoRow : OpenClaim := { program := "ytghiggaldkojpaa", sum := "d10741c8edde7ce4e51d84a9aac678e59efc1f93a34b31ff741c7830440b681a", func := "stileman/stilemanlaw07.WaitWakes", spec := "waitWakes", unfollowed := true, recurses := true, apart := false, narrowed := true }
def WaitWakesUptoSaid : Prop := waitWakesUptoRow.holds Try.pinned (OpenSpec.upto waitWakesSpec)

/-- 'stilemanlaw09.LineNone', WHERE WHAT IT READS IS OF BULK AT MOST 1048576: true; the input reads as it did. -/
def lineNoneUptoRow : OpenClaim := { program := "ytghiggaldkojpaa", sum := "d10741c8edde7ce4e51d84a9aac678e59efc1f93a34b31ff741c7830440b681a", func := "stileman/stilemanlaw09.LineNone", spec := "lineNone", unfollowed := true, recurses := true, apart := false, narrowed := true }
def LineNoneUptoSaid : Prop := lineNoneUptoRow.holds Try.pinned (OpenSpec.upto lineNoneSpec)

/-- 'stilemanlaw09.LineSteps', WHERE WHAT IT READS IS OF BULK AT MOST 1048576: true; the input reads as it did. -/
def lineStepsUptoRow : OpenClaim := { program := "ytghiggaldkojpaa", sum := "d10741c8edde7ce4e51d84a9aac678e59efc1f93a34b31ff741c7830440b681a", func := "stileman/stilemanlaw09.LineSteps", spec := "lineSteps", unfollowed := true, recurses := true, apart := false, narrowed := true }
def LineStepsUptoSaid : Prop := lineStepsUptoRow.holds Try.pinned (OpenSpec.upto lineStepsSpec)

/-- 'stilemanlaw12.MutexSteps', WHERE WHAT IT READS IS OF BULK AT MOST 1048576: true; the input reads as it did. -/
def mutexStepsUptoRow : OpenClaim := { program := "ytghiggaldkojpaa", sum := "d10741c8edde7ce4e51d84a9aac678e59efc1f93a34b31ff741c7830440b681a", func := "stileman/stilemanlaw12.MutexSteps", spec := "mutexSteps", unfollowed := true, recurses := true, apart := false, narrowed := true }
def MutexStepsUptoSaid : Prop := mutexStepsUptoRow.holds Try.pinned (OpenSpec.upto mutexStepsSpec)

/-- 'stilemanlaw12.MutexPlay', WHERE WHAT IT READS IS OF BULK AT MOST 1048576: true; the input reads as it did. -/
def mutexPlayUptoRow : OpenClaim := { program := "ytghiggaldkojpaa", sum := "d10741c8edde7ce4e51d84a9aac678e59efc1f93a34b31ff741c7830440b681a", func := "stileman/stilemanlaw12.MutexPlay", spec := "mutexPlay", unfollowed := true, recurses := true, apart := false, narrowed := true }
def MutexPlayUptoSaid : Prop := mutexPlayUptoRow.holds Try.pinned (OpenSpec.upto mutexPlaySpec)

/-- 'stilemanlaw12.MutexFair', WHERE WHAT IT READS IS OF BULK AT MOST 1048576: true; the input reads as it did. -/
def mutexFairUptoRow : OpenClaim := { program := "ytghiggaldkojpaa", sum := "d10741c8edde7ce4e51d84a9aac678e59efc1f93a34b31ff741c7830440b681a", func := "stileman/stilemanlaw12.MutexFair", spec := "mutexFair", unfollowed := true, recurses := true, apart := false, narrowed := true }
def MutexFairUptoSaid : Prop := mutexFairUptoRow.holds Try.pinned (OpenSpec.upto mutexFairSpec)

end Rows
end Go.Proofs.Ytghiggaldkojpaa
