/-
  No cell of these rows narrows 'for every input' (looked for: loops, veiled, ifaces, maps, wideKeys, modest, calm, conditions, laid).
  DERIVED. THE GIVEN ROWS OF THIS SEAT. 9 by the template 'for every input the law returns true; each argument reads behind the call as it read before'; 0 by the template 'total and deterministic' (their statements: YtbcppehpfckgoaaTotals.lean).
  GIVEN WITH THE SEED: the statements are not yours to turn. If you find one false, say at which input.
  Laid BY PROGRAM, IN A SANDBOX (cutbox-rows.mjs): the forced cells as the released guide's own fill.sh prints them over the translation 55e9d153e0de20b1… (all of the seat's roots in one cut). By AI agents, Wed Nov 11 2026. No macro, syntax, notation, axiom, sorry.
-/
import Derived.Test.YtbcppehpfckgoaaChecked
import GoSem.Claim
import GoSem.ClaimJoined
import GoSem.ClaimMapViews
import Derived.JoinedTies
import Derived.KernelRfl
namespace Go.Proofs.Ytbcppehpfckgoaa
/- THE CELL 'sum', in the pinned program and in every row, IS THE sha256 OF THE DUMP (.gsa) THAT YtbcppehpfckgoaaProg.lean LOADS. Nothing in Lean hashes anything: it is a label: what it is worth is what the hold of that sum in a sandbox is worth. -/
noncomputable def Try.pinned : Pinned := { name := "ytbcppehpfckgoaa", sum := "55e9d153e0de20b1ea60ee103cbb74c179b58b404a1c72f27fe7cee3e84ecbbd", checked := Try.checked }
namespace Rows
def none {H : Type} : Left H := { results := [], args := [] }

/-- 'stilemanlaw13.FqAlone': WHATEVER THE INPUT: true; the input reads as it did. -/
def fqAloneSpec : ChangeSpec := { name := "fqAlone", fn := fun _ => fun
  | [d1, d2, d3] => { results := [.lit (.bool true)], args := [d1, d2, d3] }
  | _ => none }
def fqAloneRow : OpenClaim := { program := "ytbcppehpfckgoaa", sum := "55e9d153e0de20b1ea60ee103cbb74c179b58b404a1c72f27fe7cee3e84ecbbd", func := "stileman/stilemanlaw13.FqAlone", spec := "fqAlone", unfollowed := true, recurses := true, apart := false }
def FqAloneSaid : Prop := fqAloneRow.holds Try.pinned (OpenSpec.ofChange fqAloneSpec)

/-- ITS FALSE NEIGHBOUR: 'it returns false'. Refute it at one input. -/
def fqAloneWrong : ChangeSpec := { name := "fqAlone", fn := fun _ => fun
  | [d1, d2, d3] => { results := [.lit (.bool false)], args := [d1, d2, d3] }
  | _ => none }
def FqAloneWrongFalsely : Prop := fqAloneRow.holds Try.pinned (OpenSpec.ofChange fqAloneWrong)

/-- 'stilemanlaw13.FqTries': WHATEVER THE INPUT: true; the input reads as it did. -/
def fqTriesSpec : ChangeSpec := { name := "fqTries", fn := fun _ => fun
  | [d1, d2, d3] => { results := [.lit (.bool true)], args := [d1, d2, d3] }
  | _ => none }
def fqTriesRow : OpenClaim := { program := "ytbcppehpfckgoaa", sum := "55e9d153e0de20b1ea60ee103cbb74c179b58b404a1c72f27fe7cee3e84ecbbd", func := "stileman/stilemanlaw13.FqTries", spec := "fqTries", unfollowed := true, recurses := true, apart := false }
def FqTriesSaid : Prop := fqTriesRow.holds Try.pinned (OpenSpec.ofChange fqTriesSpec)

/-- ITS FALSE NEIGHBOUR: 'it returns false'. Refute it at one input. -/
def fqTriesWrong : ChangeSpec := { name := "fqTries", fn := fun _ => fun
  | [d1, d2, d3] => { results := [.lit (.bool false)], args := [d1, d2, d3] }
  | _ => none }
def FqTriesWrongFalsely : Prop := fqTriesRow.holds Try.pinned (OpenSpec.ofChange fqTriesWrong)

/-- 'stilemanlaw13.FqSteps': WHATEVER THE INPUT: true; the input reads as it did. -/
def fqStepsSpec : ChangeSpec := { name := "fqSteps", fn := fun _ => fun
  | [d1, d2, d3, d4, d5] => { results := [.lit (.bool true)], args := [d1, d2, d3, d4, d5] }
  | _ => none }
def fqStepsRow : OpenClaim := { program := "ytbcppehpfckgoaa", sum := "55e9d153e0de20b1ea60ee103cbb74c179b58b404a1c72f27fe7cee3e84ecbbd", func := "stileman/stilemanlaw13.FqSteps", spec := "fqSteps", unfollowed := true, recurses := true, apart := false }
def FqStepsSaid : Prop := fqStepsRow.holds Try.pinned (OpenSpec.ofChange fqStepsSpec)

/-- ITS FALSE NEIGHBOUR: 'it returns false'. Refute it at one input. -/
def fqStepsWrong : ChangeSpec := { name := "fqSteps", fn := fun _ => fun
  | [d1, d2, d3, d4, d5] => { results := [.lit (.bool false)], args := [d1, d2, d3, d4, d5] }
  | _ => none }
def FqStepsWrongFalsely : Prop := fqStepsRow.holds Try.pinned (OpenSpec.ofChange fqStepsWrong)

/-- 'stilemanlaw13.FqExcludes': WHATEVER THE INPUT: true; the input reads as it did. -/
def fqExcludesSpec : ChangeSpec := { name := "fqExcludes", fn := fun _ => fun
  | [d1, d2, d3, d4] => { results := [.lit (.bool true)], args := [d1, d2, d3, d4] }
  | _ => none }
def fqExcludesRow : OpenClaim := { program := "ytbcppehpfckgoaa", sum := "55e9d153e0de20b1ea60ee103cbb74c179b58b404a1c72f27fe7cee3e84ecbbd", func := "stileman/stilemanlaw13.FqExcludes", spec := "fqExcludes", unfollowed := true, recurses := true, apart := false }
def FqExcludesSaid : Prop := fqExcludesRow.holds Try.pinned (OpenSpec.ofChange fqExcludesSpec)

/-- ITS FALSE NEIGHBOUR: 'it returns false'. Refute it at one input. -/
def fqExcludesWrong : ChangeSpec := { name := "fqExcludes", fn := fun _ => fun
  | [d1, d2, d3, d4] => { results := [.lit (.bool false)], args := [d1, d2, d3, d4] }
  | _ => none }
def FqExcludesWrongFalsely : Prop := fqExcludesRow.holds Try.pinned (OpenSpec.ofChange fqExcludesWrong)

/-- 'stilemanlaw13.FqTogether': WHATEVER THE INPUT: true; the input reads as it did. -/
def fqTogetherSpec : ChangeSpec := { name := "fqTogether", fn := fun _ => fun
  | [d1, d2, d3, d4] => { results := [.lit (.bool true)], args := [d1, d2, d3, d4] }
  | _ => none }
def fqTogetherRow : OpenClaim := { program := "ytbcppehpfckgoaa", sum := "55e9d153e0de20b1ea60ee103cbb74c179b58b404a1c72f27fe7cee3e84ecbbd", func := "stileman/stilemanlaw13.FqTogether", spec := "fqTogether", unfollowed := true, recurses := true, apart := false }
def FqTogetherSaid : Prop := fqTogetherRow.holds Try.pinned (OpenSpec.ofChange fqTogetherSpec)

/-- ITS FALSE NEIGHBOUR: 'it returns false'. Refute it at one input. -/
def fqTogetherWrong : ChangeSpec := { name := "fqTogether", fn := fun _ => fun
  | [d1, d2, d3, d4] => { results := [.lit (.bool false)], args := [d1, d2, d3, d4] }
  | _ => none }
def FqTogetherWrongFalsely : Prop := fqTogetherRow.holds Try.pinned (OpenSpec.ofChange fqTogetherWrong)

/-- 'stilemanlaw14.PqAlone': WHATEVER THE INPUT: true; the input reads as it did. -/
def pqAloneSpec : ChangeSpec := { name := "pqAlone", fn := fun _ => fun
  | [d1, d2, d3] => { results := [.lit (.bool true)], args := [d1, d2, d3] }
  | _ => none }
def pqAloneRow : OpenClaim := { program := "ytbcppehpfckgoaa", sum := "55e9d153e0de20b1ea60ee103cbb74c179b58b404a1c72f27fe7cee3e84ecbbd", func := "stileman/stilemanlaw14.PqAlone", spec := "pqAlone", unfollowed := true, recurses := true, apart := false }
def PqAloneSaid : Prop := pqAloneRow.holds Try.pinned (OpenSpec.ofChange pqAloneSpec)

/-- ITS FALSE NEIGHBOUR: 'it returns false'. Refute it at one input. -/
def pqAloneWrong : ChangeSpec := { name := "pqAlone", fn := fun _ => fun
  | [d1, d2, d3] => { results := [.lit (.bool false)], args := [d1, d2, d3] }
  | _ => none }
def PqAloneWrongFalsely : Prop := pqAloneRow.holds Try.pinned (OpenSpec.ofChange pqAloneWrong)

/-- 'stilemanlaw14.PqTries': WHATEVER THE INPUT: true; the input reads as it did. -/
def pqTriesSpec : ChangeSpec := { name := "pqTries", fn := fun _ => fun
  | [d1, d2, d3] => { results := [.lit (.bool true)], args := [d1, d2, d3] }
  | _ => none }
def pqTriesRow : OpenClaim := { program := "ytbcppehpfckgoaa", sum := "55e9d153e0de20b1ea60ee103cbb74c179b58b404a1c72f27fe7cee3e84ecbbd", func := "stileman/stilemanlaw14.PqTries", spec := "pqTries", unfollowed := true, recurses := true, apart := false }
def PqTriesSaid : Prop := pqTriesRow.holds Try.pinned (OpenSpec.ofChange pqTriesSpec)

/-- ITS FALSE NEIGHBOUR: 'it returns false'. Refute it at one input. -/
def pqTriesWrong : ChangeSpec := { name := "pqTries", fn := fun _ => fun
  | [d1, d2, d3] => { results := [.lit (.bool false)], args := [d1, d2, d3] }
  | _ => none }
def PqTriesWrongFalsely : Prop := pqTriesRow.holds Try.pinned (OpenSpec.ofChange pqTriesWrong)

/-- 'stilemanlaw14.PqExcludes': WHATEVER THE INPUT: true; the input reads as it did. -/
def pqExcludesSpec : ChangeSpec := { name := "pqExcludes", fn := fun _ => fun
  | [d1, d2, d3, d4] => { results := [.lit (.bool true)], args := [d1, d2, d3, d4] }
  | _ => none }
def pqExcludesRow : OpenClaim := { program := "ytbcppehpfckgoaa", sum := "55e9d153e0de20b1ea60ee103cbb74c179b58b404a1c72f27fe7cee3e84ecbbd", func := "stileman/stilemanlaw14.PqExcludes", spec := "pqExcludes", unfollowed := true, recurses := true, apart := false }
def PqExcludesSaid : Prop := pqExcludesRow.holds Try.pinned (OpenSpec.ofChange pqExcludesSpec)

/-- ITS FALSE NEIGHBOUR: 'it returns false'. Refute it at one input. -/
def pqExcludesWrong : ChangeSpec := { name := "pqExcludes", fn := fun _ => fun
  | [d1, d2, d3, d4] => { results := [.lit (.bool false)], args := [d1, d2, d3, d4] }
  | _ => none }
def PqExcludesWrongFalsely : Prop := pqExcludesRow.holds Try.pinned (OpenSpec.ofChange pqExcludesWrong)

/-- 'stilemanlaw14.PqTogether': WHATEVER THE INPUT: true; the input reads as it did. -/
def pqTogetherSpec : ChangeSpec := { name := "pqTogether", fn := fun _ => fun
  | [d1, d2, d3, d4] => { results := [.lit (.bool true)], args := [d1, d2, d3, d4] }
  | _ => none }
def pqTogetherRow : OpenClaim := { program := "ytbcppehpfckgoaa", sum := "55e9d153e0de20b1ea60ee103cbb74c179b58b404a1c72f27fe7cee3e84ecbbd", func := "stileman/stilemanlaw14.PqTogether", spec := "pqTogether", unfollowed := true, recurses := true, apart := false }
def PqTogetherSaid : Prop := pqTogetherRow.holds Try.pinned (OpenSpec.ofChange pqTogetherSpec)

/-- ITS FALSE NEIGHBOUR: 'it returns false'. Refute it at one input. -/
def pqTogetherWrong : ChangeSpec := { name := "pqTogether", fn := fun _ => fun
  | [d1, d2, d3, d4] => { results := [.lit (.bool false)], args := [d1, d2, d3, d4] }
  | _ => none }
def PqTogetherWrongFalsely : Prop := pqTogetherRow.holds Try.pinned (OpenSpec.ofChange pqTogetherWrong)

/- THE SECOND FORM. 'bulk': how many values and letters a reading holds, each counted each time it is reached (what is shared counts as often as it is met; a slice's spare places count too). A statement '..UptoSaid' is the law's where the arguments, and the package variables that the reading takes, are together of bulk at most 1048576: NARROWER than '..Said'. Prove '..Said' where nothing that the law and all that it calls make is longer than what came in: it says more and counts as full. Else prove '..UptoSaid'. A law counts once. -/
mutual
def uptoBulk {H : Type} : DataW H → Nat
  | .lit (.string bytes) => bytes.length + 1
  | .lit _ => 1
  | .nil => 1
  | .ptr d => uptoBulk d + 1
  | .slice elems spare => uptoBulkAll elems + uptoBulkAll spare + 1
  | .agg parts => uptoBulkAll parts + 1
  | .iface _ d => uptoBulk d + 1
  | .map entries => uptoBulkEntries entries + 1
  | .held _ => 1
def uptoBulkAll {H : Type} : List (DataW H) → Nat
  | [] => 0
  | d :: r => uptoBulk d + uptoBulkAll r
def uptoBulkEntries {H : Type} : List (Lit × DataW H) → Nat
  | [] => 0
  | x :: r => uptoBulkEntry x + uptoBulkEntries r
def uptoBulkEntry {H : Type} : Lit × DataW H → Nat
  | (.string bytes, d) => bytes.length + uptoBulk d + 1
  | (_, d) => uptoBulk d + 1
 end
def uptoSmall : (H : Type) → List (DataW H) → Bool := fun _ ds => decide (uptoBulkAll ds ≤ 1048576)
def OpenSpec.upto (s : _root_.Go.ChangeSpec) : _root_.Go.OpenSpec := { _root_.Go.OpenSpec.ofChange s with cond := some uptoSmall }

/-- 'stilemanlaw13.FqAlone', WHERE WHAT IT READS IS OF BULK AT MOST 1048576: true; the input reads as it did. -/
def fqAloneUptoRow : OpenClaim := { program := "ytbcppehpfckgoaa", sum := "55e9d153e0de20b1ea60ee103cbb74c179b58b404a1c72f27fe7cee3e84ecbbd", func := "stileman/stilemanlaw13.FqAlone", spec := "fqAlone", unfollowed := true, recurses := true, apart := false, narrowed := true }
def FqAloneUptoSaid : Prop := fqAloneUptoRow.holds Try.pinned (OpenSpec.upto fqAloneSpec)

/-- 'stilemanlaw13.FqTries', WHERE WHAT IT READS IS OF BULK AT MOST 1048576: true; the input reads as it did. -/
def fqTriesUptoRow : OpenClaim := { program := "ytbcppehpfckgoaa", sum := "55e9d153e0de20b1ea60ee103cbb74c179b58b404a1c72f27fe7cee3e84ecbbd", func := "stileman/stilemanlaw13.FqTries", spec := "fqTries", unfollowed := true, recurses := true, apart := false, narrowed := true }
def FqTriesUptoSaid : Prop := fqTriesUptoRow.holds Try.pinned (OpenSpec.upto fqTriesSpec)

/-- 'stilemanlaw13.FqSteps', WHERE WHAT IT READS IS OF BULK AT MOST 1048576: true; the input reads as it did. -/
def fqStepsUptoRow : OpenClaim := { program := "ytbcppehpfckgoaa", sum := "55e9d153e0de20b1ea60ee103cbb74c179b58b404a1c72f27fe7cee3e84ecbbd", func := "stileman/stilemanlaw13.FqSteps", spec := "fqSteps", unfollowed := true, recurses := true, apart := false, narrowed := true }
def FqStepsUptoSaid : Prop := fqStepsUptoRow.holds Try.pinned (OpenSpec.upto fqStepsSpec)

/-- 'stilemanlaw13.FqExcludes', WHERE WHAT IT READS IS OF BULK AT MOST 1048576: true; the input reads as it did. -/
def fqExcludesUptoRow : OpenClaim := { program := "ytbcppehpfckgoaa", sum := "55e9d153e0de20b1ea60ee103cbb74c179b58b404a1c72f27fe7cee3e84ecbbd", func := "stileman/stilemanlaw13.FqExcludes", spec := "fqExcludes", unfollowed := true, recurses := true, apart := false, narrowed := true }
def FqExcludesUptoSaid : Prop := fqExcludesUptoRow.holds Try.pinned (OpenSpec.upto fqExcludesSpec)

/-- 'stilemanlaw13.FqTogether', WHERE WHAT IT READS IS OF BULK AT MOST 1048576: true; the input reads as it did. -/
def fqTogetherUptoRow : OpenClaim := { program := "ytbcppehpfckgoaa", sum := "55e9d153e0de20b1ea60ee103cbb74c179b58b404a1c72f27fe7cee3e84ecbbd", func := "stileman/stilemanlaw13.FqTogether", spec := "fqTogether", unfollowed := true, recurses := true, apart := false, narrowed := true }
def FqTogetherUptoSaid : Prop := fqTogetherUptoRow.holds Try.pinned (OpenSpec.upto fqTogetherSpec)

/-- 'stilemanlaw14.PqAlone', WHERE WHAT IT READS IS OF BULK AT MOST 1048576: true; the input reads as it did. -/
def pqAloneUptoRow : OpenClaim := { program := "ytbcppehpfckgoaa", sum := "55e9d153e0de20b1ea60ee103cbb74c179b58b404a1c72f27fe7cee3e84ecbbd", func := "stileman/stilemanlaw14.PqAlone", spec := "pqAlone", unfollowed := true, recurses := true, apart := false, narrowed := true }
def PqAloneUptoSaid : Prop := pqAloneUptoRow.holds Try.pinned (OpenSpec.upto pqAloneSpec)

/-- 'stilemanlaw14.PqTries', WHERE WHAT IT READS IS OF BULK AT MOST 1048576: true; the input reads as it did. -/
def pqTriesUptoRow : OpenClaim := { program := "ytbcppehpfckgoaa", sum := "55e9d153e0de20b1ea60ee103cbb74c179b58b404a1c72f27fe7cee3e84ecbbd", func := "stileman/stilemanlaw14.PqTries", spec := "pqTries", unfollowed := true, recurses := true, apart := false, narrowed := true }
def PqTriesUptoSaid : Prop := pqTriesUptoRow.holds Try.pinned (OpenSpec.upto pqTriesSpec)

/-- 'stilemanlaw14.PqExcludes', WHERE WHAT IT READS IS OF BULK AT MOST 1048576: true; the input reads as it did. -/
def pqExcludesUptoRow : OpenClaim := { program := "ytbcppehpfckgoaa", sum := "55e9d153e0de20b1ea60ee103cbb74c179b58b404a1c72f27fe7cee3e84ecbbd", func := "stileman/stilemanlaw14.PqExcludes", spec := "pqExcludes", unfollowed := true, recurses := true, apart := false, narrowed := true }
def PqExcludesUptoSaid : Prop := pqExcludesUptoRow.holds Try.pinned (OpenSpec.upto pqExcludesSpec)

/-- 'stilemanlaw14.PqTogether', WHERE WHAT IT READS IS OF BULK AT MOST 1048576: true; the input reads as it did. -/
def pqTogetherUptoRow : OpenClaim := { program := "ytbcppehpfckgoaa", sum := "55e9d153e0de20b1ea60ee103cbb74c179b58b404a1c72f27fe7cee3e84ecbbd", func := "stileman/stilemanlaw14.PqTogether", spec := "pqTogether", unfollowed := true, recurses := true, apart := false, narrowed := true }
def PqTogetherUptoSaid : Prop := pqTogetherUptoRow.holds Try.pinned (OpenSpec.upto pqTogetherSpec)

end Rows
end Go.Proofs.Ytbcppehpfckgoaa
