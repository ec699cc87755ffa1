/-
  No cell of these rows narrows 'for every input' (looked for: loops, veiled, ifaces, maps, wideKeys, modest, calm, conditions, laid).
  DERIVED. THE GIVEN ROWS OF THIS SEAT. 9 by the template 'for every input the law returns true; each argument reads behind the call as it read before'; 0 by the template 'total and deterministic' (their statements: YtjlpaefpilhngaaTotals.lean).
  GIVEN WITH THE SEED: the statements are not yours to turn. If you find one false, say at which input.
  Laid BY PROGRAM, IN A SANDBOX (cutbox-rows.mjs): the forced cells as the released guide's own fill.sh prints them over the translation 0b43ed202ce3939f… (all of the seat's roots in one cut). By AI agents, Wed Nov 11 2026. No macro, syntax, notation, axiom, sorry.
-/
import Derived.Test.YtjlpaefpilhngaaChecked
import GoSem.Claim
import GoSem.ClaimJoined
import GoSem.ClaimMapViews
import Derived.JoinedTies
import Derived.KernelRfl
namespace Go.Proofs.Ytjlpaefpilhngaa
/- THE CELL 'sum', in the pinned program and in every row, IS THE sha256 OF THE DUMP (.gsa) THAT YtjlpaefpilhngaaProg.lean LOADS. Nothing in Lean hashes anything: it is a label: what it is worth is what the hold of that sum in a sandbox is worth. -/
noncomputable def Try.pinned : Pinned := { name := "ytjlpaefpilhngaa", sum := "0b43ed202ce3939fdb2f2b1283875cb9575a7a18a1d170d990c22577028972dd", checked := Try.checked }
namespace Rows
def none {H : Type} : Left H := { results := [], args := [] }

/-- 'stilemanlaw02.DiffAhead': WHATEVER THE INPUT: true; the input reads as it did. -/
def diffAheadSpec : ChangeSpec := { name := "diffAhead", fn := fun _ => fun
  | [d1, d2] => { results := [.lit (.bool true)], args := [d1, d2] }
  | _ => none }
def diffAheadRow : OpenClaim := { program := "ytjlpaefpilhngaa", sum := "0b43ed202ce3939fdb2f2b1283875cb9575a7a18a1d170d990c22577028972dd", func := "stileman/stilemanlaw02.DiffAhead", spec := "diffAhead", apart := false }
def DiffAheadSaid : Prop := diffAheadRow.holds Try.pinned (OpenSpec.ofChange diffAheadSpec)

/-- ITS FALSE NEIGHBOUR: 'it returns false'. Refute it at one input. -/
def diffAheadWrong : ChangeSpec := { name := "diffAhead", fn := fun _ => fun
  | [d1, d2] => { results := [.lit (.bool false)], args := [d1, d2] }
  | _ => none }
def DiffAheadWrongFalsely : Prop := diffAheadRow.holds Try.pinned (OpenSpec.ofChange diffAheadWrong)

/-- 'stilemanlaw02.DiffRound': WHATEVER THE INPUT: true; the input reads as it did. -/
def diffRoundSpec : ChangeSpec := { name := "diffRound", fn := fun _ => fun
  | [d1, d2] => { results := [.lit (.bool true)], args := [d1, d2] }
  | _ => none }
def diffRoundRow : OpenClaim := { program := "ytjlpaefpilhngaa", sum := "0b43ed202ce3939fdb2f2b1283875cb9575a7a18a1d170d990c22577028972dd", func := "stileman/stilemanlaw02.DiffRound", spec := "diffRound", apart := false }
def DiffRoundSaid : Prop := diffRoundRow.holds Try.pinned (OpenSpec.ofChange diffRoundSpec)

/-- ITS FALSE NEIGHBOUR: 'it returns false'. Refute it at one input. -/
def diffRoundWrong : ChangeSpec := { name := "diffRound", fn := fun _ => fun
  | [d1, d2] => { results := [.lit (.bool false)], args := [d1, d2] }
  | _ => none }
def DiffRoundWrongFalsely : Prop := diffRoundRow.holds Try.pinned (OpenSpec.ofChange diffRoundWrong)

/-- 'stilemanlaw02.DiffFields': WHATEVER THE INPUT: true; the input reads as it did. -/
def diffFieldsSpec : ChangeSpec := { name := "diffFields", fn := fun _ => fun
  | [d1, d2, d3, d4] => { results := [.lit (.bool true)], args := [d1, d2, d3, d4] }
  | _ => none }
def diffFieldsRow : OpenClaim := { program := "ytjlpaefpilhngaa", sum := "0b43ed202ce3939fdb2f2b1283875cb9575a7a18a1d170d990c22577028972dd", func := "stileman/stilemanlaw02.DiffFields", spec := "diffFields", apart := false }
def DiffFieldsSaid : Prop := diffFieldsRow.holds Try.pinned (OpenSpec.ofChange diffFieldsSpec)

/-- ITS FALSE NEIGHBOUR: 'it returns false'. Refute it at one input. -/
def diffFieldsWrong : ChangeSpec := { name := "diffFields", fn := fun _ => fun
  | [d1, d2, d3, d4] => { results := [.lit (.bool false)], args := [d1, d2, d3, d4] }
  | _ => none }
def DiffFieldsWrongFalsely : Prop := diffFieldsRow.holds Try.pinned (OpenSpec.ofChange diffFieldsWrong)

/-- 'stilemanlaw02.DiffApart': WHATEVER THE INPUT: true; the input reads as it did. -/
def diffApartSpec : ChangeSpec := { name := "diffApart", fn := fun _ => fun
  | [d1, d2, d3, d4] => { results := [.lit (.bool true)], args := [d1, d2, d3, d4] }
  | _ => none }
def diffApartRow : OpenClaim := { program := "ytjlpaefpilhngaa", sum := "0b43ed202ce3939fdb2f2b1283875cb9575a7a18a1d170d990c22577028972dd", func := "stileman/stilemanlaw02.DiffApart", spec := "diffApart", apart := false }
def DiffApartSaid : Prop := diffApartRow.holds Try.pinned (OpenSpec.ofChange diffApartSpec)

/-- ITS FALSE NEIGHBOUR: 'it returns false'. Refute it at one input. -/
def diffApartWrong : ChangeSpec := { name := "diffApart", fn := fun _ => fun
  | [d1, d2, d3, d4] => { results := [.lit (.bool false)], args := [d1, d2, d3, d4] }
  | _ => none }
def DiffApartWrongFalsely : Prop := diffApartRow.holds Try.pinned (OpenSpec.ofChange diffApartWrong)

/-- 'stilemanlaw02.DiffLeast': WHATEVER THE INPUT: true; the input reads as it did. -/
def diffLeastSpec : ChangeSpec := { name := "diffLeast", fn := fun _ => fun
  | [d1, d2] => { results := [.lit (.bool true)], args := [d1, d2] }
  | _ => none }
def diffLeastRow : OpenClaim := { program := "ytjlpaefpilhngaa", sum := "0b43ed202ce3939fdb2f2b1283875cb9575a7a18a1d170d990c22577028972dd", func := "stileman/stilemanlaw02.DiffLeast", spec := "diffLeast", unfollowed := true, recurses := true, apart := false }
def DiffLeastSaid : Prop := diffLeastRow.holds Try.pinned (OpenSpec.ofChange diffLeastSpec)

/-- ITS FALSE NEIGHBOUR: 'it returns false'. Refute it at one input. -/
def diffLeastWrong : ChangeSpec := { name := "diffLeast", fn := fun _ => fun
  | [d1, d2] => { results := [.lit (.bool false)], args := [d1, d2] }
  | _ => none }
def DiffLeastWrongFalsely : Prop := diffLeastRow.holds Try.pinned (OpenSpec.ofChange diffLeastWrong)

/-- 'stilemanlaw01.CellsPlay': WHATEVER THE INPUT: true; the input reads as it did. -/
def cellsPlaySpec : ChangeSpec := { name := "cellsPlay", fn := fun _ => fun
  | [d1, d2] => { results := [.lit (.bool true)], args := [d1, d2] }
  | _ => none }
def cellsPlayRow : OpenClaim := { program := "ytjlpaefpilhngaa", sum := "0b43ed202ce3939fdb2f2b1283875cb9575a7a18a1d170d990c22577028972dd", func := "stileman/stilemanlaw01.CellsPlay", spec := "cellsPlay", apart := false }
def CellsPlaySaid : Prop := cellsPlayRow.holds Try.pinned (OpenSpec.ofChange cellsPlaySpec)

/-- ITS FALSE NEIGHBOUR: 'it returns false'. Refute it at one input. -/
def cellsPlayWrong : ChangeSpec := { name := "cellsPlay", fn := fun _ => fun
  | [d1, d2] => { results := [.lit (.bool false)], args := [d1, d2] }
  | _ => none }
def CellsPlayWrongFalsely : Prop := cellsPlayRow.holds Try.pinned (OpenSpec.ofChange cellsPlayWrong)

/-- 'stilemanlaw01.CellsNew': WHATEVER THE INPUT: true; the input reads as it did. -/
def cellsNewSpec : ChangeSpec := { name := "cellsNew", fn := fun _ => fun
  | [d1, d2, d3] => { results := [.lit (.bool true)], args := [d1, d2, d3] }
  | _ => none }
def cellsNewRow : OpenClaim := { program := "ytjlpaefpilhngaa", sum := "0b43ed202ce3939fdb2f2b1283875cb9575a7a18a1d170d990c22577028972dd", func := "stileman/stilemanlaw01.CellsNew", spec := "cellsNew", apart := false }
def CellsNewSaid : Prop := cellsNewRow.holds Try.pinned (OpenSpec.ofChange cellsNewSpec)

/-- ITS FALSE NEIGHBOUR: 'it returns false'. Refute it at one input. -/
def cellsNewWrong : ChangeSpec := { name := "cellsNew", fn := fun _ => fun
  | [d1, d2, d3] => { results := [.lit (.bool false)], args := [d1, d2, d3] }
  | _ => none }
def CellsNewWrongFalsely : Prop := cellsNewRow.holds Try.pinned (OpenSpec.ofChange cellsNewWrong)

/-- 'stilemanlaw01.CellsBack': WHATEVER THE INPUT: true; the input reads as it did. -/
def cellsBackSpec : ChangeSpec := { name := "cellsBack", fn := fun _ => fun
  | [d1, d2, d3] => { results := [.lit (.bool true)], args := [d1, d2, d3] }
  | _ => none }
def cellsBackRow : OpenClaim := { program := "ytjlpaefpilhngaa", sum := "0b43ed202ce3939fdb2f2b1283875cb9575a7a18a1d170d990c22577028972dd", func := "stileman/stilemanlaw01.CellsBack", spec := "cellsBack", apart := false }
def CellsBackSaid : Prop := cellsBackRow.holds Try.pinned (OpenSpec.ofChange cellsBackSpec)

/-- ITS FALSE NEIGHBOUR: 'it returns false'. Refute it at one input. -/
def cellsBackWrong : ChangeSpec := { name := "cellsBack", fn := fun _ => fun
  | [d1, d2, d3] => { results := [.lit (.bool false)], args := [d1, d2, d3] }
  | _ => none }
def CellsBackWrongFalsely : Prop := cellsBackRow.holds Try.pinned (OpenSpec.ofChange cellsBackWrong)

/-- 'stilemanlaw01.CellsCalls': WHATEVER THE INPUT: true; the input reads as it did. -/
def cellsCallsSpec : ChangeSpec := { name := "cellsCalls", fn := fun _ => fun
  | [d1, d2, d3, d4] => { results := [.lit (.bool true)], args := [d1, d2, d3, d4] }
  | _ => none }
def cellsCallsRow : OpenClaim := { program := "ytjlpaefpilhngaa", sum := "0b43ed202ce3939fdb2f2b1283875cb9575a7a18a1d170d990c22577028972dd", func := "stileman/stilemanlaw01.CellsCalls", spec := "cellsCalls", apart := false }
def CellsCallsSaid : Prop := cellsCallsRow.holds Try.pinned (OpenSpec.ofChange cellsCallsSpec)

/-- ITS FALSE NEIGHBOUR: 'it returns false'. Refute it at one input. -/
def cellsCallsWrong : ChangeSpec := { name := "cellsCalls", fn := fun _ => fun
  | [d1, d2, d3, d4] => { results := [.lit (.bool false)], args := [d1, d2, d3, d4] }
  | _ => none }
def CellsCallsWrongFalsely : Prop := cellsCallsRow.holds Try.pinned (OpenSpec.ofChange cellsCallsWrong)

/- THE SECOND FORM. 'bulk': how many values and letters a reading holds, each counted each time it is reached (what is shared counts as often as it is met; a slice's spare places count too). A statement '..UptoSaid' is the law's where the arguments, and the package variables that the reading takes, are together of bulk at most 1048576: NARROWER than '..Said'. Prove '..Said' where nothing that the law and all that it calls make is longer than what came in: it says more and counts as full. Else prove '..UptoSaid'. A law counts once. -/
mutual
def uptoBulk {H : Type} : DataW H → Nat
  | .lit (.string bytes) => bytes.length + 1
  | .lit _ => 1
  | .nil => 1
  | .ptr d => uptoBulk d + 1
  | .slice elems spare => uptoBulkAll elems + uptoBulkAll spare + 1
  | .agg parts => uptoBulkAll parts + 1
  | .iface _ d => uptoBulk d + 1
  | .map entries => uptoBulkEntries entries + 1
  | .held _ => 1
def uptoBulkAll {H : Type} : List (DataW H) → Nat
  | [] => 0
  | d :: r => uptoBulk d + uptoBulkAll r
def uptoBulkEntries {H : Type} : List (Lit × DataW H) → Nat
  | [] => 0
  | x :: r => uptoBulkEntry x + uptoBulkEntries r
def uptoBulkEntry {H : Type} : Lit × DataW H → Nat
  | (.string bytes, d) => bytes.length + uptoBulk d + 1
  | (_, d) => uptoBulk d + 1
 end
def uptoSmall : (H : Type) → List (DataW H) → Bool := fun _ ds => decide (uptoBulkAll ds ≤ 1048576)
def OpenSpec.upto (s : _root_.Go.ChangeSpec) : _root_.Go.OpenSpec := { _root_.Go.OpenSpec.ofChange s with cond := some uptoSmall }

/-- 'stilemanlaw02.DiffAhead', WHERE WHAT IT READS IS OF BULK AT MOST 1048576: true; the input reads as it did. -/
def diffAheadUptoRow : OpenClaim := { program := "ytjlpaefpilhngaa", sum := "0b43ed202ce3939fdb2f2b1283875cb9575a7a18a1d170d990c22577028972dd", func := "stileman/stilemanlaw02.DiffAhead", spec := "diffAhead", apart := false, narrowed := true }
def DiffAheadUptoSaid : Prop := diffAheadUptoRow.holds Try.pinned (OpenSpec.upto diffAheadSpec)

/-- 'stilemanlaw02.DiffRound', WHERE WHAT IT READS IS OF BULK AT MOST 1048576: true; the input reads as it did. -/
def diffRoundUptoRow : OpenClaim := { program := "ytjlpaefpilhngaa", sum := "0b43ed202ce3939fdb2f2b1283875cb9575a7a18a1d170d990c22577028972dd", func := "stileman/stilemanlaw02.DiffRound", spec := "diffRound", apart := false, narrowed := true }
def DiffRoundUptoSaid : Prop := diffRoundUptoRow.holds Try.pinned (OpenSpec.upto diffRoundSpec)

/-- 'stilemanlaw02.DiffFields', WHERE WHAT IT READS IS OF BULK AT MOST 1048576: true; the input reads as it did. -/
def diffFieldsUptoRow : OpenClaim := { program := "ytjlpaefpilhngaa", sum := "0b43ed202ce3939fdb2f2b1283875cb9575a7a18a1d170d990c22577028972dd", func := "stileman/stilemanlaw02.DiffFields", spec := "diffFields", apart := false, narrowed := true }
def DiffFieldsUptoSaid : Prop := diffFieldsUptoRow.holds Try.pinned (OpenSpec.upto diffFieldsSpec)

/-- 'stilemanlaw02.DiffApart', WHERE WHAT IT READS IS OF BULK AT MOST 1048576: true; the input reads as it did. -/
def diffApartUptoRow : OpenClaim := { program := "ytjlpaefpilhngaa", sum := "0b43ed202ce3939fdb2f2b1283875cb9575a7a18a1d170d990c22577028972dd", func := "stileman/stilemanlaw02.DiffApart", spec := "diffApart", apart := false, narrowed := true }
def DiffApartUptoSaid : Prop := diffApartUptoRow.holds Try.pinned (OpenSpec.upto diffApartSpec)

/-- 'stilemanlaw02.DiffLeast', WHERE WHAT IT READS IS OF BULK AT MOST 1048576: true; the input reads as it did. -/
def diffLeastUptoRow : OpenClaim := { program := "ytjlpaefpilhngaa", sum := "0b43ed202ce3939fdb2f2b1283875cb9575a7a18a1d170d990c22577028972dd", func := "stileman/stilemanlaw02.DiffLeast", spec := "diffLeast", unfollowed := true, recurses := true, apart := false, narrowed := true }
def DiffLeastUptoSaid : Prop := diffLeastUptoRow.holds Try.pinned (OpenSpec.upto diffLeastSpec)

/-- 'stilemanlaw01.CellsPlay', WHERE WHAT IT READS IS OF BULK AT MOST 1048576: true; the input reads as it did. -/
def cellsPlayUptoRow : OpenClaim := { program := "ytjlpaefpilhngaa", sum := "0b43ed202ce3939fdb2f2b1283875cb9575a7a18a1d170d990c22577028972dd", func := "stileman/stilemanlaw01.CellsPlay", spec := "cellsPlay", apart := false, narrowed := true }
def CellsPlayUptoSaid : Prop := cellsPlayUptoRow.holds Try.pinned (OpenSpec.upto cellsPlaySpec)

/-- 'stilemanlaw01.CellsNew', WHERE WHAT IT READS IS OF BULK AT MOST 1048576: true; the input reads as it did. -/
def cellsNewUptoRow : OpenClaim := { program := "ytjlpaefpilhngaa", sum := "0b43ed202ce3939fdb2f2b1283875cb9575a7a18a1d170d990c22577028972dd", func := "stileman/stilemanlaw01.CellsNew", spec := "cellsNew", apart := false, narrowed := true }
def CellsNewUptoSaid : Prop := cellsNewUptoRow.holds Try.pinned (OpenSpec.upto cellsNewSpec)

/-- 'stilemanlaw01.CellsBack', WHERE WHAT IT READS IS OF BULK AT MOST 1048576: true; the input reads as it did. -/
def cellsBackUptoRow : OpenClaim := { program := "ytjlpaefpilhngaa", sum := "0b43ed202ce3939fdb2f2b1283875cb9575a7a18a1d170d990c22577028972dd", func := "stileman/stilemanlaw01.CellsBack", spec := "cellsBack", apart := false, narrowed := true }
def CellsBackUptoSaid : Prop := cellsBackUptoRow.holds Try.pinned (OpenSpec.upto cellsBackSpec)

/-- 'stilemanlaw01.CellsCalls', WHERE WHAT IT READS IS OF BULK AT MOST 1048576: true; the input reads as it did. -/
def cellsCallsUptoRow : OpenClaim := { program := "ytjlpaefpilhngaa", sum := "0b43ed202ce3939fdb2f2b1283875cb9575a7a18a1d170d990c22577028972dd", func := "stileman/stilemanlaw01.CellsCalls", spec := "cellsCalls", apart := false, narrowed := true }
def CellsCallsUptoSaid : Prop := cellsCallsUptoRow.holds Try.pinned (OpenSpec.upto cellsCallsSpec)

end Rows
end Go.Proofs.Ytjlpaefpilhngaa
