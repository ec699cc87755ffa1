/-
  No cell of these rows narrows 'for every input' (looked for: loops, veiled, ifaces, maps, wideKeys, modest, calm, conditions, laid).
  DERIVED. THE GIVEN ROWS OF THIS SEAT. 7 by the template 'for every input the law returns true; each argument reads behind the call as it read before'; 0 by the template 'total and deterministic' (their statements: YthnimpkoidablaaGreatTotals.lean).
  GIVEN WITH THE SEED: the statements are not yours to turn. If you find one false, say at which input.
  Laid BY PROGRAM, IN A SANDBOX (cutbox-rows.mjs): the forced cells as the released guide's own fill.sh prints them over the translation 65bb5bdadc056627… (all of the seat's roots in one cut). By AI agents, Wed Nov 11 2026. No macro, syntax, notation, axiom, sorry.
-/
import Derived.Test.YthnimpkoidablaaGreatChecked
import GoSem.Claim
import GoSem.ClaimJoined
import GoSem.ClaimMapViews
import Derived.JoinedTies
import Derived.KernelRfl
namespace Go.Proofs.YthnimpkoidablaaGreat
/- THE CELL 'sum', in the pinned program and in every row, IS THE sha256 OF THE DUMP (.gsa) THAT YthnimpkoidablaaGreatProg.lean LOADS. Nothing in Lean hashes anything: it is a label: what it is worth is what the hold of that sum in a sandbox is worth. -/
noncomputable def Tryz.pinned : Pinned := { name := "ythnimpkoidablaagreat", sum := "65bb5bdadc05662794f06c0ad467f088667dff1697f71b4e57edbb7f26a91914", checked := Tryz.checked }
namespace Rows
def none {H : Type} : Left H := { results := [], args := [] }

/-- 'stilemantop.WholeDowngrades': WHATEVER THE INPUT: true; the input reads as it did. -/
def wholeDowngradesSpec : ChangeSpec := { name := "wholeDowngrades", fn := fun _ => fun
  | [d1, d2] => { results := [.lit (.bool true)], args := [d1, d2] }
  | _ => none }
def wholeDowngradesRow : OpenClaim := { program := "ythnimpkoidablaagreat", sum := "65bb5bdadc05662794f06c0ad467f088667dff1697f71b4e57edbb7f26a91914", func := "stileman/stilemantop.WholeDowngrades", spec := "wholeDowngrades", inPlace := ["slices.overlaps[stileman/api.Note]"], unfollowed := true, recurses := true, apart := false }
def WholeDowngradesSaid : Prop := wholeDowngradesRow.holds Tryz.pinned (OpenSpec.ofChange wholeDowngradesSpec)

/-- ITS FALSE NEIGHBOUR: 'it returns false'. Refute it at one input. -/
def wholeDowngradesWrong : ChangeSpec := { name := "wholeDowngrades", fn := fun _ => fun
  | [d1, d2] => { results := [.lit (.bool false)], args := [d1, d2] }
  | _ => none }
def WholeDowngradesWrongFalsely : Prop := wholeDowngradesRow.holds Tryz.pinned (OpenSpec.ofChange wholeDowngradesWrong)

/-- 'stilemantop.WholeUpgrades': WHATEVER THE INPUT: true; the input reads as it did. -/
def wholeUpgradesSpec : ChangeSpec := { name := "wholeUpgrades", fn := fun _ => fun
  | [d1, d2] => { results := [.lit (.bool true)], args := [d1, d2] }
  | _ => none }
def wholeUpgradesRow : OpenClaim := { program := "ythnimpkoidablaagreat", sum := "65bb5bdadc05662794f06c0ad467f088667dff1697f71b4e57edbb7f26a91914", func := "stileman/stilemantop.WholeUpgrades", spec := "wholeUpgrades", inPlace := ["slices.overlaps[stileman/api.Note]"], unfollowed := true, recurses := true, apart := false }
def WholeUpgradesSaid : Prop := wholeUpgradesRow.holds Tryz.pinned (OpenSpec.ofChange wholeUpgradesSpec)

/-- ITS FALSE NEIGHBOUR: 'it returns false'. Refute it at one input. -/
def wholeUpgradesWrong : ChangeSpec := { name := "wholeUpgrades", fn := fun _ => fun
  | [d1, d2] => { results := [.lit (.bool false)], args := [d1, d2] }
  | _ => none }
def WholeUpgradesWrongFalsely : Prop := wholeUpgradesRow.holds Tryz.pinned (OpenSpec.ofChange wholeUpgradesWrong)

/-- 'stilemantop.WholeTries': WHATEVER THE INPUT: true; the input reads as it did. -/
def wholeTriesSpec : ChangeSpec := { name := "wholeTries", fn := fun _ => fun
  | [d1, d2, d3] => { results := [.lit (.bool true)], args := [d1, d2, d3] }
  | _ => none }
def wholeTriesRow : OpenClaim := { program := "ythnimpkoidablaagreat", sum := "65bb5bdadc05662794f06c0ad467f088667dff1697f71b4e57edbb7f26a91914", func := "stileman/stilemantop.WholeTries", spec := "wholeTries", inPlace := ["slices.overlaps[stileman/api.Note]"], unfollowed := true, recurses := true, apart := false }
def WholeTriesSaid : Prop := wholeTriesRow.holds Tryz.pinned (OpenSpec.ofChange wholeTriesSpec)

/-- ITS FALSE NEIGHBOUR: 'it returns false'. Refute it at one input. -/
def wholeTriesWrong : ChangeSpec := { name := "wholeTries", fn := fun _ => fun
  | [d1, d2, d3] => { results := [.lit (.bool false)], args := [d1, d2, d3] }
  | _ => none }
def WholeTriesWrongFalsely : Prop := wholeTriesRow.holds Tryz.pinned (OpenSpec.ofChange wholeTriesWrong)

/-- 'stilemantop.WholeWakes': WHATEVER THE INPUT: true; the input reads as it did. -/
def wholeWakesSpec : ChangeSpec := { name := "wholeWakes", fn := fun _ => fun
  | [d1, d2] => { results := [.lit (.bool true)], args := [d1, d2] }
  | _ => none }
def wholeWakesRow : OpenClaim := { program := "ythnimpkoidablaagreat", sum := "65bb5bdadc05662794f06c0ad467f088667dff1697f71b4e57edbb7f26a91914", func := "stileman/stilemantop.WholeWakes", spec := "wholeWakes", inPlace := ["slices.overlaps[stileman/api.Note]"], unfollowed := true, recurses := true, apart := false }
def WholeWakesSaid : Prop := wholeWakesRow.holds Tryz.pinned (OpenSpec.ofChange wholeWakesSpec)

/-- ITS FALSE NEIGHBOUR: 'it returns false'. Refute it at one input. -/
def wholeWakesWrong : ChangeSpec := { name := "wholeWakes", fn := fun _ => fun
  | [d1, d2] => { results := [.lit (.bool false)], args := [d1, d2] }
  | _ => none }
def WholeWakesWrongFalsely : Prop := wholeWakesRow.holds Tryz.pinned (OpenSpec.ofChange wholeWakesWrong)

/-- 'stilemantop.WholeRound': WHATEVER THE INPUT: true; the input reads as it did. -/
def wholeRoundSpec : ChangeSpec := { name := "wholeRound", fn := fun _ => fun
  | [d1, d2, d3] => { results := [.lit (.bool true)], args := [d1, d2, d3] }
  | _ => none }
def wholeRoundRow : OpenClaim := { program := "ythnimpkoidablaagreat", sum := "65bb5bdadc05662794f06c0ad467f088667dff1697f71b4e57edbb7f26a91914", func := "stileman/stilemantop.WholeRound", spec := "wholeRound", inPlace := ["slices.overlaps[stileman/api.Note]"], unfollowed := true, recurses := true, apart := false }
def WholeRoundSaid : Prop := wholeRoundRow.holds Tryz.pinned (OpenSpec.ofChange wholeRoundSpec)

/-- ITS FALSE NEIGHBOUR: 'it returns false'. Refute it at one input. -/
def wholeRoundWrong : ChangeSpec := { name := "wholeRound", fn := fun _ => fun
  | [d1, d2, d3] => { results := [.lit (.bool false)], args := [d1, d2, d3] }
  | _ => none }
def WholeRoundWrongFalsely : Prop := wholeRoundRow.holds Tryz.pinned (OpenSpec.ofChange wholeRoundWrong)

/-- 'stilemantop.WholeMisuse': WHATEVER THE INPUT: true; the input reads as it did. -/
def wholeMisuseSpec : ChangeSpec := { name := "wholeMisuse", fn := fun _ => fun
  | [d1, d2, d3, d4] => { results := [.lit (.bool true)], args := [d1, d2, d3, d4] }
  | _ => none }
def wholeMisuseRow : OpenClaim := { program := "ythnimpkoidablaagreat", sum := "65bb5bdadc05662794f06c0ad467f088667dff1697f71b4e57edbb7f26a91914", func := "stileman/stilemantop.WholeMisuse", spec := "wholeMisuse", inPlace := ["slices.overlaps[stileman/api.Note]"], unfollowed := true, recurses := true, apart := false }
def WholeMisuseSaid : Prop := wholeMisuseRow.holds Tryz.pinned (OpenSpec.ofChange wholeMisuseSpec)

/-- ITS FALSE NEIGHBOUR: 'it returns false'. Refute it at one input. -/
def wholeMisuseWrong : ChangeSpec := { name := "wholeMisuse", fn := fun _ => fun
  | [d1, d2, d3, d4] => { results := [.lit (.bool false)], args := [d1, d2, d3, d4] }
  | _ => none }
def WholeMisuseWrongFalsely : Prop := wholeMisuseRow.holds Tryz.pinned (OpenSpec.ofChange wholeMisuseWrong)

/-- 'stilemantop.WholeExcludes': WHATEVER THE INPUT: true; the input reads as it did. -/
def wholeExcludesSpec : ChangeSpec := { name := "wholeExcludes", fn := fun _ => fun
  | [d1, d2] => { results := [.lit (.bool true)], args := [d1, d2] }
  | _ => none }
def wholeExcludesRow : OpenClaim := { program := "ythnimpkoidablaagreat", sum := "65bb5bdadc05662794f06c0ad467f088667dff1697f71b4e57edbb7f26a91914", func := "stileman/stilemantop.WholeExcludes", spec := "wholeExcludes", inPlace := ["slices.overlaps[stileman/api.Note]"], unfollowed := true, recurses := true, apart := false }
def WholeExcludesSaid : Prop := wholeExcludesRow.holds Tryz.pinned (OpenSpec.ofChange wholeExcludesSpec)

/-- ITS FALSE NEIGHBOUR: 'it returns false'. Refute it at one input. -/
def wholeExcludesWrong : ChangeSpec := { name := "wholeExcludes", fn := fun _ => fun
  | [d1, d2] => { results := [.lit (.bool false)], args := [d1, d2] }
  | _ => none }
def WholeExcludesWrongFalsely : Prop := wholeExcludesRow.holds Tryz.pinned (OpenSpec.ofChange wholeExcludesWrong)

/- THE SECOND FORM. 'bulk': how many values and letters a reading holds, each counted each time it is reached (what is shared counts as often as it is met; a slice's spare places count too). A statement '..UptoSaid' is the law's where the arguments, and the package variables that the reading takes, are together of bulk at most 1048576: NARROWER than '..Said'. Prove '..Said' where nothing that the law and all that it calls make is longer than what came in: it says more and counts as full. Else prove '..UptoSaid'. A law counts once. -/
mutual
def uptoBulk {H : Type} : DataW H → Nat
  | .lit (.string bytes) => bytes.length + 1
  | .lit _ => 1
  | .nil => 1
  | .ptr d => uptoBulk d + 1
  | .slice elems spare => uptoBulkAll elems + uptoBulkAll spare + 1
  | .agg parts => uptoBulkAll parts + 1
  | .iface _ d => uptoBulk d + 1
  | .map entries => uptoBulkEntries entries + 1
  | .held _ => 1
def uptoBulkAll {H : Type} : List (DataW H) → Nat
  | [] => 0
  | d :: r => uptoBulk d + uptoBulkAll r
def uptoBulkEntries {H : Type} : List (Lit × DataW H) → Nat
  | [] => 0
  | x :: r => uptoBulkEntry x + uptoBulkEntries r
def uptoBulkEntry {H : Type} : Lit × DataW H → Nat
  | (.string bytes, d) => bytes.length + uptoBulk d + 1
  | (_, d) => uptoBulk d + 1
 end
def uptoSmall : (H : Type) → List (DataW H) → Bool := fun _ ds => decide (uptoBulkAll ds ≤ 1048576)
def OpenSpec.upto (s : _root_.Go.ChangeSpec) : _root_.Go.OpenSpec := { _root_.Go.OpenSpec.ofChange s with cond := some uptoSmall }

/-- 'stilemantop.WholeDowngrades', WHERE WHAT IT READS IS OF BULK AT MOST 1048576: true; the input reads as it did. -/
def wholeDowngradesUptoRow : OpenClaim := { program := "ythnimpkoidablaagreat", sum := "65bb5bdadc05662794f06c0ad467f088667dff1697f71b4e57edbb7f26a91914", func := "stileman/stilemantop.WholeDowngrades", spec := "wholeDowngrades", inPlace := ["slices.overlaps[stileman/api.Note]"], unfollowed := true, recurses := true, apart := false, narrowed := true }
def WholeDowngradesUptoSaid : Prop := wholeDowngradesUptoRow.holds Tryz.pinned (OpenSpec.upto wholeDowngradesSpec)

/-- 'stilemantop.WholeUpgrades', WHERE WHAT IT READS IS OF BULK AT MOST 1048576: true; the input reads as it did. -/
def wholeUpgradesUptoRow : OpenClaim := { program := "ythnimpkoidablaagreat", sum := "65bb5bdadc05662794f06c0ad467f088667dff1697f71b4e57edbb7f26a91914", func := "stileman/stilemantop.WholeUpgrades", spec := "wholeUpgrades", inPlace := ["slices.overlaps[stileman/api.Note]"], unfollowed := true, recurses := true, apart := false, narrowed := true }
def WholeUpgradesUptoSaid : Prop := wholeUpgradesUptoRow.holds Tryz.pinned (OpenSpec.upto wholeUpgradesSpec)

/-- 'stilemantop.WholeTries', WHERE WHAT IT READS IS OF BULK AT MOST 1048576: true; the input reads as it did. -/
def wholeTriesUptoRow : OpenClaim := { program := "ythnimpkoidablaagreat", sum := "65bb5bdadc05662794f06c0ad467f088667dff1697f71b4e57edbb7f26a91914", func := "stileman/stilemantop.WholeTries", spec := "wholeTries", inPlace := ["slices.overlaps[stileman/api.Note]"], unfollowed := true, recurses := true, apart := false, narrowed := true }
def WholeTriesUptoSaid : Prop := wholeTriesUptoRow.holds Tryz.pinned (OpenSpec.upto wholeTriesSpec)

/-- 'stilemantop.WholeWakes', WHERE WHAT IT READS IS OF BULK AT MOST 1048576: true; the input reads as it did. -/
def wholeWakesUptoRow : OpenClaim := { program := "ythnimpkoidablaagreat", sum := "65bb5bdadc05662794f06c0ad467f088667dff1697f71b4e57edbb7f26a91914", func := "stileman/stilemantop.WholeWakes", spec := "wholeWakes", inPlace := ["slices.overlaps[stileman/api.Note]"], unfollowed := true, recurses := true, apart := false, narrowed := true }
def WholeWakesUptoSaid : Prop := wholeWakesUptoRow.holds Tryz.pinned (OpenSpec.upto wholeWakesSpec)

/-- 'stilemantop.WholeRound', WHERE WHAT IT READS IS OF BULK AT MOST 1048576: true; the input reads as it did. -/
def wholeRoundUptoRow : OpenClaim := { program := "ythnimpkoidablaagreat", sum := "65bb5bdadc05662794f06c0ad467f088667dff1697f71b4e57edbb7f26a91914", func := "stileman/stilemantop.WholeRound", spec := "wholeRound", inPlace := ["slices.overlaps[stileman/api.Note]"], unfollowed := true, recurses := true, apart := false, narrowed := true }
def WholeRoundUptoSaid : Prop := wholeRoundUptoRow.holds Tryz.pinned (OpenSpec.upto wholeRoundSpec)

/-- 'stilemantop.WholeMisuse', WHERE WHAT IT READS IS OF BULK AT MOST 1048576: true; the input reads as it did. -/
def wholeMisuseUptoRow : OpenClaim := { program := "ythnimpkoidablaagreat", sum := "65bb5bdadc05662794f06c0ad467f088667dff1697f71b4e57edbb7f26a91914", func := "stileman/stilemantop.WholeMisuse", spec := "wholeMisuse", inPlace := ["slices.overlaps[stileman/api.Note]"], unfollowed := true, recurses := true, apart := false, narrowed := true }
def WholeMisuseUptoSaid : Prop := wholeMisuseUptoRow.holds Tryz.pinned (OpenSpec.upto wholeMisuseSpec)

/-- 'stilemantop.WholeExcludes', WHERE WHAT IT READS IS OF BULK AT MOST 1048576: true; the input reads as it did. -/
def wholeExcludesUptoRow : OpenClaim := { program := "ythnimpkoidablaagreat", sum := "65bb5bdadc05662794f06c0ad467f088667dff1697f71b4e57edbb7f26a91914", func := "stileman/stilemantop.WholeExcludes", spec := "wholeExcludes", inPlace := ["slices.overlaps[stileman/api.Note]"], unfollowed := true, recurses := true, apart := false, narrowed := true }
def WholeExcludesUptoSaid : Prop := wholeExcludesUptoRow.holds Tryz.pinned (OpenSpec.upto wholeExcludesSpec)

end Rows
end Go.Proofs.YthnimpkoidablaaGreat
