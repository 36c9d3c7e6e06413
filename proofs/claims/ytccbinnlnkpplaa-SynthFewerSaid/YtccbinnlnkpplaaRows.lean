/-
  No cell of these rows narrows 'for every input' (looked for: loops, veiled, ifaces, maps, wideKeys, modest, calm, conditions, laid).
  DERIVED. THE GIVEN ROWS OF THIS SEAT. 11 by the template 'for every input the law returns true; each argument reads behind the call as it read before'; 0 by the template 'total and deterministic' (their statements: YtccbinnlnkpplaaTotals.lean).
  GIVEN WITH THE SEED: the statements are not yours to turn. If you find one false, say at which input.
  Laid BY PROGRAM, IN A SANDBOX (cutbox-rows.mjs): the forced cells as the released guide's own fill.sh prints them over the translation 467ef4ebe50dba96… (all of the seat's roots in one cut). By AI agents, Wed Nov 11 2026. No macro, syntax, notation, axiom, sorry.
-/
import Derived.Test.YtccbinnlnkpplaaChecked
import GoSem.Claim
import GoSem.ClaimJoined
import GoSem.ClaimMapViews
import Derived.JoinedTies
import Derived.KernelRfl
namespace Go.Proofs.Ytccbinnlnkpplaa
/- THE CELL 'sum', in the pinned program and in every row, IS THE sha256 OF THE DUMP (.gsa) THAT YtccbinnlnkpplaaProg.lean LOADS. Nothing in Lean hashes anything: it is a label: what it is worth is what the hold of that sum in a sandbox is worth. -/
noncomputable def Try.pinned : Pinned := { name := "ytccbinnlnkpplaa", sum := "467ef4ebe50dba96c17db29c112c7b0cc30f052d3ef2139e39bd84b1989e143a", checked := Try.checked }
namespace Rows
def none {H : Type} : Left H := { results := [], args := [] }

/-- 'photonmeshlaw04.SynthComposes': WHATEVER THE INPUT: true; the input reads as it did. -/
def synthComposesSpec : ChangeSpec := { name := "synthComposes", fn := fun _ => fun
  | [d1, d2] => { results := [.lit (.bool true)], args := [d1, d2] }
  | _ => none }
def synthComposesRow : OpenClaim := { program := "ytccbinnlnkpplaa", sum := "467ef4ebe50dba96c17db29c112c7b0cc30f052d3ef2139e39bd84b1989e143a", func := "photonmesh/photonmeshlaw04.SynthComposes", spec := "synthComposes", unfollowed := true, recurses := true, apart := false }
def SynthComposesSaid : Prop := synthComposesRow.holds Try.pinned (OpenSpec.ofChange synthComposesSpec)

/-- ITS FALSE NEIGHBOUR: 'it returns false'. Refute it at one input. -/
def synthComposesWrong : ChangeSpec := { name := "synthComposes", fn := fun _ => fun
  | [d1, d2] => { results := [.lit (.bool false)], args := [d1, d2] }
  | _ => none }
def SynthComposesWrongFalsely : Prop := synthComposesRow.holds Try.pinned (OpenSpec.ofChange synthComposesWrong)

/-- 'photonmeshlaw04.SynthPermsOf': WHATEVER THE INPUT: true; the input reads as it did. -/
def synthPermsOfSpec : ChangeSpec := { name := "synthPermsOf", fn := fun _ => fun
  | [d1, d2] => { results := [.lit (.bool true)], args := [d1, d2] }
  | _ => none }
def synthPermsOfRow : OpenClaim := { program := "ytccbinnlnkpplaa", sum := "467ef4ebe50dba96c17db29c112c7b0cc30f052d3ef2139e39bd84b1989e143a", func := "photonmesh/photonmeshlaw04.SynthPermsOf", spec := "synthPermsOf", unfollowed := true, recurses := true, apart := false }
def SynthPermsOfSaid : Prop := synthPermsOfRow.holds Try.pinned (OpenSpec.ofChange synthPermsOfSpec)

/-- ITS FALSE NEIGHBOUR: 'it returns false'. Refute it at one input. -/
def synthPermsOfWrong : ChangeSpec := { name := "synthPermsOf", fn := fun _ => fun
  | [d1, d2] => { results := [.lit (.bool false)], args := [d1, d2] }
  | _ => none }
def SynthPermsOfWrongFalsely : Prop := synthPermsOfRow.holds Try.pinned (OpenSpec.ofChange synthPermsOfWrong)

/-- 'photonmeshlaw04.SynthLeast': WHATEVER THE INPUT: true; the input reads as it did. -/
def synthLeastSpec : ChangeSpec := { name := "synthLeast", fn := fun _ => fun
  | [d] => { results := [.lit (.bool true)], args := [d] }
  | _ => none }
def synthLeastRow : OpenClaim := { program := "ytccbinnlnkpplaa", sum := "467ef4ebe50dba96c17db29c112c7b0cc30f052d3ef2139e39bd84b1989e143a", func := "photonmesh/photonmeshlaw04.SynthLeast", spec := "synthLeast", inPlace := ["math/bits.Sub64", "math/bits.Add64"], unfollowed := true, recurses := true, apart := false }
def SynthLeastSaid : Prop := synthLeastRow.holds Try.pinned (OpenSpec.ofChange synthLeastSpec)

/-- ITS FALSE NEIGHBOUR: 'it returns false'. Refute it at one input. -/
def synthLeastWrong : ChangeSpec := { name := "synthLeast", fn := fun _ => fun
  | [d] => { results := [.lit (.bool false)], args := [d] }
  | _ => none }
def SynthLeastWrongFalsely : Prop := synthLeastRow.holds Try.pinned (OpenSpec.ofChange synthLeastWrong)

/-- 'photonmeshlaw04.SynthSwitches': WHATEVER THE INPUT: true; the input reads as it did. -/
def synthSwitchesSpec : ChangeSpec := { name := "synthSwitches", fn := fun _ => fun
  | [d1, d2] => { results := [.lit (.bool true)], args := [d1, d2] }
  | _ => none }
def synthSwitchesRow : OpenClaim := { program := "ytccbinnlnkpplaa", sum := "467ef4ebe50dba96c17db29c112c7b0cc30f052d3ef2139e39bd84b1989e143a", func := "photonmesh/photonmeshlaw04.SynthSwitches", spec := "synthSwitches", unfollowed := true, recurses := true, apart := false }
def SynthSwitchesSaid : Prop := synthSwitchesRow.holds Try.pinned (OpenSpec.ofChange synthSwitchesSpec)

/-- ITS FALSE NEIGHBOUR: 'it returns false'. Refute it at one input. -/
def synthSwitchesWrong : ChangeSpec := { name := "synthSwitches", fn := fun _ => fun
  | [d1, d2] => { results := [.lit (.bool false)], args := [d1, d2] }
  | _ => none }
def SynthSwitchesWrongFalsely : Prop := synthSwitchesRow.holds Try.pinned (OpenSpec.ofChange synthSwitchesWrong)

/-- 'photonmeshlaw04.SynthEquals': WHATEVER THE INPUT: true; the input reads as it did. -/
def synthEqualsSpec : ChangeSpec := { name := "synthEquals", fn := fun _ => fun
  | [d1, d2, d3] => { results := [.lit (.bool true)], args := [d1, d2, d3] }
  | _ => none }
def synthEqualsRow : OpenClaim := { program := "ytccbinnlnkpplaa", sum := "467ef4ebe50dba96c17db29c112c7b0cc30f052d3ef2139e39bd84b1989e143a", func := "photonmesh/photonmeshlaw04.SynthEquals", spec := "synthEquals", unfollowed := true, recurses := true, apart := false }
def SynthEqualsSaid : Prop := synthEqualsRow.holds Try.pinned (OpenSpec.ofChange synthEqualsSpec)

/-- ITS FALSE NEIGHBOUR: 'it returns false'. Refute it at one input. -/
def synthEqualsWrong : ChangeSpec := { name := "synthEquals", fn := fun _ => fun
  | [d1, d2, d3] => { results := [.lit (.bool false)], args := [d1, d2, d3] }
  | _ => none }
def SynthEqualsWrongFalsely : Prop := synthEqualsRow.holds Try.pinned (OpenSpec.ofChange synthEqualsWrong)

/-- 'photonmeshlaw04.SynthCrosses': WHATEVER THE INPUT: true; the input reads as it did. -/
def synthCrossesSpec : ChangeSpec := { name := "synthCrosses", fn := fun _ => fun
  | [d] => { results := [.lit (.bool true)], args := [d] }
  | _ => none }
def synthCrossesRow : OpenClaim := { program := "ytccbinnlnkpplaa", sum := "467ef4ebe50dba96c17db29c112c7b0cc30f052d3ef2139e39bd84b1989e143a", func := "photonmesh/photonmeshlaw04.SynthCrosses", spec := "synthCrosses", unfollowed := true, recurses := true, apart := false }
def SynthCrossesSaid : Prop := synthCrossesRow.holds Try.pinned (OpenSpec.ofChange synthCrossesSpec)

/-- ITS FALSE NEIGHBOUR: 'it returns false'. Refute it at one input. -/
def synthCrossesWrong : ChangeSpec := { name := "synthCrosses", fn := fun _ => fun
  | [d] => { results := [.lit (.bool false)], args := [d] }
  | _ => none }
def SynthCrossesWrongFalsely : Prop := synthCrossesRow.holds Try.pinned (OpenSpec.ofChange synthCrossesWrong)

/-- 'photonmeshlaw04.SynthDiagonals': WHATEVER THE INPUT: true; the input reads as it did. -/
def synthDiagonalsSpec : ChangeSpec := { name := "synthDiagonals", fn := fun _ => fun
  | [d] => { results := [.lit (.bool true)], args := [d] }
  | _ => none }
def synthDiagonalsRow : OpenClaim := { program := "ytccbinnlnkpplaa", sum := "467ef4ebe50dba96c17db29c112c7b0cc30f052d3ef2139e39bd84b1989e143a", func := "photonmesh/photonmeshlaw04.SynthDiagonals", spec := "synthDiagonals", unfollowed := true, recurses := true, apart := false }
def SynthDiagonalsSaid : Prop := synthDiagonalsRow.holds Try.pinned (OpenSpec.ofChange synthDiagonalsSpec)

/-- ITS FALSE NEIGHBOUR: 'it returns false'. Refute it at one input. -/
def synthDiagonalsWrong : ChangeSpec := { name := "synthDiagonals", fn := fun _ => fun
  | [d] => { results := [.lit (.bool false)], args := [d] }
  | _ => none }
def SynthDiagonalsWrongFalsely : Prop := synthDiagonalsRow.holds Try.pinned (OpenSpec.ofChange synthDiagonalsWrong)

/-- 'photonmeshlaw04.SynthPerms': WHATEVER THE INPUT: true; the input reads as it did. -/
def synthPermsSpec : ChangeSpec := { name := "synthPerms", fn := fun _ => fun
  | [d] => { results := [.lit (.bool true)], args := [d] }
  | _ => none }
def synthPermsRow : OpenClaim := { program := "ytccbinnlnkpplaa", sum := "467ef4ebe50dba96c17db29c112c7b0cc30f052d3ef2139e39bd84b1989e143a", func := "photonmesh/photonmeshlaw04.SynthPerms", spec := "synthPerms", unfollowed := true, recurses := true, apart := false }
def SynthPermsSaid : Prop := synthPermsRow.holds Try.pinned (OpenSpec.ofChange synthPermsSpec)

/-- ITS FALSE NEIGHBOUR: 'it returns false'. Refute it at one input. -/
def synthPermsWrong : ChangeSpec := { name := "synthPerms", fn := fun _ => fun
  | [d] => { results := [.lit (.bool false)], args := [d] }
  | _ => none }
def SynthPermsWrongFalsely : Prop := synthPermsRow.holds Try.pinned (OpenSpec.ofChange synthPermsWrong)

/-- 'photonmeshlaw04.SynthNearest': WHATEVER THE INPUT: true; the input reads as it did. -/
def synthNearestSpec : ChangeSpec := { name := "synthNearest", fn := fun _ => fun
  | [d] => { results := [.lit (.bool true)], args := [d] }
  | _ => none }
def synthNearestRow : OpenClaim := { program := "ytccbinnlnkpplaa", sum := "467ef4ebe50dba96c17db29c112c7b0cc30f052d3ef2139e39bd84b1989e143a", func := "photonmesh/photonmeshlaw04.SynthNearest", spec := "synthNearest", inPlace := ["math/bits.Add64"], unfollowed := true, recurses := true, apart := false }
def SynthNearestSaid : Prop := synthNearestRow.holds Try.pinned (OpenSpec.ofChange synthNearestSpec)

/-- ITS FALSE NEIGHBOUR: 'it returns false'. Refute it at one input. -/
def synthNearestWrong : ChangeSpec := { name := "synthNearest", fn := fun _ => fun
  | [d] => { results := [.lit (.bool false)], args := [d] }
  | _ => none }
def SynthNearestWrongFalsely : Prop := synthNearestRow.holds Try.pinned (OpenSpec.ofChange synthNearestWrong)

/-- 'photonmeshlaw04.SynthBars': WHATEVER THE INPUT: true; the input reads as it did. -/
def synthBarsSpec : ChangeSpec := { name := "synthBars", fn := fun _ => fun
  | [d] => { results := [.lit (.bool true)], args := [d] }
  | _ => none }
def synthBarsRow : OpenClaim := { program := "ytccbinnlnkpplaa", sum := "467ef4ebe50dba96c17db29c112c7b0cc30f052d3ef2139e39bd84b1989e143a", func := "photonmesh/photonmeshlaw04.SynthBars", spec := "synthBars", inPlace := ["math/bits.Sub64", "math/bits.Add64"], unfollowed := true, recurses := true, apart := false }
def SynthBarsSaid : Prop := synthBarsRow.holds Try.pinned (OpenSpec.ofChange synthBarsSpec)

/-- ITS FALSE NEIGHBOUR: 'it returns false'. Refute it at one input. -/
def synthBarsWrong : ChangeSpec := { name := "synthBars", fn := fun _ => fun
  | [d] => { results := [.lit (.bool false)], args := [d] }
  | _ => none }
def SynthBarsWrongFalsely : Prop := synthBarsRow.holds Try.pinned (OpenSpec.ofChange synthBarsWrong)

/-- 'photonmeshlaw04.SynthFewer': WHATEVER THE INPUT: true; the input reads as it did. -/
def synthFewerSpec : ChangeSpec := { name := "synthFewer", fn := fun _ => fun
  | [d1, d2] => { results := [.lit (.bool true)], args := [d1, d2] }
  | _ => none }
def synthFewerRow : OpenClaim := { program := "ytccbinnlnkpplaa", sum := "467ef4ebe50dba96c17db29c112c7b0cc30f052d3ef2139e39bd84b1989e143a", func := "photonmesh/photonmeshlaw04.SynthFewer", spec := "synthFewer", inPlace := ["math/bits.Sub64", "math/bits.Add64"], unfollowed := true, recurses := true, apart := false }
def SynthFewerSaid : Prop := synthFewerRow.holds Try.pinned (OpenSpec.ofChange synthFewerSpec)

/-- ITS FALSE NEIGHBOUR: 'it returns false'. Refute it at one input. -/
def synthFewerWrong : ChangeSpec := { name := "synthFewer", fn := fun _ => fun
  | [d1, d2] => { results := [.lit (.bool false)], args := [d1, d2] }
  | _ => none }
def SynthFewerWrongFalsely : Prop := synthFewerRow.holds Try.pinned (OpenSpec.ofChange synthFewerWrong)

/- THE SECOND FORM. 'bulk': how many values and letters a reading holds, each counted each time it is reached (what is shared counts as often as it is met; a slice's spare places count too). A statement '..UptoSaid' is the law's where the arguments, and the package variables that the reading takes, are together of bulk at most 1048576: NARROWER than '..Said'. Prove '..Said' where nothing that the law and all that it calls make is longer than what came in: it says more and counts as full. Else prove '..UptoSaid'. A law counts once. -/
mutual
def uptoBulk {H : Type} : DataW H → Nat
  | .lit (.string bytes) => bytes.length + 1
  | .lit _ => 1
  | .nil => 1
  | .ptr d => uptoBulk d + 1
  | .slice elems spare => uptoBulkAll elems + uptoBulkAll spare + 1
  | .agg parts => uptoBulkAll parts + 1
  | .iface _ d => uptoBulk d + 1
  | .map entries => uptoBulkEntries entries + 1
  | .held _ => 1
def uptoBulkAll {H : Type} : List (DataW H) → Nat
  | [] => 0
  | d :: r => uptoBulk d + uptoBulkAll r
def uptoBulkEntries {H : Type} : List (Lit × DataW H) → Nat
  | [] => 0
  | x :: r => uptoBulkEntry x + uptoBulkEntries r
def uptoBulkEntry {H : Type} : Lit × DataW H → Nat
  | (.string bytes, d) => bytes.length + uptoBulk d + 1
  | (_, d) => uptoBulk d + 1
 end
def uptoSmall : (H : Type) → List (DataW H) → Bool := fun _ ds => decide (uptoBulkAll ds ≤ 1048576)
def OpenSpec.upto (s : _root_.Go.ChangeSpec) : _root_.Go.OpenSpec := { _root_.Go.OpenSpec.ofChange s with cond := some uptoSmall }

/-- 'photonmeshlaw04.SynthComposes', WHERE WHAT IT READS IS OF BULK AT MOST 1048576: true; the input reads as it did. -/
def synthComposesUptoRow : OpenClaim := { program := "ytccbinnlnkpplaa", sum := "467ef4ebe50dba96c17db29c112c7b0cc30f052d3ef2139e39bd84b1989e143a", func := "photonmesh/photonmeshlaw04.SynthComposes", spec := "synthComposes", unfollowed := true, recurses := true, apart := false, narrowed := true }
def SynthComposesUptoSaid : Prop := synthComposesUptoRow.holds Try.pinned (OpenSpec.upto synthComposesSpec)

/-- 'photonmeshlaw04.SynthPermsOf', WHERE WHAT IT READS IS OF BULK AT MOST 1048576: true; the input reads as it did. -/
def synthPermsOfUptoRow : OpenClaim := { program := "ytccbinnlnkpplaa", sum := "467ef4ebe50dba96c17db29c112c7b0cc30f052d3ef2139e39bd84b1989e143a", func := "photonmesh/photonmeshlaw04.SynthPermsOf", spec := "synthPermsOf", unfollowed := true, recurses := true, apart := false, narrowed := true }
def SynthPermsOfUptoSaid : Prop := synthPermsOfUptoRow.holds Try.pinned (OpenSpec.upto synthPermsOfSpec)

/-- 'photonmeshlaw04.SynthLeast', WHERE WHAT IT READS IS OF BULK AT MOST 1048576: true; the input reads as it did. -/
def synthLeastUptoRow : OpenClaim := { program := "ytccbinnlnkpplaa", sum := "467ef4ebe50dba96c17db29c112c7b0cc30f052d3ef2139e39bd84b1989e143a", func := "photonmesh/photonmeshlaw04.SynthLeast", spec := "synthLeast", inPlace := ["math/bits.Sub64", "math/bits.Add64"], unfollowed := true, recurses := true, apart := false, narrowed := true }
def SynthLeastUptoSaid : Prop := synthLeastUptoRow.holds Try.pinned (OpenSpec.upto synthLeastSpec)

/-- 'photonmeshlaw04.SynthSwitches', WHERE WHAT IT READS IS OF BULK AT MOST 1048576: true; the input reads as it did. -/
def synthSwitchesUptoRow : OpenClaim := { program := "ytccbinnlnkpplaa", sum := "467ef4ebe50dba96c17db29c112c7b0cc30f052d3ef2139e39bd84b1989e143a", func := "photonmesh/photonmeshlaw04.SynthSwitches", spec := "synthSwitches", unfollowed := true, recurses := true, apart := false, narrowed := true }
def SynthSwitchesUptoSaid : Prop := synthSwitchesUptoRow.holds Try.pinned (OpenSpec.upto synthSwitchesSpec)

/-- 'photonmeshlaw04.SynthEquals', WHERE WHAT IT READS IS OF BULK AT MOST 1048576: true; the input reads as it did. -/
def synthEqualsUptoRow : OpenClaim := { program := "ytccbinnlnkpplaa", sum := "467ef4ebe50dba96c17db29c112c7b0cc30f052d3ef2139e39bd84b1989e143a", func := "photonmesh/photonmeshlaw04.SynthEquals", spec := "synthEquals", unfollowed := true, recurses := true, apart := false, narrowed := true }
def SynthEqualsUptoSaid : Prop := synthEqualsUptoRow.holds Try.pinned (OpenSpec.upto synthEqualsSpec)

/-- 'photonmeshlaw04.SynthCrosses', WHERE WHAT IT READS IS OF BULK AT MOST 1048576: true; the input reads as it did. -/
def synthCrossesUptoRow : OpenClaim := { program := "ytccbinnlnkpplaa", sum := "467ef4ebe50dba96c17db29c112c7b0cc30f052d3ef2139e39bd84b1989e143a", func := "photonmesh/photonmeshlaw04.SynthCrosses", spec := "synthCrosses", unfollowed := true, recurses := true, apart := false, narrowed := true }
def SynthCrossesUptoSaid : Prop := synthCrossesUptoRow.holds Try.pinned (OpenSpec.upto synthCrossesSpec)

/-- 'photonmeshlaw04.SynthDiagonals', WHERE WHAT IT READS IS OF BULK AT MOST 1048576: true; the input reads as it did. -/
def synthDiagonalsUptoRow : OpenClaim := { program := "ytccbinnlnkpplaa", sum := "467ef4ebe50dba96c17db29c112c7b0cc30f052d3ef2139e39bd84b1989e143a", func := "photonmesh/photonmeshlaw04.SynthDiagonals", spec := "synthDiagonals", unfollowed := true, recurses := true, apart := false, narrowed := true }
def SynthDiagonalsUptoSaid : Prop := synthDiagonalsUptoRow.holds Try.pinned (OpenSpec.upto synthDiagonalsSpec)

/-- 'photonmeshlaw04.SynthPerms', WHERE WHAT IT READS IS OF BULK AT MOST 1048576: true; the input reads as it did. -/
def synthPermsUptoRow : OpenClaim := { program := "ytccbinnlnkpplaa", sum := "467ef4ebe50dba96c17db29c112c7b0cc30f052d3ef2139e39bd84b1989e143a", func := "photonmesh/photonmeshlaw04.SynthPerms", spec := "synthPerms", unfollowed := true, recurses := true, apart := false, narrowed := true }
def SynthPermsUptoSaid : Prop := synthPermsUptoRow.holds Try.pinned (OpenSpec.upto synthPermsSpec)

/-- 'photonmeshlaw04.SynthNearest', WHERE WHAT IT READS IS OF BULK AT MOST 1048576: true; the input reads as it did. -/
def synthNearestUptoRow : OpenClaim := { program := "ytccbinnlnkpplaa", sum := "467ef4ebe50dba96c17db29c112c7b0cc30f052d3ef2139e39bd84b1989e143a", func := "photonmesh/photonmeshlaw04.SynthNearest", spec := "synthNearest", inPlace := ["math/bits.Add64"], unfollowed := true, recurses := true, apart := false, narrowed := true }
def SynthNearestUptoSaid : Prop := synthNearestUptoRow.holds Try.pinned (OpenSpec.upto synthNearestSpec)

/-- 'photonmeshlaw04.SynthBars', WHERE WHAT IT READS IS OF BULK AT MOST 1048576: true; the input reads as it did. -/
def synthBarsUptoRow : OpenClaim := { program := "ytccbinnlnkpplaa", sum := "467ef4ebe50dba96c17db29c112c7b0cc30f052d3ef2139e39bd84b1989e143a", func := "photonmesh/photonmeshlaw04.SynthBars", spec := "synthBars", inPlace := ["math/bits.Sub64", "math/bits.Add64"], unfollowed := true, recurses := true, apart := false, narrowed := true }
def SynthBarsUptoSaid : Prop := synthBarsUptoRow.holds Try.pinned (OpenSpec.upto synthBarsSpec)

/-- 'photonmeshlaw04.SynthFewer', WHERE WHAT IT READS IS OF BULK AT MOST 1048576: true; the input reads as it did. -/
def synthFewerUptoRow : OpenClaim := { program := "ytccbinnlnkpplaa", sum := "467ef4ebe50dba96c17db29c112c7b0cc30f052d3ef2139e39bd84b1989e143a", func := "photonmesh/photonmeshlaw04.SynthFewer", spec := "synthFewer", inPlace := ["math/bits.Sub64", "math/bits.Add64"], unfollowed := true, recurses := true, apart := false, narrowed := true }
def SynthFewerUptoSaid : Prop := synthFewerUptoRow.holds Try.pinned (OpenSpec.upto synthFewerSpec)

end Rows
end Go.Proofs.Ytccbinnlnkpplaa
