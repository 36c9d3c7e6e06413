/-
  No cell of these rows narrows 'for every input' (looked for: loops, veiled, ifaces, maps, wideKeys, modest, calm, conditions, laid).
  DERIVED. THE GIVEN ROWS OF THIS SEAT. 15 by the template 'for every input the law returns true; each argument reads behind the call as it read before'; 0 by the template 'total and deterministic' (their statements: YtpbbbfglecbceaaTotals.lean).
  GIVEN WITH THE SEED: the statements are not yours to turn. If you find one false, say at which input.
  Laid BY PROGRAM, IN A SANDBOX (cutbox-rows.mjs): the forced cells as the released guide's own fill.sh prints them over the translation 40de3bcedee57362… (all of the seat's roots in one cut). By AI agents, Wed Nov 11 2026. No macro, syntax, notation, axiom, sorry.
-/
import Derived.Test.YtpbbbfglecbceaaChecked
import GoSem.Claim
import GoSem.ClaimJoined
import GoSem.ClaimMapViews
import Derived.JoinedTies
import Derived.KernelRfl
namespace Go.Proofs.Ytpbbbfglecbceaa
/- THE CELL 'sum', in the pinned program and in every row, IS THE sha256 OF THE DUMP (.gsa) THAT YtpbbbfglecbceaaProg.lean LOADS. Nothing in Lean hashes anything: it is a label: what it is worth is what the hold of that sum in a sandbox is worth. -/
noncomputable def Try.pinned : Pinned := { name := "ytpbbbfglecbceaa", sum := "40de3bcedee5736280d2e1955f390792136be18d8e2872dd8fb36a9605af94e5", checked := Try.checked }
namespace Rows
def none {H : Type} : Left H := { results := [], args := [] }

/-- 'photonmeshlaw05.EncloseUnits': WHATEVER THE INPUT: true; the input reads as it did. -/
def encloseUnitsSpec : ChangeSpec := { name := "encloseUnits", fn := fun _ => fun
  | [d] => { results := [.lit (.bool true)], args := [d] }
  | _ => none }
def encloseUnitsRow : OpenClaim := { program := "ytpbbbfglecbceaa", sum := "40de3bcedee5736280d2e1955f390792136be18d8e2872dd8fb36a9605af94e5", func := "photonmesh/photonmeshlaw05.EncloseUnits", spec := "encloseUnits", named := ["math/bits.divideError", "math/bits.overflowError"], apart := false }
def EncloseUnitsSaid : Prop := encloseUnitsRow.holds Try.pinned (OpenSpec.ofChange encloseUnitsSpec)

/-- ITS FALSE NEIGHBOUR: 'it returns false'. Refute it at one input. -/
def encloseUnitsWrong : ChangeSpec := { name := "encloseUnits", fn := fun _ => fun
  | [d] => { results := [.lit (.bool false)], args := [d] }
  | _ => none }
def EncloseUnitsWrongFalsely : Prop := encloseUnitsRow.holds Try.pinned (OpenSpec.ofChange encloseUnitsWrong)

/-- 'photonmeshlaw05.EncloseSums': WHATEVER THE INPUT: true; the input reads as it did. -/
def encloseSumsSpec : ChangeSpec := { name := "encloseSums", fn := fun _ => fun
  | [d1, d2] => { results := [.lit (.bool true)], args := [d1, d2] }
  | _ => none }
def encloseSumsRow : OpenClaim := { program := "ytpbbbfglecbceaa", sum := "40de3bcedee5736280d2e1955f390792136be18d8e2872dd8fb36a9605af94e5", func := "photonmesh/photonmeshlaw05.EncloseSums", spec := "encloseSums", unfollowed := true, recurses := true, named := ["math/bits.divideError", "math/bits.overflowError"], apart := false }
def EncloseSumsSaid : Prop := encloseSumsRow.holds Try.pinned (OpenSpec.ofChange encloseSumsSpec)

/-- ITS FALSE NEIGHBOUR: 'it returns false'. Refute it at one input. -/
def encloseSumsWrong : ChangeSpec := { name := "encloseSums", fn := fun _ => fun
  | [d1, d2] => { results := [.lit (.bool false)], args := [d1, d2] }
  | _ => none }
def EncloseSumsWrongFalsely : Prop := encloseSumsRow.holds Try.pinned (OpenSpec.ofChange encloseSumsWrong)

/-- 'photonmeshlaw05.EncloseRings': WHATEVER THE INPUT: true; the input reads as it did. -/
def encloseRingsSpec : ChangeSpec := { name := "encloseRings", fn := fun _ => fun
  | [d1, d2, d3] => { results := [.lit (.bool true)], args := [d1, d2, d3] }
  | _ => none }
def encloseRingsRow : OpenClaim := { program := "ytpbbbfglecbceaa", sum := "40de3bcedee5736280d2e1955f390792136be18d8e2872dd8fb36a9605af94e5", func := "photonmesh/photonmeshlaw05.EncloseRings", spec := "encloseRings", named := ["math/bits.divideError", "math/bits.overflowError"], apart := false }
def EncloseRingsSaid : Prop := encloseRingsRow.holds Try.pinned (OpenSpec.ofChange encloseRingsSpec)

/-- ITS FALSE NEIGHBOUR: 'it returns false'. Refute it at one input. -/
def encloseRingsWrong : ChangeSpec := { name := "encloseRings", fn := fun _ => fun
  | [d1, d2, d3] => { results := [.lit (.bool false)], args := [d1, d2, d3] }
  | _ => none }
def EncloseRingsWrongFalsely : Prop := encloseRingsRow.holds Try.pinned (OpenSpec.ofChange encloseRingsWrong)

/-- 'photonmeshlaw05.EnclosePowers': WHATEVER THE INPUT: true; the input reads as it did. -/
def enclosePowersSpec : ChangeSpec := { name := "enclosePowers", fn := fun _ => fun
  | [d1, d2] => { results := [.lit (.bool true)], args := [d1, d2] }
  | _ => none }
def enclosePowersRow : OpenClaim := { program := "ytpbbbfglecbceaa", sum := "40de3bcedee5736280d2e1955f390792136be18d8e2872dd8fb36a9605af94e5", func := "photonmesh/photonmeshlaw05.EnclosePowers", spec := "enclosePowers", unfollowed := true, recurses := true, named := ["math/bits.divideError", "math/bits.overflowError"], apart := false }
def EnclosePowersSaid : Prop := enclosePowersRow.holds Try.pinned (OpenSpec.ofChange enclosePowersSpec)

/-- ITS FALSE NEIGHBOUR: 'it returns false'. Refute it at one input. -/
def enclosePowersWrong : ChangeSpec := { name := "enclosePowers", fn := fun _ => fun
  | [d1, d2] => { results := [.lit (.bool false)], args := [d1, d2] }
  | _ => none }
def EnclosePowersWrongFalsely : Prop := enclosePowersRow.holds Try.pinned (OpenSpec.ofChange enclosePowersWrong)

/-- 'photonmeshlaw05.EncloseMeets': WHATEVER THE INPUT: true; the input reads as it did. -/
def encloseMeetsSpec : ChangeSpec := { name := "encloseMeets", fn := fun _ => fun
  | [d1, d2] => { results := [.lit (.bool true)], args := [d1, d2] }
  | _ => none }
def encloseMeetsRow : OpenClaim := { program := "ytpbbbfglecbceaa", sum := "40de3bcedee5736280d2e1955f390792136be18d8e2872dd8fb36a9605af94e5", func := "photonmesh/photonmeshlaw05.EncloseMeets", spec := "encloseMeets", unfollowed := true, recurses := true, named := ["math/bits.divideError", "math/bits.overflowError"], apart := false }
def EncloseMeetsSaid : Prop := encloseMeetsRow.holds Try.pinned (OpenSpec.ofChange encloseMeetsSpec)

/-- ITS FALSE NEIGHBOUR: 'it returns false'. Refute it at one input. -/
def encloseMeetsWrong : ChangeSpec := { name := "encloseMeets", fn := fun _ => fun
  | [d1, d2] => { results := [.lit (.bool false)], args := [d1, d2] }
  | _ => none }
def EncloseMeetsWrongFalsely : Prop := encloseMeetsRow.holds Try.pinned (OpenSpec.ofChange encloseMeetsWrong)

/-- 'photonmeshlaw05.EnclosePasses': WHATEVER THE INPUT: true; the input reads as it did. -/
def enclosePassesSpec : ChangeSpec := { name := "enclosePasses", fn := fun _ => fun
  | [d] => { results := [.lit (.bool true)], args := [d] }
  | _ => none }
def enclosePassesRow : OpenClaim := { program := "ytpbbbfglecbceaa", sum := "40de3bcedee5736280d2e1955f390792136be18d8e2872dd8fb36a9605af94e5", func := "photonmesh/photonmeshlaw05.EnclosePasses", spec := "enclosePasses", unfollowed := true, recurses := true, named := ["math/bits.divideError", "math/bits.overflowError"], apart := false }
def EnclosePassesSaid : Prop := enclosePassesRow.holds Try.pinned (OpenSpec.ofChange enclosePassesSpec)

/-- ITS FALSE NEIGHBOUR: 'it returns false'. Refute it at one input. -/
def enclosePassesWrong : ChangeSpec := { name := "enclosePasses", fn := fun _ => fun
  | [d] => { results := [.lit (.bool false)], args := [d] }
  | _ => none }
def EnclosePassesWrongFalsely : Prop := enclosePassesRow.holds Try.pinned (OpenSpec.ofChange enclosePassesWrong)

/-- 'photonmeshlaw05.EncloseHolds': WHATEVER THE INPUT: true; the input reads as it did. -/
def encloseHoldsSpec : ChangeSpec := { name := "encloseHolds", fn := fun _ => fun
  | [d1, d2, d3] => { results := [.lit (.bool true)], args := [d1, d2, d3] }
  | _ => none }
def encloseHoldsRow : OpenClaim := { program := "ytpbbbfglecbceaa", sum := "40de3bcedee5736280d2e1955f390792136be18d8e2872dd8fb36a9605af94e5", func := "photonmesh/photonmeshlaw05.EncloseHolds", spec := "encloseHolds", unfollowed := true, recurses := true, named := ["math/bits.divideError", "math/bits.overflowError"], apart := false }
def EncloseHoldsSaid : Prop := encloseHoldsRow.holds Try.pinned (OpenSpec.ofChange encloseHoldsSpec)

/-- ITS FALSE NEIGHBOUR: 'it returns false'. Refute it at one input. -/
def encloseHoldsWrong : ChangeSpec := { name := "encloseHolds", fn := fun _ => fun
  | [d1, d2, d3] => { results := [.lit (.bool false)], args := [d1, d2, d3] }
  | _ => none }
def EncloseHoldsWrongFalsely : Prop := encloseHoldsRow.holds Try.pinned (OpenSpec.ofChange encloseHoldsWrong)

/-- 'photonmeshlaw05.EncloseLost': WHATEVER THE INPUT: true; the input reads as it did. -/
def encloseLostSpec : ChangeSpec := { name := "encloseLost", fn := fun _ => fun
  | [d1, d2, d3] => { results := [.lit (.bool true)], args := [d1, d2, d3] }
  | _ => none }
def encloseLostRow : OpenClaim := { program := "ytpbbbfglecbceaa", sum := "40de3bcedee5736280d2e1955f390792136be18d8e2872dd8fb36a9605af94e5", func := "photonmesh/photonmeshlaw05.EncloseLost", spec := "encloseLost", named := ["math/bits.divideError", "math/bits.overflowError"], apart := false }
def EncloseLostSaid : Prop := encloseLostRow.holds Try.pinned (OpenSpec.ofChange encloseLostSpec)

/-- ITS FALSE NEIGHBOUR: 'it returns false'. Refute it at one input. -/
def encloseLostWrong : ChangeSpec := { name := "encloseLost", fn := fun _ => fun
  | [d1, d2, d3] => { results := [.lit (.bool false)], args := [d1, d2, d3] }
  | _ => none }
def EncloseLostWrongFalsely : Prop := encloseLostRow.holds Try.pinned (OpenSpec.ofChange encloseLostWrong)

/-- 'photonmeshlaw05.EncloseProducts': WHATEVER THE INPUT: true; the input reads as it did. -/
def encloseProductsSpec : ChangeSpec := { name := "encloseProducts", fn := fun _ => fun
  | [d1, d2] => { results := [.lit (.bool true)], args := [d1, d2] }
  | _ => none }
def encloseProductsRow : OpenClaim := { program := "ytpbbbfglecbceaa", sum := "40de3bcedee5736280d2e1955f390792136be18d8e2872dd8fb36a9605af94e5", func := "photonmesh/photonmeshlaw05.EncloseProducts", spec := "encloseProducts", unfollowed := true, recurses := true, named := ["math/bits.divideError", "math/bits.overflowError"], apart := false }
def EncloseProductsSaid : Prop := encloseProductsRow.holds Try.pinned (OpenSpec.ofChange encloseProductsSpec)

/-- ITS FALSE NEIGHBOUR: 'it returns false'. Refute it at one input. -/
def encloseProductsWrong : ChangeSpec := { name := "encloseProducts", fn := fun _ => fun
  | [d1, d2] => { results := [.lit (.bool false)], args := [d1, d2] }
  | _ => none }
def EncloseProductsWrongFalsely : Prop := encloseProductsRow.holds Try.pinned (OpenSpec.ofChange encloseProductsWrong)

/-- 'photonmeshlaw05.EncloseGrows': WHATEVER THE INPUT: true; the input reads as it did. -/
def encloseGrowsSpec : ChangeSpec := { name := "encloseGrows", fn := fun _ => fun
  | [d1, d2, d3, d4] => { results := [.lit (.bool true)], args := [d1, d2, d3, d4] }
  | _ => none }
def encloseGrowsRow : OpenClaim := { program := "ytpbbbfglecbceaa", sum := "40de3bcedee5736280d2e1955f390792136be18d8e2872dd8fb36a9605af94e5", func := "photonmesh/photonmeshlaw05.EncloseGrows", spec := "encloseGrows", unfollowed := true, recurses := true, named := ["math/bits.divideError", "math/bits.overflowError"], apart := false }
def EncloseGrowsSaid : Prop := encloseGrowsRow.holds Try.pinned (OpenSpec.ofChange encloseGrowsSpec)

/-- ITS FALSE NEIGHBOUR: 'it returns false'. Refute it at one input. -/
def encloseGrowsWrong : ChangeSpec := { name := "encloseGrows", fn := fun _ => fun
  | [d1, d2, d3, d4] => { results := [.lit (.bool false)], args := [d1, d2, d3, d4] }
  | _ => none }
def EncloseGrowsWrongFalsely : Prop := encloseGrowsRow.holds Try.pinned (OpenSpec.ofChange encloseGrowsWrong)

/-- 'photonmeshlaw05.EncloseStars': WHATEVER THE INPUT: true; the input reads as it did. -/
def encloseStarsSpec : ChangeSpec := { name := "encloseStars", fn := fun _ => fun
  | [d1, d2] => { results := [.lit (.bool true)], args := [d1, d2] }
  | _ => none }
def encloseStarsRow : OpenClaim := { program := "ytpbbbfglecbceaa", sum := "40de3bcedee5736280d2e1955f390792136be18d8e2872dd8fb36a9605af94e5", func := "photonmesh/photonmeshlaw05.EncloseStars", spec := "encloseStars", unfollowed := true, recurses := true, named := ["math/bits.divideError", "math/bits.overflowError"], apart := false }
def EncloseStarsSaid : Prop := encloseStarsRow.holds Try.pinned (OpenSpec.ofChange encloseStarsSpec)

/-- ITS FALSE NEIGHBOUR: 'it returns false'. Refute it at one input. -/
def encloseStarsWrong : ChangeSpec := { name := "encloseStars", fn := fun _ => fun
  | [d1, d2] => { results := [.lit (.bool false)], args := [d1, d2] }
  | _ => none }
def EncloseStarsWrongFalsely : Prop := encloseStarsRow.holds Try.pinned (OpenSpec.ofChange encloseStarsWrong)

/-- 'photonmeshlaw05.EncloseMirrors': WHATEVER THE INPUT: true; the input reads as it did. -/
def encloseMirrorsSpec : ChangeSpec := { name := "encloseMirrors", fn := fun _ => fun
  | [d1, d2] => { results := [.lit (.bool true)], args := [d1, d2] }
  | _ => none }
def encloseMirrorsRow : OpenClaim := { program := "ytpbbbfglecbceaa", sum := "40de3bcedee5736280d2e1955f390792136be18d8e2872dd8fb36a9605af94e5", func := "photonmesh/photonmeshlaw05.EncloseMirrors", spec := "encloseMirrors", unfollowed := true, recurses := true, named := ["math/bits.divideError", "math/bits.overflowError"], apart := false }
def EncloseMirrorsSaid : Prop := encloseMirrorsRow.holds Try.pinned (OpenSpec.ofChange encloseMirrorsSpec)

/-- ITS FALSE NEIGHBOUR: 'it returns false'. Refute it at one input. -/
def encloseMirrorsWrong : ChangeSpec := { name := "encloseMirrors", fn := fun _ => fun
  | [d1, d2] => { results := [.lit (.bool false)], args := [d1, d2] }
  | _ => none }
def EncloseMirrorsWrongFalsely : Prop := encloseMirrorsRow.holds Try.pinned (OpenSpec.ofChange encloseMirrorsWrong)

/-- 'photonmeshlaw05.EncloseParts': WHATEVER THE INPUT: true; the input reads as it did. -/
def enclosePartsSpec : ChangeSpec := { name := "encloseParts", fn := fun _ => fun
  | [d1, d2, d3] => { results := [.lit (.bool true)], args := [d1, d2, d3] }
  | _ => none }
def enclosePartsRow : OpenClaim := { program := "ytpbbbfglecbceaa", sum := "40de3bcedee5736280d2e1955f390792136be18d8e2872dd8fb36a9605af94e5", func := "photonmesh/photonmeshlaw05.EncloseParts", spec := "encloseParts", inPlace := ["math/bits.Add64"], recurses := true, named := ["math/bits.divideError", "math/bits.overflowError"], apart := false }
def EnclosePartsSaid : Prop := enclosePartsRow.holds Try.pinned (OpenSpec.ofChange enclosePartsSpec)

/-- ITS FALSE NEIGHBOUR: 'it returns false'. Refute it at one input. -/
def enclosePartsWrong : ChangeSpec := { name := "encloseParts", fn := fun _ => fun
  | [d1, d2, d3] => { results := [.lit (.bool false)], args := [d1, d2, d3] }
  | _ => none }
def EnclosePartsWrongFalsely : Prop := enclosePartsRow.holds Try.pinned (OpenSpec.ofChange enclosePartsWrong)

/-- 'photonmeshlaw05.EncloseCircle': WHATEVER THE INPUT: true; the input reads as it did. -/
def encloseCircleSpec : ChangeSpec := { name := "encloseCircle", fn := fun _ => fun
  | [d] => { results := [.lit (.bool true)], args := [d] }
  | _ => none }
def encloseCircleRow : OpenClaim := { program := "ytpbbbfglecbceaa", sum := "40de3bcedee5736280d2e1955f390792136be18d8e2872dd8fb36a9605af94e5", func := "photonmesh/photonmeshlaw05.EncloseCircle", spec := "encloseCircle", inPlace := ["math/bits.Add64"], unfollowed := true, recurses := true, named := ["math/bits.divideError", "math/bits.overflowError"], apart := false }
def EncloseCircleSaid : Prop := encloseCircleRow.holds Try.pinned (OpenSpec.ofChange encloseCircleSpec)

/-- ITS FALSE NEIGHBOUR: 'it returns false'. Refute it at one input. -/
def encloseCircleWrong : ChangeSpec := { name := "encloseCircle", fn := fun _ => fun
  | [d] => { results := [.lit (.bool false)], args := [d] }
  | _ => none }
def EncloseCircleWrongFalsely : Prop := encloseCircleRow.holds Try.pinned (OpenSpec.ofChange encloseCircleWrong)

/-- 'photonmeshlaw05.EncloseExact': WHATEVER THE INPUT: true; the input reads as it did. -/
def encloseExactSpec : ChangeSpec := { name := "encloseExact", fn := fun _ => fun
  | [d1, d2] => { results := [.lit (.bool true)], args := [d1, d2] }
  | _ => none }
def encloseExactRow : OpenClaim := { program := "ytpbbbfglecbceaa", sum := "40de3bcedee5736280d2e1955f390792136be18d8e2872dd8fb36a9605af94e5", func := "photonmesh/photonmeshlaw05.EncloseExact", spec := "encloseExact", inPlace := ["math/bits.Add64"], unfollowed := true, recurses := true, named := ["math/bits.divideError", "math/bits.overflowError"], apart := false }
def EncloseExactSaid : Prop := encloseExactRow.holds Try.pinned (OpenSpec.ofChange encloseExactSpec)

/-- ITS FALSE NEIGHBOUR: 'it returns false'. Refute it at one input. -/
def encloseExactWrong : ChangeSpec := { name := "encloseExact", fn := fun _ => fun
  | [d1, d2] => { results := [.lit (.bool false)], args := [d1, d2] }
  | _ => none }
def EncloseExactWrongFalsely : Prop := encloseExactRow.holds Try.pinned (OpenSpec.ofChange encloseExactWrong)

/- THE SECOND FORM. 'bulk': how many values and letters a reading holds, each counted each time it is reached (what is shared counts as often as it is met; a slice's spare places count too). A statement '..UptoSaid' is the law's where the arguments, and the package variables that the reading takes, are together of bulk at most 1048576: NARROWER than '..Said'. Prove '..Said' where nothing that the law and all that it calls make is longer than what came in: it says more and counts as full. Else prove '..UptoSaid'. A law counts once. -/
mutual
def uptoBulk {H : Type} : DataW H → Nat
  | .lit (.string bytes) => bytes.length + 1
  | .lit _ => 1
  | .nil => 1
  | .ptr d => uptoBulk d + 1
  | .slice elems spare => uptoBulkAll elems + uptoBulkAll spare + 1
  | .agg parts => uptoBulkAll parts + 1
  | .iface _ d => uptoBulk d + 1
  | .map entries => uptoBulkEntries entries + 1
  | .held _ => 1
def uptoBulkAll {H : Type} : List (DataW H) → Nat
  | [] => 0
  | d :: r => uptoBulk d + uptoBulkAll r
def uptoBulkEntries {H : Type} : List (Lit × DataW H) → Nat
  | [] => 0
  | x :: r => uptoBulkEntry x + uptoBulkEntries r
def uptoBulkEntry {H : Type} : Lit × DataW H → Nat
  | (.string bytes, d) => bytes.length + uptoBulk d + 1
  | (_, d) => uptoBulk d + 1
 end
def uptoSmall : (H : Type) → List (DataW H) → Bool := fun _ ds => decide (uptoBulkAll ds ≤ 1048576)
def OpenSpec.upto (s : _root_.Go.ChangeSpec) : _root_.Go.OpenSpec := { _root_.Go.OpenSpec.ofChange s with cond := some uptoSmall }

/-- 'photonmeshlaw05.EncloseUnits', WHERE WHAT IT READS IS OF BULK AT MOST 1048576: true; the input reads as it did. -/
def encloseUnitsUptoRow : OpenClaim := { program := "ytpbbbfglecbceaa", sum := "40de3bcedee5736280d2e1955f390792136be18d8e2872dd8fb36a9605af94e5", func := "photonmesh/photonmeshlaw05.EncloseUnits", spec := "encloseUnits", named := ["math/bits.divideError", "math/bits.overflowError"], apart := false, narrowed := true }
def EncloseUnitsUptoSaid : Prop := encloseUnitsUptoRow.holds Try.pinned (OpenSpec.upto encloseUnitsSpec)

/-- 'photonmeshlaw05.EncloseSums', WHERE WHAT IT READS IS OF BULK AT MOST 1048576: true; the input reads as it did. -/
def encloseSumsUptoRow : OpenClaim := { program := "ytpbbbfglecbceaa", sum := "40de3bcedee5736280d2e1955f390792136be18d8e2872dd8fb36a9605af94e5", func := "photonmesh/photonmeshlaw05.EncloseSums", spec := "encloseSums", unfollowed := true, recurses := true, named := ["math/bits.divideError", "math/bits.overflowError"], apart := false, narrowed := true }
def EncloseSumsUptoSaid : Prop := encloseSumsUptoRow.holds Try.pinned (OpenSpec.upto encloseSumsSpec)

/-- 'photonmeshlaw05.EncloseRings', WHERE WHAT IT READS IS OF BULK AT MOST 1048576: true; the input reads as it did. -/
def encloseRingsUptoRow : OpenClaim := { program := "ytpbbbfglecbceaa", sum := "40de3bcedee5736280d2e1955f390792136be18d8e2872dd8fb36a9605af94e5", func := "photonmesh/photonmeshlaw05.EncloseRings", spec := "encloseRings", named := ["math/bits.divideError", "math/bits.overflowError"], apart := false, narrowed := true }
def EncloseRingsUptoSaid : Prop := encloseRingsUptoRow.holds Try.pinned (OpenSpec.upto encloseRingsSpec)

/-- 'photonmeshlaw05.EnclosePowers', WHERE WHAT IT READS IS OF BULK AT MOST 1048576: true; the input reads as it did. -/
def enclosePowersUptoRow : OpenClaim := { program := "ytpbbbfglecbceaa", sum := "40de3bcedee5736280d2e1955f390792136be18d8e2872dd8fb36a9605af94e5", func := "photonmesh/photonmeshlaw05.EnclosePowers", spec := "enclosePowers", unfollowed := true, recurses := true, named := ["math/bits.divideError", "math/bits.overflowError"], apart := false, narrowed := true }
def EnclosePowersUptoSaid : Prop := enclosePowersUptoRow.holds Try.pinned (OpenSpec.upto enclosePowersSpec)

/-- 'photonmeshlaw05.EncloseMeets', WHERE WHAT IT READS IS OF BULK AT MOST 1048576: true; the input reads as it did. -/
def encloseMeetsUptoRow : OpenClaim := { program := "ytpbbbfglecbceaa", sum := "40de3bcedee5736280d2e1955f390792136be18d8e2872dd8fb36a9605af94e5", func := "photonmesh/photonmeshlaw05.EncloseMeets", spec := "encloseMeets", unfollowed := true, recurses := true, named := ["math/bits.divideError", "math/bits.overflowError"], apart := false, narrowed := true }
def EncloseMeetsUptoSaid : Prop := encloseMeetsUptoRow.holds Try.pinned (OpenSpec.upto encloseMeetsSpec)

/-- 'photonmeshlaw05.EnclosePasses', WHERE WHAT IT READS IS OF BULK AT MOST 1048576: true; the input reads as it did. -/
def enclosePassesUptoRow : OpenClaim := { program := "ytpbbbfglecbceaa", sum := "40de3bcedee5736280d2e1955f390792136be18d8e2872dd8fb36a9605af94e5", func := "photonmesh/photonmeshlaw05.EnclosePasses", spec := "enclosePasses", unfollowed := true, recurses := true, named := ["math/bits.divideError", "math/bits.overflowError"], apart := false, narrowed := true }
def EnclosePassesUptoSaid : Prop := enclosePassesUptoRow.holds Try.pinned (OpenSpec.upto enclosePassesSpec)

/-- 'photonmeshlaw05.EncloseHolds', WHERE WHAT IT READS IS OF BULK AT MOST 1048576: true; the input reads as it did. -/
def encloseHoldsUptoRow : OpenClaim := { program := "ytpbbbfglecbceaa", sum := "40de3bcedee5736280d2e1955f390792136be18d8e2872dd8fb36a9605af94e5", func := "photonmesh/photonmeshlaw05.EncloseHolds", spec := "encloseHolds", unfollowed := true, recurses := true, named := ["math/bits.divideError", "math/bits.overflowError"], apart := false, narrowed := true }
def EncloseHoldsUptoSaid : Prop := encloseHoldsUptoRow.holds Try.pinned (OpenSpec.upto encloseHoldsSpec)

/-- 'photonmeshlaw05.EncloseLost', WHERE WHAT IT READS IS OF BULK AT MOST 1048576: true; the input reads as it did. -/
def encloseLostUptoRow : OpenClaim := { program := "ytpbbbfglecbceaa", sum := "40de3bcedee5736280d2e1955f390792136be18d8e2872dd8fb36a9605af94e5", func := "photonmesh/photonmeshlaw05.EncloseLost", spec := "encloseLost", named := ["math/bits.divideError", "math/bits.overflowError"], apart := false, narrowed := true }
def EncloseLostUptoSaid : Prop := encloseLostUptoRow.holds Try.pinned (OpenSpec.upto encloseLostSpec)

/-- 'photonmeshlaw05.EncloseProducts', WHERE WHAT IT READS IS OF BULK AT MOST 1048576: true; the input reads as it did. -/
def encloseProductsUptoRow : OpenClaim := { program := "ytpbbbfglecbceaa", sum := "40de3bcedee5736280d2e1955f390792136be18d8e2872dd8fb36a9605af94e5", func := "photonmesh/photonmeshlaw05.EncloseProducts", spec := "encloseProducts", unfollowed := true, recurses := true, named := ["math/bits.divideError", "math/bits.overflowError"], apart := false, narrowed := true }
def EncloseProductsUptoSaid : Prop := encloseProductsUptoRow.holds Try.pinned (OpenSpec.upto encloseProductsSpec)

/-- 'photonmeshlaw05.EncloseGrows', WHERE WHAT IT READS IS OF BULK AT MOST 1048576: true; the input reads as it did. -/
def encloseGrowsUptoRow : OpenClaim := { program := "ytpbbbfglecbceaa", sum := "40de3bcedee5736280d2e1955f390792136be18d8e2872dd8fb36a9605af94e5", func := "photonmesh/photonmeshlaw05.EncloseGrows", spec := "encloseGrows", unfollowed := true, recurses := true, named := ["math/bits.divideError", "math/bits.overflowError"], apart := false, narrowed := true }
def EncloseGrowsUptoSaid : Prop := encloseGrowsUptoRow.holds Try.pinned (OpenSpec.upto encloseGrowsSpec)

/-- 'photonmeshlaw05.EncloseStars', WHERE WHAT IT READS IS OF BULK AT MOST 1048576: true; the input reads as it did. -/
def encloseStarsUptoRow : OpenClaim := { program := "ytpbbbfglecbceaa", sum := "40de3bcedee5736280d2e1955f390792136be18d8e2872dd8fb36a9605af94e5", func := "photonmesh/photonmeshlaw05.EncloseStars", spec := "encloseStars", unfollowed := true, recurses := true, named := ["math/bits.divideError", "math/bits.overflowError"], apart := false, narrowed := true }
def EncloseStarsUptoSaid : Prop := encloseStarsUptoRow.holds Try.pinned (OpenSpec.upto encloseStarsSpec)

/-- 'photonmeshlaw05.EncloseMirrors', WHERE WHAT IT READS IS OF BULK AT MOST 1048576: true; the input reads as it did. -/
def encloseMirrorsUptoRow : OpenClaim := { program := "ytpbbbfglecbceaa", sum := "40de3bcedee5736280d2e1955f390792136be18d8e2872dd8fb36a9605af94e5", func := "photonmesh/photonmeshlaw05.EncloseMirrors", spec := "encloseMirrors", unfollowed := true, recurses := true, named := ["math/bits.divideError", "math/bits.overflowError"], apart := false, narrowed := true }
def EncloseMirrorsUptoSaid : Prop := encloseMirrorsUptoRow.holds Try.pinned (OpenSpec.upto encloseMirrorsSpec)

/-- 'photonmeshlaw05.EncloseParts', WHERE WHAT IT READS IS OF BULK AT MOST 1048576: true; the input reads as it did. -/
def enclosePartsUptoRow : OpenClaim := { program := "ytpbbbfglecbceaa", sum := "40de3bcedee5736280d2e1955f390792136be18d8e2872dd8fb36a9605af94e5", func := "photonmesh/photonmeshlaw05.EncloseParts", spec := "encloseParts", inPlace := ["math/bits.Add64"], recurses := true, named := ["math/bits.divideError", "math/bits.overflowError"], apart := false, narrowed := true }
def EnclosePartsUptoSaid : Prop := enclosePartsUptoRow.holds Try.pinned (OpenSpec.upto enclosePartsSpec)

/-- 'photonmeshlaw05.EncloseCircle', WHERE WHAT IT READS IS OF BULK AT MOST 1048576: true; the input reads as it did. -/
def encloseCircleUptoRow : OpenClaim := { program := "ytpbbbfglecbceaa", sum := "40de3bcedee5736280d2e1955f390792136be18d8e2872dd8fb36a9605af94e5", func := "photonmesh/photonmeshlaw05.EncloseCircle", spec := "encloseCircle", inPlace := ["math/bits.Add64"], unfollowed := true, recurses := true, named := ["math/bits.divideError", "math/bits.overflowError"], apart := false, narrowed := true }
def EncloseCircleUptoSaid : Prop := encloseCircleUptoRow.holds Try.pinned (OpenSpec.upto encloseCircleSpec)

/-- 'photonmeshlaw05.EncloseExact', WHERE WHAT IT READS IS OF BULK AT MOST 1048576: true; the input reads as it did. -/
def encloseExactUptoRow : OpenClaim := { program := "ytpbbbfglecbceaa", sum := "40de3bcedee5736280d2e1955f390792136be18d8e2872dd8fb36a9605af94e5", func := "photonmesh/photonmeshlaw05.EncloseExact", spec := "encloseExact", inPlace := ["math/bits.Add64"], unfollowed := true, recurses := true, named := ["math/bits.divideError", "math/bits.overflowError"], apart := false, narrowed := true }
def EncloseExactUptoSaid : Prop := encloseExactUptoRow.holds Try.pinned (OpenSpec.upto encloseExactSpec)

end Rows
end Go.Proofs.Ytpbbbfglecbceaa
