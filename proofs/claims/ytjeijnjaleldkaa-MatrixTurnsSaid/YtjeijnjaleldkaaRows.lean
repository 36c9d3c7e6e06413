/-
  No cell of these rows narrows 'for every input' (looked for: loops, veiled, ifaces, maps, wideKeys, modest, calm, conditions, laid).
  DERIVED. THE GIVEN ROWS OF THIS SEAT. 12 by the template 'for every input the law returns true; each argument reads behind the call as it read before'; 0 by the template 'total and deterministic' (their statements: YtjeijnjaleldkaaTotals.lean).
  GIVEN WITH THE SEED: the statements are not yours to turn. If you find one false, say at which input.
  Laid BY PROGRAM, IN A SANDBOX (cutbox-rows.mjs): the forced cells as the released guide's own fill.sh prints them over the translation 08faf7633c248279… (all of the seat's roots in one cut). By AI agents, Wed Nov 11 2026. No macro, syntax, notation, axiom, sorry.
-/
import Derived.Test.YtjeijnjaleldkaaChecked
import GoSem.Claim
import GoSem.ClaimJoined
import GoSem.ClaimMapViews
import Derived.JoinedTies
import Derived.KernelRfl
namespace Go.Proofs.Ytjeijnjaleldkaa
/- THE CELL 'sum', in the pinned program and in every row, IS THE sha256 OF THE DUMP (.gsa) THAT YtjeijnjaleldkaaProg.lean LOADS. Nothing in Lean hashes anything: it is a label: what it is worth is what the hold of that sum in a sandbox is worth. -/
noncomputable def Try.pinned : Pinned := { name := "ytjeijnjaleldkaa", sum := "08faf7633c2482792cbfe3e573ae2faaa9224c1ee6df5ca0ca73dce056dde0c8", checked := Try.checked }
namespace Rows
def none {H : Type} : Left H := { results := [], args := [] }

/-- 'photonmeshlaw02.MatrixPermanents': WHATEVER THE INPUT: true; the input reads as it did. -/
def matrixPermanentsSpec : ChangeSpec := { name := "matrixPermanents", fn := fun _ => fun
  | [d] => { results := [.lit (.bool true)], args := [d] }
  | _ => none }
def matrixPermanentsRow : OpenClaim := { program := "ytjeijnjaleldkaa", sum := "08faf7633c2482792cbfe3e573ae2faaa9224c1ee6df5ca0ca73dce056dde0c8", func := "photonmesh/photonmeshlaw02.MatrixPermanents", spec := "matrixPermanents", inPlace := ["math/bits.Sub64", "math/bits.Add64"], unfollowed := true, recurses := true, plainKeys := false, apart := false }
def MatrixPermanentsSaid : Prop := matrixPermanentsRow.holds Try.pinned (OpenSpec.ofChange matrixPermanentsSpec)

/-- ITS FALSE NEIGHBOUR: 'it returns false'. Refute it at one input. -/
def matrixPermanentsWrong : ChangeSpec := { name := "matrixPermanents", fn := fun _ => fun
  | [d] => { results := [.lit (.bool false)], args := [d] }
  | _ => none }
def MatrixPermanentsWrongFalsely : Prop := matrixPermanentsRow.holds Try.pinned (OpenSpec.ofChange matrixPermanentsWrong)

/-- 'photonmeshlaw02.MatrixPatterns': WHATEVER THE INPUT: true; the input reads as it did. -/
def matrixPatternsSpec : ChangeSpec := { name := "matrixPatterns", fn := fun _ => fun
  | [d1, d2] => { results := [.lit (.bool true)], args := [d1, d2] }
  | _ => none }
def matrixPatternsRow : OpenClaim := { program := "ytjeijnjaleldkaa", sum := "08faf7633c2482792cbfe3e573ae2faaa9224c1ee6df5ca0ca73dce056dde0c8", func := "photonmesh/photonmeshlaw02.MatrixPatterns", spec := "matrixPatterns", inPlace := ["math/bits.Sub64", "math/bits.Add64"], unfollowed := true, recurses := true, plainKeys := false, apart := false }
def MatrixPatternsSaid : Prop := matrixPatternsRow.holds Try.pinned (OpenSpec.ofChange matrixPatternsSpec)

/-- ITS FALSE NEIGHBOUR: 'it returns false'. Refute it at one input. -/
def matrixPatternsWrong : ChangeSpec := { name := "matrixPatterns", fn := fun _ => fun
  | [d1, d2] => { results := [.lit (.bool false)], args := [d1, d2] }
  | _ => none }
def MatrixPatternsWrongFalsely : Prop := matrixPatternsRow.holds Try.pinned (OpenSpec.ofChange matrixPatternsWrong)

/-- 'photonmeshlaw02.MatrixForms': WHATEVER THE INPUT: true; the input reads as it did. -/
def matrixFormsSpec : ChangeSpec := { name := "matrixForms", fn := fun _ => fun
  | [d1, d2] => { results := [.lit (.bool true)], args := [d1, d2] }
  | _ => none }
def matrixFormsRow : OpenClaim := { program := "ytjeijnjaleldkaa", sum := "08faf7633c2482792cbfe3e573ae2faaa9224c1ee6df5ca0ca73dce056dde0c8", func := "photonmesh/photonmeshlaw02.MatrixForms", spec := "matrixForms", inPlace := ["math/bits.Sub64", "math/bits.Add64"], unfollowed := true, recurses := true, plainKeys := false, apart := false }
def MatrixFormsSaid : Prop := matrixFormsRow.holds Try.pinned (OpenSpec.ofChange matrixFormsSpec)

/-- ITS FALSE NEIGHBOUR: 'it returns false'. Refute it at one input. -/
def matrixFormsWrong : ChangeSpec := { name := "matrixForms", fn := fun _ => fun
  | [d1, d2] => { results := [.lit (.bool false)], args := [d1, d2] }
  | _ => none }
def MatrixFormsWrongFalsely : Prop := matrixFormsRow.holds Try.pinned (OpenSpec.ofChange matrixFormsWrong)

/-- 'photonmeshlaw02.MatrixMonomials': WHATEVER THE INPUT: true; the input reads as it did. -/
def matrixMonomialsSpec : ChangeSpec := { name := "matrixMonomials", fn := fun _ => fun
  | [d] => { results := [.lit (.bool true)], args := [d] }
  | _ => none }
def matrixMonomialsRow : OpenClaim := { program := "ytjeijnjaleldkaa", sum := "08faf7633c2482792cbfe3e573ae2faaa9224c1ee6df5ca0ca73dce056dde0c8", func := "photonmesh/photonmeshlaw02.MatrixMonomials", spec := "matrixMonomials", inPlace := ["math/bits.Sub64", "math/bits.Add64"], unfollowed := true, recurses := true, plainKeys := false, apart := false }
def MatrixMonomialsSaid : Prop := matrixMonomialsRow.holds Try.pinned (OpenSpec.ofChange matrixMonomialsSpec)

/-- ITS FALSE NEIGHBOUR: 'it returns false'. Refute it at one input. -/
def matrixMonomialsWrong : ChangeSpec := { name := "matrixMonomials", fn := fun _ => fun
  | [d] => { results := [.lit (.bool false)], args := [d] }
  | _ => none }
def MatrixMonomialsWrongFalsely : Prop := matrixMonomialsRow.holds Try.pinned (OpenSpec.ofChange matrixMonomialsWrong)

/-- 'photonmeshlaw02.MatrixUnitary': WHATEVER THE INPUT: true; the input reads as it did. -/
def matrixUnitarySpec : ChangeSpec := { name := "matrixUnitary", fn := fun _ => fun
  | [d] => { results := [.lit (.bool true)], args := [d] }
  | _ => none }
def matrixUnitaryRow : OpenClaim := { program := "ytjeijnjaleldkaa", sum := "08faf7633c2482792cbfe3e573ae2faaa9224c1ee6df5ca0ca73dce056dde0c8", func := "photonmesh/photonmeshlaw02.MatrixUnitary", spec := "matrixUnitary", inPlace := ["math/bits.Sub64", "math/bits.Add64"], unfollowed := true, recurses := true, plainKeys := false, apart := false }
def MatrixUnitarySaid : Prop := matrixUnitaryRow.holds Try.pinned (OpenSpec.ofChange matrixUnitarySpec)

/-- ITS FALSE NEIGHBOUR: 'it returns false'. Refute it at one input. -/
def matrixUnitaryWrong : ChangeSpec := { name := "matrixUnitary", fn := fun _ => fun
  | [d] => { results := [.lit (.bool false)], args := [d] }
  | _ => none }
def MatrixUnitaryWrongFalsely : Prop := matrixUnitaryRow.holds Try.pinned (OpenSpec.ofChange matrixUnitaryWrong)

/-- 'photonmeshlaw02.MatrixAlike': WHATEVER THE INPUT: true; the input reads as it did. -/
def matrixAlikeSpec : ChangeSpec := { name := "matrixAlike", fn := fun _ => fun
  | [d1, d2] => { results := [.lit (.bool true)], args := [d1, d2] }
  | _ => none }
def matrixAlikeRow : OpenClaim := { program := "ytjeijnjaleldkaa", sum := "08faf7633c2482792cbfe3e573ae2faaa9224c1ee6df5ca0ca73dce056dde0c8", func := "photonmesh/photonmeshlaw02.MatrixAlike", spec := "matrixAlike", inPlace := ["math/bits.Sub64", "math/bits.Add64"], unfollowed := true, recurses := true, plainKeys := false, apart := false }
def MatrixAlikeSaid : Prop := matrixAlikeRow.holds Try.pinned (OpenSpec.ofChange matrixAlikeSpec)

/-- ITS FALSE NEIGHBOUR: 'it returns false'. Refute it at one input. -/
def matrixAlikeWrong : ChangeSpec := { name := "matrixAlike", fn := fun _ => fun
  | [d1, d2] => { results := [.lit (.bool false)], args := [d1, d2] }
  | _ => none }
def MatrixAlikeWrongFalsely : Prop := matrixAlikeRow.holds Try.pinned (OpenSpec.ofChange matrixAlikeWrong)

/-- 'photonmeshlaw02.MatrixTurns': WHATEVER THE INPUT: true; the input reads as it did. -/
def matrixTurnsSpec : ChangeSpec := { name := "matrixTurns", fn := fun _ => fun
  | [d1, d2] => { results := [.lit (.bool true)], args := [d1, d2] }
  | _ => none }
def matrixTurnsRow : OpenClaim := { program := "ytjeijnjaleldkaa", sum := "08faf7633c2482792cbfe3e573ae2faaa9224c1ee6df5ca0ca73dce056dde0c8", func := "photonmesh/photonmeshlaw02.MatrixTurns", spec := "matrixTurns", inPlace := ["math/bits.Sub64", "math/bits.Add64"], unfollowed := true, recurses := true, plainKeys := false, apart := false }
def MatrixTurnsSaid : Prop := matrixTurnsRow.holds Try.pinned (OpenSpec.ofChange matrixTurnsSpec)

/-- ITS FALSE NEIGHBOUR: 'it returns false'. Refute it at one input. -/
def matrixTurnsWrong : ChangeSpec := { name := "matrixTurns", fn := fun _ => fun
  | [d1, d2] => { results := [.lit (.bool false)], args := [d1, d2] }
  | _ => none }
def MatrixTurnsWrongFalsely : Prop := matrixTurnsRow.holds Try.pinned (OpenSpec.ofChange matrixTurnsWrong)

/-- 'photonmeshlaw02.MatrixChances': WHATEVER THE INPUT: true; the input reads as it did. -/
def matrixChancesSpec : ChangeSpec := { name := "matrixChances", fn := fun _ => fun
  | [d1, d2] => { results := [.lit (.bool true)], args := [d1, d2] }
  | _ => none }
def matrixChancesRow : OpenClaim := { program := "ytjeijnjaleldkaa", sum := "08faf7633c2482792cbfe3e573ae2faaa9224c1ee6df5ca0ca73dce056dde0c8", func := "photonmesh/photonmeshlaw02.MatrixChances", spec := "matrixChances", inPlace := ["math/bits.Sub64", "math/bits.Add64"], unfollowed := true, recurses := true, plainKeys := false, apart := false }
def MatrixChancesSaid : Prop := matrixChancesRow.holds Try.pinned (OpenSpec.ofChange matrixChancesSpec)

/-- ITS FALSE NEIGHBOUR: 'it returns false'. Refute it at one input. -/
def matrixChancesWrong : ChangeSpec := { name := "matrixChances", fn := fun _ => fun
  | [d1, d2] => { results := [.lit (.bool false)], args := [d1, d2] }
  | _ => none }
def MatrixChancesWrongFalsely : Prop := matrixChancesRow.holds Try.pinned (OpenSpec.ofChange matrixChancesWrong)

/-- 'photonmeshlaw02.MatrixProducts': WHATEVER THE INPUT: true; the input reads as it did. -/
def matrixProductsSpec : ChangeSpec := { name := "matrixProducts", fn := fun _ => fun
  | [d1, d2] => { results := [.lit (.bool true)], args := [d1, d2] }
  | _ => none }
def matrixProductsRow : OpenClaim := { program := "ytjeijnjaleldkaa", sum := "08faf7633c2482792cbfe3e573ae2faaa9224c1ee6df5ca0ca73dce056dde0c8", func := "photonmesh/photonmeshlaw02.MatrixProducts", spec := "matrixProducts", inPlace := ["math/bits.Sub64", "math/bits.Add64"], unfollowed := true, recurses := true, plainKeys := false, apart := false }
def MatrixProductsSaid : Prop := matrixProductsRow.holds Try.pinned (OpenSpec.ofChange matrixProductsSpec)

/-- ITS FALSE NEIGHBOUR: 'it returns false'. Refute it at one input. -/
def matrixProductsWrong : ChangeSpec := { name := "matrixProducts", fn := fun _ => fun
  | [d1, d2] => { results := [.lit (.bool false)], args := [d1, d2] }
  | _ => none }
def MatrixProductsWrongFalsely : Prop := matrixProductsRow.holds Try.pinned (OpenSpec.ofChange matrixProductsWrong)

/-- 'photonmeshlaw02.MatrixApplies': WHATEVER THE INPUT: true; the input reads as it did. -/
def matrixAppliesSpec : ChangeSpec := { name := "matrixApplies", fn := fun _ => fun
  | [d1, d2] => { results := [.lit (.bool true)], args := [d1, d2] }
  | _ => none }
def matrixAppliesRow : OpenClaim := { program := "ytjeijnjaleldkaa", sum := "08faf7633c2482792cbfe3e573ae2faaa9224c1ee6df5ca0ca73dce056dde0c8", func := "photonmesh/photonmeshlaw02.MatrixApplies", spec := "matrixApplies", inPlace := ["math/bits.Sub64", "math/bits.Add64"], unfollowed := true, recurses := true, plainKeys := false, apart := false }
def MatrixAppliesSaid : Prop := matrixAppliesRow.holds Try.pinned (OpenSpec.ofChange matrixAppliesSpec)

/-- ITS FALSE NEIGHBOUR: 'it returns false'. Refute it at one input. -/
def matrixAppliesWrong : ChangeSpec := { name := "matrixApplies", fn := fun _ => fun
  | [d1, d2] => { results := [.lit (.bool false)], args := [d1, d2] }
  | _ => none }
def MatrixAppliesWrongFalsely : Prop := matrixAppliesRow.holds Try.pinned (OpenSpec.ofChange matrixAppliesWrong)

/-- 'photonmeshlaw02.MatrixLight': WHATEVER THE INPUT: true; the input reads as it did. -/
def matrixLightSpec : ChangeSpec := { name := "matrixLight", fn := fun _ => fun
  | [d1, d2] => { results := [.lit (.bool true)], args := [d1, d2] }
  | _ => none }
def matrixLightRow : OpenClaim := { program := "ytjeijnjaleldkaa", sum := "08faf7633c2482792cbfe3e573ae2faaa9224c1ee6df5ca0ca73dce056dde0c8", func := "photonmesh/photonmeshlaw02.MatrixLight", spec := "matrixLight", inPlace := ["math/bits.Sub64", "math/bits.Add64"], unfollowed := true, recurses := true, plainKeys := false, apart := false }
def MatrixLightSaid : Prop := matrixLightRow.holds Try.pinned (OpenSpec.ofChange matrixLightSpec)

/-- ITS FALSE NEIGHBOUR: 'it returns false'. Refute it at one input. -/
def matrixLightWrong : ChangeSpec := { name := "matrixLight", fn := fun _ => fun
  | [d1, d2] => { results := [.lit (.bool false)], args := [d1, d2] }
  | _ => none }
def MatrixLightWrongFalsely : Prop := matrixLightRow.holds Try.pinned (OpenSpec.ofChange matrixLightWrong)

/-- 'photonmeshlaw02.MatrixAlgebra': WHATEVER THE INPUT: true; the input reads as it did. -/
def matrixAlgebraSpec : ChangeSpec := { name := "matrixAlgebra", fn := fun _ => fun
  | [d1, d2, d3] => { results := [.lit (.bool true)], args := [d1, d2, d3] }
  | _ => none }
def matrixAlgebraRow : OpenClaim := { program := "ytjeijnjaleldkaa", sum := "08faf7633c2482792cbfe3e573ae2faaa9224c1ee6df5ca0ca73dce056dde0c8", func := "photonmesh/photonmeshlaw02.MatrixAlgebra", spec := "matrixAlgebra", inPlace := ["math/bits.Sub64", "math/bits.Add64"], unfollowed := true, recurses := true, plainKeys := false, apart := false }
def MatrixAlgebraSaid : Prop := matrixAlgebraRow.holds Try.pinned (OpenSpec.ofChange matrixAlgebraSpec)

/-- ITS FALSE NEIGHBOUR: 'it returns false'. Refute it at one input. -/
def matrixAlgebraWrong : ChangeSpec := { name := "matrixAlgebra", fn := fun _ => fun
  | [d1, d2, d3] => { results := [.lit (.bool false)], args := [d1, d2, d3] }
  | _ => none }
def MatrixAlgebraWrongFalsely : Prop := matrixAlgebraRow.holds Try.pinned (OpenSpec.ofChange matrixAlgebraWrong)

/- THE SECOND FORM. 'bulk': how many values and letters a reading holds, each counted each time it is reached (what is shared counts as often as it is met; a slice's spare places count too). A statement '..UptoSaid' is the law's where the arguments, and the package variables that the reading takes, are together of bulk at most 1048576: NARROWER than '..Said'. Prove '..Said' where nothing that the law and all that it calls make is longer than what came in: it says more and counts as full. Else prove '..UptoSaid'. A law counts once. -/
mutual
def uptoBulk {H : Type} : DataW H → Nat
  | .lit (.string bytes) => bytes.length + 1
  | .lit _ => 1
  | .nil => 1
  | .ptr d => uptoBulk d + 1
  | .slice elems spare => uptoBulkAll elems + uptoBulkAll spare + 1
  | .agg parts => uptoBulkAll parts + 1
  | .iface _ d => uptoBulk d + 1
  | .map entries => uptoBulkEntries entries + 1
  | .held _ => 1
def uptoBulkAll {H : Type} : List (DataW H) → Nat
  | [] => 0
  | d :: r => uptoBulk d + uptoBulkAll r
def uptoBulkEntries {H : Type} : List (Lit × DataW H) → Nat
  | [] => 0
  | x :: r => uptoBulkEntry x + uptoBulkEntries r
def uptoBulkEntry {H : Type} : Lit × DataW H → Nat
  | (.string bytes, d) => bytes.length + uptoBulk d + 1
  | (_, d) => uptoBulk d + 1
 end
def uptoSmall : (H : Type) → List (DataW H) → Bool := fun _ ds => decide (uptoBulkAll ds ≤ 1048576)
def OpenSpec.upto (s : _root_.Go.ChangeSpec) : _root_.Go.OpenSpec := { _root_.Go.OpenSpec.ofChange s with cond := some uptoSmall }

/-- 'photonmeshlaw02.MatrixPermanents', WHERE WHAT IT READS IS OF BULK AT MOST 1048576: true; the input reads as it did. -/
def matrixPermanentsUptoRow : OpenClaim := { program := "ytjeijnjaleldkaa", sum := "08faf7633c2482792cbfe3e573ae2faaa9224c1ee6df5ca0ca73dce056dde0c8", func := "photonmesh/photonmeshlaw02.MatrixPermanents", spec := "matrixPermanents", inPlace := ["math/bits.Sub64", "math/bits.Add64"], unfollowed := true, recurses := true, plainKeys := false, apart := false, narrowed := true }
def MatrixPermanentsUptoSaid : Prop := matrixPermanentsUptoRow.holds Try.pinned (OpenSpec.upto matrixPermanentsSpec)

/-- 'photonmeshlaw02.MatrixPatterns', WHERE WHAT IT READS IS OF BULK AT MOST 1048576: true; the input reads as it did. -/
def matrixPatternsUptoRow : OpenClaim := { program := "ytjeijnjaleldkaa", sum := "08faf7633c2482792cbfe3e573ae2faaa9224c1ee6df5ca0ca73dce056dde0c8", func := "photonmesh/photonmeshlaw02.MatrixPatterns", spec := "matrixPatterns", inPlace := ["math/bits.Sub64", "math/bits.Add64"], unfollowed := true, recurses := true, plainKeys := false, apart := false, narrowed := true }
def MatrixPatternsUptoSaid : Prop := matrixPatternsUptoRow.holds Try.pinned (OpenSpec.upto matrixPatternsSpec)

/-- 'photonmeshlaw02.MatrixForms', WHERE WHAT IT READS IS OF BULK AT MOST 1048576: true; the input reads as it did. -/
def matrixFormsUptoRow : OpenClaim := { program := "ytjeijnjaleldkaa", sum := "08faf7633c2482792cbfe3e573ae2faaa9224c1ee6df5ca0ca73dce056dde0c8", func := "photonmesh/photonmeshlaw02.MatrixForms", spec := "matrixForms", inPlace := ["math/bits.Sub64", "math/bits.Add64"], unfollowed := true, recurses := true, plainKeys := false, apart := false, narrowed := true }
def MatrixFormsUptoSaid : Prop := matrixFormsUptoRow.holds Try.pinned (OpenSpec.upto matrixFormsSpec)

/-- 'photonmeshlaw02.MatrixMonomials', WHERE WHAT IT READS IS OF BULK AT MOST 1048576: true; the input reads as it did. -/
def matrixMonomialsUptoRow : OpenClaim := { program := "ytjeijnjaleldkaa", sum := "08faf7633c2482792cbfe3e573ae2faaa9224c1ee6df5ca0ca73dce056dde0c8", func := "photonmesh/photonmeshlaw02.MatrixMonomials", spec := "matrixMonomials", inPlace := ["math/bits.Sub64", "math/bits.Add64"], unfollowed := true, recurses := true, plainKeys := false, apart := false, narrowed := true }
def MatrixMonomialsUptoSaid : Prop := matrixMonomialsUptoRow.holds Try.pinned (OpenSpec.upto matrixMonomialsSpec)

/-- 'photonmeshlaw02.MatrixUnitary', WHERE WHAT IT READS IS OF BULK AT MOST 1048576: true; the input reads as it did. -/
def matrixUnitaryUptoRow : OpenClaim := { program := "ytjeijnjaleldkaa", sum := "08faf7633c2482792cbfe3e573ae2faaa9224c1ee6df5ca0ca73dce056dde0c8", func := "photonmesh/photonmeshlaw02.MatrixUnitary", spec := "matrixUnitary", inPlace := ["math/bits.Sub64", "math/bits.Add64"], unfollowed := true, recurses := true, plainKeys := false, apart := false, narrowed := true }
def MatrixUnitaryUptoSaid : Prop := matrixUnitaryUptoRow.holds Try.pinned (OpenSpec.upto matrixUnitarySpec)

/-- 'photonmeshlaw02.MatrixAlike', WHERE WHAT IT READS IS OF BULK AT MOST 1048576: true; the input reads as it did. -/
def matrixAlikeUptoRow : OpenClaim := { program := "ytjeijnjaleldkaa", sum := "08faf7633c2482792cbfe3e573ae2faaa9224c1ee6df5ca0ca73dce056dde0c8", func := "photonmesh/photonmeshlaw02.MatrixAlike", spec := "matrixAlike", inPlace := ["math/bits.Sub64", "math/bits.Add64"], unfollowed := true, recurses := true, plainKeys := false, apart := false, narrowed := true }
def MatrixAlikeUptoSaid : Prop := matrixAlikeUptoRow.holds Try.pinned (OpenSpec.upto matrixAlikeSpec)

/-- 'photonmeshlaw02.MatrixTurns', WHERE WHAT IT READS IS OF BULK AT MOST 1048576: true; the input reads as it did. -/
def matrixTurnsUptoRow : OpenClaim := { program := "ytjeijnjaleldkaa", sum := "08faf7633c2482792cbfe3e573ae2faaa9224c1ee6df5ca0ca73dce056dde0c8", func := "photonmesh/photonmeshlaw02.MatrixTurns", spec := "matrixTurns", inPlace := ["math/bits.Sub64", "math/bits.Add64"], unfollowed := true, recurses := true, plainKeys := false, apart := false, narrowed := true }
def MatrixTurnsUptoSaid : Prop := matrixTurnsUptoRow.holds Try.pinned (OpenSpec.upto matrixTurnsSpec)

/-- 'photonmeshlaw02.MatrixChances', WHERE WHAT IT READS IS OF BULK AT MOST 1048576: true; the input reads as it did. -/
def matrixChancesUptoRow : OpenClaim := { program := "ytjeijnjaleldkaa", sum := "08faf7633c2482792cbfe3e573ae2faaa9224c1ee6df5ca0ca73dce056dde0c8", func := "photonmesh/photonmeshlaw02.MatrixChances", spec := "matrixChances", inPlace := ["math/bits.Sub64", "math/bits.Add64"], unfollowed := true, recurses := true, plainKeys := false, apart := false, narrowed := true }
def MatrixChancesUptoSaid : Prop := matrixChancesUptoRow.holds Try.pinned (OpenSpec.upto matrixChancesSpec)

/-- 'photonmeshlaw02.MatrixProducts', WHERE WHAT IT READS IS OF BULK AT MOST 1048576: true; the input reads as it did. -/
def matrixProductsUptoRow : OpenClaim := { program := "ytjeijnjaleldkaa", sum := "08faf7633c2482792cbfe3e573ae2faaa9224c1ee6df5ca0ca73dce056dde0c8", func := "photonmesh/photonmeshlaw02.MatrixProducts", spec := "matrixProducts", inPlace := ["math/bits.Sub64", "math/bits.Add64"], unfollowed := true, recurses := true, plainKeys := false, apart := false, narrowed := true }
def MatrixProductsUptoSaid : Prop := matrixProductsUptoRow.holds Try.pinned (OpenSpec.upto matrixProductsSpec)

/-- 'photonmeshlaw02.MatrixApplies', WHERE WHAT IT READS IS OF BULK AT MOST 1048576: true; the input reads as it did. -/
def matrixAppliesUptoRow : OpenClaim := { program := "ytjeijnjaleldkaa", sum := "08faf7633c2482792cbfe3e573ae2faaa9224c1ee6df5ca0ca73dce056dde0c8", func := "photonmesh/photonmeshlaw02.MatrixApplies", spec := "matrixApplies", inPlace := ["math/bits.Sub64", "math/bits.Add64"], unfollowed := true, recurses := true, plainKeys := false, apart := false, narrowed := true }
def MatrixAppliesUptoSaid : Prop := matrixAppliesUptoRow.holds Try.pinned (OpenSpec.upto matrixAppliesSpec)

/-- 'photonmeshlaw02.MatrixLight', WHERE WHAT IT READS IS OF BULK AT MOST 1048576: true; the input reads as it did. -/
def matrixLightUptoRow : OpenClaim := { program := "ytjeijnjaleldkaa", sum := "08faf7633c2482792cbfe3e573ae2faaa9224c1ee6df5ca0ca73dce056dde0c8", func := "photonmesh/photonmeshlaw02.MatrixLight", spec := "matrixLight", inPlace := ["math/bits.Sub64", "math/bits.Add64"], unfollowed := true, recurses := true, plainKeys := false, apart := false, narrowed := true }
def MatrixLightUptoSaid : Prop := matrixLightUptoRow.holds Try.pinned (OpenSpec.upto matrixLightSpec)

/-- 'photonmeshlaw02.MatrixAlgebra', WHERE WHAT IT READS IS OF BULK AT MOST 1048576: true; the input reads as it did. -/
def matrixAlgebraUptoRow : OpenClaim := { program := "ytjeijnjaleldkaa", sum := "08faf7633c2482792cbfe3e573ae2faaa9224c1ee6df5ca0ca73dce056dde0c8", func := "photonmesh/photonmeshlaw02.MatrixAlgebra", spec := "matrixAlgebra", inPlace := ["math/bits.Sub64", "math/bits.Add64"], unfollowed := true, recurses := true, plainKeys := false, apart := false, narrowed := true }
def MatrixAlgebraUptoSaid : Prop := matrixAlgebraUptoRow.holds Try.pinned (OpenSpec.upto matrixAlgebraSpec)

end Rows
end Go.Proofs.Ytjeijnjaleldkaa
