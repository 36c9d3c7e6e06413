/- Facts of the statement's row that Lean computes. -/
import Derived.Test.YtpbbbfglecbceaaRows
import Derived.WalkKit
import Derived.ProofKit
import Derived.OpenShut
namespace Go.Proofs.Ytpbbbfglecbceaa
set_option linter.all false
open Go.ChangeShapes Go.WideShapes Go.ChangeAt Go.RowKit
namespace LawParts
theorem closed : joinedFacts Try.pinned.checked.prog 15 Try.f15 Rows.enclosePartsSpec Rows.enclosePartsRow = true := by kernel_rfl
end LawParts
end Go.Proofs.Ytpbbbfglecbceaa
