/- Facts of the statement's row that Lean computes. -/
import Derived.Test.YtpbbbfglecbceaaRows
import Derived.WalkKit
import Derived.ProofKit
import Derived.OpenShut
namespace Go.Proofs.Ytpbbbfglecbceaa
set_option linter.all false
open Go.ChangeShapes Go.WideShapes Go.ChangeAt Go.RowKit
namespace LawHolds
theorem closed : joinedFacts Try.pinned.checked.prog 9 Try.f9 Rows.encloseHoldsSpec Rows.encloseHoldsRow = true := by kernel_rfl
end LawHolds
end Go.Proofs.Ytpbbbfglecbceaa
