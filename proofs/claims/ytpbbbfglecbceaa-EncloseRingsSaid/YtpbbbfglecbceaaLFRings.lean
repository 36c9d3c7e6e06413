/- Facts of the statement's row that Lean computes. -/
import Derived.Test.YtpbbbfglecbceaaRows
import Derived.WalkKit
import Derived.ProofKit
import Derived.OpenShut
namespace Go.Proofs.Ytpbbbfglecbceaa
set_option linter.all false
open Go.ChangeShapes Go.WideShapes Go.ChangeAt Go.RowKit
namespace LawRings
theorem closed : joinedFacts Try.pinned.checked.prog 5 Try.f5 Rows.encloseRingsSpec Rows.encloseRingsRow = true := by kernel_rfl
end LawRings
end Go.Proofs.Ytpbbbfglecbceaa
