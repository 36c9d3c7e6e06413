/- Facts of the statement's row that Lean computes. -/
import Derived.Test.YtpbbbfglecbceaaRows
import Derived.WalkKit
import Derived.ProofKit
import Derived.OpenShut
namespace Go.Proofs.Ytpbbbfglecbceaa
set_option linter.all false
open Go.ChangeShapes Go.WideShapes Go.ChangeAt Go.RowKit
namespace LawCircle
theorem closed : joinedFacts Try.pinned.checked.prog 16 Try.f16 Rows.encloseCircleSpec Rows.encloseCircleRow = true := by kernel_rfl
end LawCircle
end Go.Proofs.Ytpbbbfglecbceaa
