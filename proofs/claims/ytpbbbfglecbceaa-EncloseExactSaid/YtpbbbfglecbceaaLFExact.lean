/- Facts of the statement's row that Lean computes. -/
import Derived.Test.YtpbbbfglecbceaaRows
import Derived.WalkKit
import Derived.ProofKit
import Derived.OpenShut
namespace Go.Proofs.Ytpbbbfglecbceaa
set_option linter.all false
open Go.ChangeShapes Go.WideShapes Go.ChangeAt Go.RowKit
namespace LawExact
theorem closed : joinedFacts Try.pinned.checked.prog 17 Try.f17 Rows.encloseExactSpec Rows.encloseExactRow = true := by kernel_rfl
end LawExact
end Go.Proofs.Ytpbbbfglecbceaa
