/- Facts of the statement's row that Lean computes. -/
import Derived.Test.YtpbbbfglecbceaaRows
import Derived.WalkKit
import Derived.ProofKit
import Derived.OpenShut
namespace Go.Proofs.Ytpbbbfglecbceaa
set_option linter.all false
open Go.ChangeShapes Go.WideShapes Go.ChangeAt Go.RowKit
namespace LawMirrors
theorem closed : joinedFacts Try.pinned.checked.prog 14 Try.f14 Rows.encloseMirrorsSpec Rows.encloseMirrorsRow = true := by kernel_rfl
end LawMirrors
end Go.Proofs.Ytpbbbfglecbceaa
