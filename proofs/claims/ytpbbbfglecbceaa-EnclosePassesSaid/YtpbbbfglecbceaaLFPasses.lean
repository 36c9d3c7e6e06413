/- Facts of the statement's row that Lean computes. -/
import Derived.Test.YtpbbbfglecbceaaRows
import Derived.WalkKit
import Derived.ProofKit
import Derived.OpenShut
namespace Go.Proofs.Ytpbbbfglecbceaa
set_option linter.all false
open Go.ChangeShapes Go.WideShapes Go.ChangeAt Go.RowKit
namespace LawPasses
theorem closed : joinedFacts Try.pinned.checked.prog 8 Try.f8 Rows.enclosePassesSpec Rows.enclosePassesRow = true := by kernel_rfl
end LawPasses
end Go.Proofs.Ytpbbbfglecbceaa
