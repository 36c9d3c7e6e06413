/- Facts of the statement's row that Lean computes. -/
import Derived.Test.YtpbbbfglecbceaaRows
import Derived.WalkKit
import Derived.ProofKit
import Derived.OpenShut
namespace Go.Proofs.Ytpbbbfglecbceaa
set_option linter.all false
open Go.ChangeShapes Go.WideShapes Go.ChangeAt Go.RowKit
namespace LawGrows
theorem closed : joinedFacts Try.pinned.checked.prog 12 Try.f12 Rows.encloseGrowsSpec Rows.encloseGrowsRow = true := by kernel_rfl
end LawGrows
end Go.Proofs.Ytpbbbfglecbceaa
