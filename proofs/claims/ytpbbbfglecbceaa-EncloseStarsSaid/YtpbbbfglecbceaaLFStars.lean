/- Facts of the statement's row that Lean computes. -/
import Derived.Test.YtpbbbfglecbceaaRows
import Derived.WalkKit
import Derived.ProofKit
import Derived.OpenShut
namespace Go.Proofs.Ytpbbbfglecbceaa
set_option linter.all false
open Go.ChangeShapes Go.WideShapes Go.ChangeAt Go.RowKit
namespace LawStars
theorem closed : joinedFacts Try.pinned.checked.prog 13 Try.f13 Rows.encloseStarsSpec Rows.encloseStarsRow = true := by kernel_rfl
end LawStars
end Go.Proofs.Ytpbbbfglecbceaa
