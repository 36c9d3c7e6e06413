/- The contract of math/bits.Add64. -/
import Derived.Test.YtjeijnjaleldkaaSq
import Derived.Test.YtjeijnjaleldkaaXt
namespace Go.Proofs.Ytjeijnjaleldkaa
set_option linter.all false
open Go.RowKit
theorem run_Add64 (x y c s r : Int) (hx : 0 ≤ x) (hy : 0 ≤ y) (hc0 : 0 ≤ c) (hc : c ≤ 1) (hs : (x + y + c) % 18446744073709551616 = s) (hr : (x + y + c) / 18446744073709551616 = r) (w : World) :
    (callFunc 150 #[.int .u64 x, .int .u64 y, .int .u64 c]).run Try.prog w = .ok (.value (.tuple #[.int .u64 s, .int .u64 r])) w := by
  rw [run_callFunc_extern Try.func150 Kx Kx Kx (e := add64Entry) Kx, run_add64 x y c hx hy hc0 hc, hs, hr]
  rfl
end Go.Proofs.Ytjeijnjaleldkaa
