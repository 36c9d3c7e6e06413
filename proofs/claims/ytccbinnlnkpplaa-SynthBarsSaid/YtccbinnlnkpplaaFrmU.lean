/- A byte that came in. -/
import Derived.Test.YtccbinnlnkpplaaFrm
namespace Go.Proofs.Ytccbinnlnkpplaa
set_option linter.all false
open Go.ChangeShapes Go.WideShapes Go.ChangeAt Go.RowKit

theorem okWide_u8 {P : Program} {w : World} {r : Reach} {base : Nat} {t : TypeId} {v : Value} (ht : P.underlying t = some (.int .u8)) (h : Value.okWide P w r base t v) : ∃ m : Nat, v = .int .u8 (m : Int) ∧ m ≤ 255 := by
  obtain ⟨n, rfl⟩ := okWide_int ht h
  simp only [Value.okWide, ht, Cell.okWide, Cell.ok] at h
  have h2 : 0 ≤ n ∧ n ≤ 255 := h.2
  exact ⟨n.toNat, by rw [Int.toNat_of_nonneg h2.1], by omega⟩
end Go.Proofs.Ytccbinnlnkpplaa
