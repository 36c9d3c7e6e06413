/- Plain: which numbers are powers of an eighth of a turn. -/
import Derived.Test.YtccbinnlnkpplaaAm6
namespace Go.Proofs.Ytccbinnlnkpplaa
set_option linter.all false

/-- The t below 8 for which a number is the t-th power of w. -/
def turnIx (z : Nm) : Option Nat :=
  if z.k = 0 then
    if z = ⟨1, 0, 0, 0, 0⟩ then some 0 else if z = ⟨0, 1, 0, 0, 0⟩ then some 1 else if z = ⟨0, 0, 1, 0, 0⟩ then some 2 else if z = ⟨0, 0, 0, 1, 0⟩ then some 3 else
    if z = ⟨-1, 0, 0, 0, 0⟩ then some 4 else if z = ⟨0, -1, 0, 0, 0⟩ then some 5 else if z = ⟨0, 0, -1, 0, 0⟩ then some 6 else if z = ⟨0, 0, 0, -1, 0⟩ then some 7 else none
  else none
theorem turn_one : Nm.turn 0 Nm.one = ⟨1, 0, 0, 0, 0⟩ ∧ Nm.turn 1 Nm.one = ⟨0, 1, 0, 0, 0⟩ ∧ Nm.turn 2 Nm.one = ⟨0, 0, 1, 0, 0⟩ ∧ Nm.turn 3 Nm.one = ⟨0, 0, 0, 1, 0⟩ ∧ Nm.turn 4 Nm.one = ⟨-1, 0, 0, 0, 0⟩ ∧ Nm.turn 5 Nm.one = ⟨0, -1, 0, 0, 0⟩ ∧ Nm.turn 6 Nm.one = ⟨0, 0, -1, 0, 0⟩ ∧ Nm.turn 7 Nm.one = ⟨0, 0, 0, -1, 0⟩ := by decide
theorem turnIx_iff (z : Nm) (t : Nat) (ht : t < 8) : turnIx z = some t ↔ z = Nm.turn t Nm.one := by
  obtain ⟨h0, h1, h2, h3, h4, h5, h6, h7⟩ := turn_one
  constructor
  · intro h
    unfold turnIx at h
    split at h
    · repeat' split at h
      all_goals first | (cases h; simp_all; done) | (cases h)
    · cases h
  · rintro rfl
    rcases (by omega : t = 0 ∨ t = 1 ∨ t = 2 ∨ t = 3 ∨ t = 4 ∨ t = 5 ∨ t = 6 ∨ t = 7) with rfl | rfl | rfl | rfl | rfl | rfl | rfl | rfl <;> decide
end Go.Proofs.Ytccbinnlnkpplaa
