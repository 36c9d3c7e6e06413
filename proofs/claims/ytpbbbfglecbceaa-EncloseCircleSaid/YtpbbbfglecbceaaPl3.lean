/- Roots of valid spans have no error. -/
import Derived.Test.YtpbbbfglecbceaaPl2
namespace Go.Proofs.Ytpbbbfglecbceaa.En
set_option linter.all false

theorem sq_le {a b : Int} (h0 : 0 ≤ a) (h : a ≤ b) : a * a ≤ b * b := Int.mul_le_mul h h h0 (by omega)

theorem root_le {m n : Int} (h0 : 0 ≤ m) (h : m ≤ n) (h1 : n ≤ 1099511627776) : root m ≤ root n := by
  obtain ⟨a0, a1, a2, a3⟩ := root_spec h0 (by omega)
  obtain ⟨b0, b1, b2, b3⟩ := root_spec (n := n) (by omega) h1
  by_cases hlt : root n < root m
  · have := sq_le (a := root n + 1) (b := root m) (by omega) (by omega)
    omega
  · omega

theorem root_small {n : Int} (h0 : 0 ≤ n) (h1 : n ≤ 1099511627776) : root n ≤ 34359738368 := by
  obtain ⟨b0, b1, b2, b3⟩ := root_spec h0 h1
  by_cases hlt : 34359738368 < root n
  · have := sq_le (a := 34359738369) (b := root n) (by omega) (by omega)
    omega
  · omega

theorem roots_total {s : Sp} (h0 : 0 ≤ s.lo) (hs : s.ok = true) : ∃ u, roots s = .ok u := by
  have hle := Sp.le_of_ok hs
  have hf := (Sp.fit_of_ok hs).d
  have h1 := root_le h0 hle hf
  have h2 := root_small (n := s.hi) (by omega) hf
  have h3 := (root_spec h0 (by omega)).1
  unfold roots span
  rw [if_pos]
  · exact ⟨_, rfl⟩
  · simp only [okS, Bool.and_eq_true, decide_eq_true_eq]
    split <;> omega

end Go.Proofs.Ytpbbbfglecbceaa.En
