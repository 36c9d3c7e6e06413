/- Plain: the points of the unit circle have no error, are no greater than 1 and a little, and their powers enclose 1. -/
import Derived.Test.YtpbbbfglecbceaaPl4
namespace Go.Proofs.Ytpbbbfglecbceaa.En
set_option linter.all false

/-- For all units that go on from x with the bits below b there is a result for which p holds. -/
def allUnits (p : Nat → Rc → Bool) : Nat → Nat → Rc → Bool
  | 0, m, x => p m x
  | b + 1, m, x => allUnits p b m x && (match times x (bitRc b) with
    | .ok y => allUnits p b (m + 2 ^ b) y
    | .error _ => false)

theorem unitFrom_succ (m b : Nat) (x : Rc) : unitFrom m (b + 1) x = if m / 2 ^ b % 2 = 1 then times x (bitRc b) >>= unitFrom m b else unitFrom m b x := rfl
theorem allUnits_succ (p : Nat → Rc → Bool) (b m : Nat) (x : Rc) (h : allUnits p (b + 1) m x = true) : allUnits p b m x = true ∧ ∃ y, times x (bitRc b) = .ok y ∧ allUnits p b (m + 2 ^ b) y = true := by
  have e : allUnits p (b + 1) m x = (allUnits p b m x && (match times x (bitRc b) with
    | .ok y => allUnits p b (m + 2 ^ b) y
    | .error _ => false)) := rfl
  rw [e] at h
  clear e
  revert h
  generalize times x (bitRc b) = t
  intro h
  rw [Bool.and_eq_true] at h
  refine ⟨h.1, ?_⟩
  cases t with
  | error c => exact absurd h.2 (by simp)
  | ok y => exact ⟨y, rfl, h.2⟩
theorem bit_low {m0 r b k : Nat} (hk : 2 ^ b = k) (h0 : 0 < k) (q : Nat) (hm : m0 = k * (2 * q)) (h : r < k) : (m0 + r) / 2 ^ b % 2 = 0 := by
  rw [hk, hm, Nat.add_comm, Nat.add_mul_div_left _ _ h0, Nat.div_eq_of_lt h]
  omega
theorem bit_high {m0 r b k : Nat} (hk : 2 ^ b = k) (h0 : 0 < k) (q : Nat) (hm : m0 = k * (2 * q)) (h : ¬ r < k) (h' : r < 2 * k) : (m0 + r) / 2 ^ b % 2 = 1 := by
  have e : m0 + r = (r - k) + k * (2 * q + 1) := by rw [Nat.mul_add, hm]; omega
  rw [hk, e, Nat.add_mul_div_left _ _ h0, Nat.div_eq_of_lt (by omega)]
  omega
theorem allUnits_spec (p : Nat → Rc → Bool) (b : Nat) : ∀ (m0 : Nat) (x : Rc), allUnits p b m0 x = true → m0 % 2 ^ b = 0 → ∀ r, r < 2 ^ b → ∃ z, unitFrom (m0 + r) b x = .ok z ∧ p (m0 + r) z = true := by
  induction b with
  | zero =>
    intro m0 x h _ r hr
    have hr' : r < 1 := hr
    obtain rfl : r = 0 := by omega
    exact ⟨x, rfl, h⟩
  | succ b ih =>
    intro m0 x h hm r hr
    obtain ⟨h1, y, hy, h2⟩ := allUnits_succ p b m0 x h
    obtain ⟨k, hk⟩ : ∃ k, 2 ^ b = k := ⟨_, rfl⟩
    have hp : 2 ^ (b + 1) = 2 * k := by rw [Nat.pow_succ, hk]; omega
    have hpos : 0 < k := hk ▸ Nat.pow_pos (by omega)
    rw [hp] at hr hm
    obtain ⟨q, hq⟩ := Nat.dvd_of_mod_eq_zero hm
    have hm' : m0 = k * (2 * q) := by rw [hq, Nat.mul_comm 2, Nat.mul_assoc]
    have hm2 : m0 % 2 ^ b = 0 := by rw [hk, hm']; exact Nat.mul_mod_right _ _
    by_cases hlt : r < k
    · rw [unitFrom_succ, if_neg (by rw [bit_low hk hpos q hm' hlt]; omega)]
      exact ih m0 x h1 hm2 r (hk ▸ hlt)
    · rw [unitFrom_succ, if_pos (bit_high hk hpos q hm' hlt hr), hy]
      have hz := ih (m0 + 2 ^ b) y h2 (by rw [Nat.add_mod_right]; exact hm2) (r - k) (by omega)
      rw [show m0 + 2 ^ b + (r - k) = m0 + r by omega] at hz
      exact hz

/-- No part is greater than 1 and a thousand parts of the least; the power encloses 1. -/
def goodUnit (z : Rc) : Bool := (decide (-1073742824 ≤ z.re.lo) && decide (z.re.hi ≤ 1073742824) && decide (-1073742824 ≤ z.im.lo) && decide (z.im.hi ≤ 1073742824)) &&
  (match power z with
  | .ok s => decide (s.lo ≤ 1073741824) && decide (1073741824 ≤ s.hi)
  | .error _ => false)

set_option maxRecDepth 100000 in
theorem units_good : allUnits (fun _ z => goodUnit z) 10 0 ⟨one, ⟨0, 0⟩⟩ = true := by kernel_rfl

theorem unit_good (n : Int) : ∃ z, unit n = .ok z ∧ goodUnit z = true := by
  have := allUnits_spec _ 10 0 ⟨one, ⟨0, 0⟩⟩ units_good (by rfl) (n % 1024).toNat (by omega)
  rw [Nat.zero_add] at this
  exact this
end Go.Proofs.Ytpbbbfglecbceaa.En
