/- Several texts in one. -/
import Derived.Test.YtpbbbfglecbceaaFa
import Derived.Laws.Externs
import Derived.Laws.Bits64b
import Derived.Test.YtpbbbfglecbceaaMxA
import Derived.Test.YtpbbbfglecbceaaPl
import Derived.Test.YtpbbbfglecbceaaBits
import Derived.Test.YtpbbbfglecbceaaHd
import Derived.Test.YtpbbbfglecbceaaEn8
import Derived.Test.YtpbbbfglecbceaaRgPl
import Derived.Test.YtpbbbfglecbceaaMyB
import Derived.Test.YtpbbbfglecbceaaEn21
/- Plain: numbers m + p r (r the root of 2): their order; whole parts of roots; the greatest whole number below p r + q. -/
namespace Go.Proofs.Ytpbbbfglecbceaa
set_option linter.all false

theorem two_sq : ∀ (n : Nat) (x y : Int), y.natAbs ≤ n → x * x = 2 * (y * y) → y = 0
  | 0, x, y, h, _ => by omega
  | n + 1, x, y, h, e => by
    obtain ⟨z, hz⟩ : ∃ z, x = 2 * z ∨ x = 2 * z + 1 := ⟨x / 2, by omega⟩
    rcases hz with rfl | rfl
    · have e2 : y * y = 2 * (z * z) := by
        have : 2 * z * (2 * z) = 4 * (z * z) := by grind
        omega
      by_cases hlt : z.natAbs < y.natAbs
      · have hz := two_sq n y z (by omega) e2
        subst hz
        have : y * y = 0 := by omega
        rcases Int.mul_eq_zero.1 this with h | h <;> exact h
      · have h1 := Nat.mul_le_mul (show y.natAbs ≤ z.natAbs by omega) (show y.natAbs ≤ z.natAbs by omega)
        have h2 := @Int.natAbs_mul_self y
        have h3 := @Int.natAbs_mul_self z
        have h4 : y * y ≤ z * z := by rw [← h2, ← h3]; exact_mod_cast h1
        have h5 : 0 ≤ z * z := by rw [← h3]; exact_mod_cast Nat.zero_le _
        have : y * y = 0 := by omega
        rcases Int.mul_eq_zero.1 this with h | h <;> exact h
    · have : (2 * z + 1) * (2 * z + 1) = 4 * (z * z) + 4 * z + 1 := by grind
      omega
theorem irr {x y : Int} (h : x * x = 2 * (y * y)) : y = 0 := two_sq _ x y (Nat.le_refl _) h

theorem sqn (x : Int) : 0 ≤ x * x := by
  rcases Int.le_total 0 x with h | h
  · exact Int.mul_nonneg h h
  · have := Int.mul_nonneg (a := -x) (b := -x) (by omega) (by omega)
    have e : -x * -x = x * x := by grind
    omega
theorem sq_le {x y : Int} (hy : 0 ≤ y) (h : x * x ≤ y * y) : x ≤ y := by
  rcases Int.lt_or_le y x with h1 | h1
  · have := Int.mul_self_lt_mul_self hy h1
    omega
  · exact h1
theorem sq_lt {x y : Int} (hy : 0 ≤ y) (h : x * x < y * y) : x < y := by
  rcases Int.lt_or_le x y with h1 | h1
  · exact h1
  · have := Int.mul_self_le_mul_self hy h1
    omega
theorem sq_mono {x y : Int} (hx : 0 ≤ x) (h : x ≤ y) : x * x ≤ y * y := Int.mul_self_le_mul_self hx h
theorem sq_monoN {x y : Int} (hx : x ≤ 0) (h : y ≤ x) : x * x ≤ y * y := by
  have := Int.mul_self_le_mul_self (a := -x) (b := -y) (by omega) (by omega)
  have e : -x * -x = x * x := by grind
  have e2 : -y * -y = y * y := by grind
  omega

/-- 0 ≤ p r + m. -/
def NN (p m : Int) : Prop := (0 ≤ p ∧ 0 ≤ m) ∨ (0 ≤ p ∧ m < 0 ∧ m * m ≤ 2 * (p * p)) ∨ (p < 0 ∧ 0 ≤ m ∧ 2 * (p * p) ≤ m * m)

theorem NN.total (p m : Int) : NN p m ∨ NN (-p) (-m) := by
  have e1 : -p * -p = p * p := by grind
  have e2 : -m * -m = m * m := by grind
  unfold NN
  rw [e1, e2]
  have := sqn p
  have := sqn m
  rcases Int.lt_trichotomy p 0 with h | rfl | h <;> rcases Int.lt_trichotomy m 0 with h2 | rfl | h2 <;> omega
/-- a² ≤ 2 b², c² ≤ 2 d²: a c ≤ 2 b d. -/
theorem crossLe {a b c d : Int} (hb : 0 ≤ b) (hd : 0 ≤ d) (h1 : a * a ≤ 2 * (b * b)) (h2 : c * c ≤ 2 * (d * d)) : a * c ≤ 2 * (b * d) := by
  have hbd := Int.mul_nonneg hb hd
  refine sq_le (by omega) ?_
  have h3 := Int.mul_le_mul h1 h2 (sqn c) (by have := sqn b; omega)
  have e1 : a * c * (a * c) = a * a * (c * c) := by grind
  have e2 : 2 * (b * d) * (2 * (b * d)) = 2 * (b * b) * (2 * (d * d)) := by grind
  omega
/-- 2 b² ≤ a², 2 d² ≤ c²: 2 b d ≤ a c. -/
theorem crossGe {a b c d : Int} (ha : 0 ≤ a) (hc : 0 ≤ c) (h1 : 2 * (b * b) ≤ a * a) (h2 : 2 * (d * d) ≤ c * c) : 2 * (b * d) ≤ a * c := by
  have hac := Int.mul_nonneg ha hc
  refine sq_le (by omega) ?_
  have h3 := Int.mul_le_mul h1 h2 (by have := sqn d; omega) (sqn a)
  have e1 : a * c * (a * c) = a * a * (c * c) := by grind
  have e2 : 2 * (b * d) * (2 * (b * d)) = 2 * (b * b) * (2 * (d * d)) := by grind
  omega
theorem nn_case {p m : Int} (h1 : 0 ≤ p → m < 0 → m * m ≤ 2 * (p * p)) (h2 : p < 0 → 0 ≤ m → 2 * (p * p) ≤ m * m) (h3 : ¬ (p < 0 ∧ m < 0)) : NN p m := by
  unfold NN
  by_cases hp : 0 ≤ p <;> by_cases hm : 0 ≤ m
  · exact .inl ⟨hp, hm⟩
  · exact .inr (.inl ⟨hp, by omega, h1 hp (by omega)⟩)
  · exact .inr (.inr ⟨by omega, hm, h2 (by omega) hm⟩)
  · omega
theorem nn_mix {p m q n : Int} (h1 : 0 ≤ p) (h2 : m < 0) (h3 : m * m ≤ 2 * (p * p)) (k1 : q < 0) (k2 : 0 ≤ n) (k3 : 2 * (q * q) ≤ n * n) : NN (p + q) (m + n) := by
  refine nn_case (fun a b => ?_) (fun a b => ?_) fun ⟨a, b⟩ => ?_
  · rcases Int.lt_or_le (2 * ((p + q) * (p + q))) ((m + n) * (m + n)) with hc | hc
    · have := crossGe (a := -(m + n)) (b := p + q) (c := n) (d := -q) (by omega) k2 (by
        have e : -(m + n) * -(m + n) = (m + n) * (m + n) := by grind
        omega) (by
        have e : -q * -q = q * q := by grind
        omega)
      have e1 : (m + n) * (m + n) = m * m + 2 * (m * n) + n * n := by grind
      have e2 : (p + q) * (p + q) = p * p + 2 * (p * q) + q * q := by grind
      have e3 : (p + q) * -q = -(p * q) - q * q := by grind
      have e4 : -(m + n) * n = -(m * n) - n * n := by grind
      omega
    · exact hc
  · rcases Int.lt_or_le ((m + n) * (m + n)) (2 * ((p + q) * (p + q))) with hc | hc
    · have := crossLe (a := m + n) (b := -(p + q)) (c := -m) (d := p) (by omega) h1 (by
        have e : -(p + q) * -(p + q) = (p + q) * (p + q) := by grind
        omega) (by
        have e : -m * -m = m * m := by grind
        omega)
      have e1 : (m + n) * (m + n) = m * m + 2 * (m * n) + n * n := by grind
      have e2 : (p + q) * (p + q) = p * p + 2 * (p * q) + q * q := by grind
      have e3 : -(p + q) * p = -(p * q) - p * p := by grind
      have e4 : (m + n) * -m = -(m * n) - m * m := by grind
      omega
    · exact hc
  · have e1 := sq_mono h1 (show p ≤ -q by omega)
    have e2 := sq_mono k2 (show n ≤ -m by omega)
    have e3 := Int.mul_self_lt_mul_self k2 (show n < -m by omega)
    have e4 : -q * -q = q * q := by grind
    have e5 : -m * -m = m * m := by grind
    omega
theorem nn_up {p m q n : Int} (h1 : 0 ≤ p) (h2 : 0 ≤ m) (k : NN q n) : NN (p + q) (m + n) := by
  rcases k with ⟨k1, k2⟩ | ⟨k1, k2, k3⟩ | ⟨k1, k2, k3⟩
  · exact .inl ⟨by omega, by omega⟩
  · refine nn_case (fun a b => ?_) (fun a b => by omega) (by omega)
    have e1 := sq_mono k1 (show q ≤ p + q by omega)
    have e2 := sq_monoN (show m + n ≤ 0 by omega) (show n ≤ m + n by omega)
    omega
  · refine nn_case (fun a b => by omega) (fun a b => ?_) (by omega)
    have e1 := sq_mono k2 (show n ≤ m + n by omega)
    have e2 := sq_monoN (show p + q ≤ 0 by omega) (show q ≤ p + q by omega)
    omega
theorem NN.add {p m q n : Int} (h : NN p m) (k : NN q n) : NN (p + q) (m + n) := by
  rcases h with ⟨h1, h2⟩ | ⟨h1, h2, h3⟩ | ⟨h1, h2, h3⟩
  · exact nn_up h1 h2 k
  · rcases k with ⟨k1, k2⟩ | ⟨k1, k2, k3⟩ | ⟨k1, k2, k3⟩
    · rw [Int.add_comm p, Int.add_comm m]; exact nn_up k1 k2 (.inr (.inl ⟨h1, h2, h3⟩))
    · refine .inr (.inl ⟨by omega, by omega, ?_⟩)
      have := crossLe h1 k1 h3 k3
      have e1 : (m + n) * (m + n) = m * m + 2 * (m * n) + n * n := by grind
      have e2 : (p + q) * (p + q) = p * p + 2 * (p * q) + q * q := by grind
      omega
    · exact nn_mix h1 h2 h3 k1 k2 k3
  · rcases k with ⟨k1, k2⟩ | ⟨k1, k2, k3⟩ | ⟨k1, k2, k3⟩
    · rw [Int.add_comm p, Int.add_comm m]; exact nn_up k1 k2 (.inr (.inr ⟨h1, h2, h3⟩))
    · rw [Int.add_comm p, Int.add_comm m]; exact nn_mix k1 k2 k3 h1 h2 h3
    · refine .inr (.inr ⟨by omega, by omega, ?_⟩)
      have := crossGe h2 k2 h3 k3
      have e1 : (m + n) * (m + n) = m * m + 2 * (m * n) + n * n := by grind
      have e2 : (p + q) * (p + q) = p * p + 2 * (p * q) + q * q := by grind
      omega
theorem NN.smul {p m n : Int} (hn : 0 ≤ n) (h : NN p m) : NN (n * p) (n * m) := by
  have e1 : n * p * (n * p) = n * n * (p * p) := by grind
  have e2 : n * m * (n * m) = n * n * (m * m) := by grind
  rcases Int.lt_or_le 0 n with h0 | h0
  · have hnn := sqn n
    have e3 : n * n * (2 * (p * p)) = 2 * (n * n * (p * p)) := by grind
    unfold NN
    rw [e1, e2]
    rcases h with ⟨h1, h2⟩ | ⟨h1, h2, h3⟩ | ⟨h1, h2, h3⟩
    · exact .inl ⟨Int.mul_nonneg hn h1, Int.mul_nonneg hn h2⟩
    · have := Int.mul_le_mul_of_nonneg_left h3 hnn
      exact .inr (.inl ⟨Int.mul_nonneg hn h1, Int.mul_neg_of_pos_of_neg h0 h2, by omega⟩)
    · have := Int.mul_le_mul_of_nonneg_left h3 hnn
      exact .inr (.inr ⟨Int.mul_neg_of_pos_of_neg h0 h1, Int.mul_nonneg hn h2, by omega⟩)
  · obtain rfl : n = 0 := by omega
    simp [NN]
theorem NN.root {p m : Int} (h : NN p m) : NN m (2 * p) := by
  have e : 2 * p * (2 * p) = 4 * (p * p) := by grind
  unfold NN
  rw [e]
  rcases h with ⟨h1, h2⟩ | ⟨h1, h2, h3⟩ | ⟨h1, h2, h3⟩ <;> omega
theorem nn_pos {p m q n : Int} (h1 : 0 ≤ p) (h2 : 0 ≤ m) (k : NN q n) : NN (p * n + m * q) (2 * (p * q) + m * n) := by
  have := (k.root.smul h1).add (k.smul h2)
  have e : p * (2 * q) = 2 * (p * q) := by grind
  rwa [e] at this
theorem nn_norm (p m q n : Int) : (2 * (p * q) + m * n) * (2 * (p * q) + m * n) - 2 * ((p * n + m * q) * (p * n + m * q)) = (m * m - 2 * (p * p)) * (n * n - 2 * (q * q)) := by grind
theorem NN.mul {p m q n : Int} (h : NN p m) (k : NN q n) : NN (p * n + m * q) (2 * (p * q) + m * n) := by
  have hN := nn_norm p m q n
  have sw : NN (q * m + n * p) (2 * (q * p) + n * m) → NN (p * n + m * q) (2 * (p * q) + m * n) := fun h => by
    have e1 : q * m + n * p = p * n + m * q := by grind
    have e2 : 2 * (q * p) + n * m = 2 * (p * q) + m * n := by grind
    rwa [e1, e2] at h
  rcases h with ⟨h1, h2⟩ | ⟨h1, h2, h3⟩ | ⟨h1, h2, h3⟩
  · exact nn_pos h1 h2 k
  · rcases k with ⟨k1, k2⟩ | ⟨k1, k2, k3⟩ | ⟨k1, k2, k3⟩
    · exact sw (nn_pos k1 k2 (.inr (.inl ⟨h1, h2, h3⟩)))
    · have a1 := Int.mul_nonneg h1 k1
      have a2 := Int.mul_nonneg (a := -m) (b := -n) (by omega) (by omega)
      have a3 := Int.mul_nonneg h1 (b := -n) (by omega)
      have a4 := Int.mul_nonneg (a := -m) (b := q) (by omega) k1
      have a5 := Int.mul_nonneg (a := 2 * (p * p) - m * m) (b := 2 * (q * q) - n * n) (by omega) (by omega)
      have e2 : -m * -n = m * n := by grind
      have e3 : p * -n = -(p * n) := by grind
      have e4 : -m * q = -(m * q) := by grind
      have e5 : (2 * (p * p) - m * m) * (2 * (q * q) - n * n) = (m * m - 2 * (p * p)) * (n * n - 2 * (q * q)) := by grind
      exact nn_case (fun a b => by omega) (fun a b => by omega) (by omega)
    · have a1 := Int.mul_nonneg h1 k2
      have a2 := Int.mul_nonneg (a := -m) (b := -q) (by omega) (by omega)
      have a3 := Int.mul_nonneg h1 (b := -q) (by omega)
      have a4 := Int.mul_nonneg (a := -m) (b := n) (by omega) k2
      have a5 := Int.mul_nonneg (a := 2 * (p * p) - m * m) (b := n * n - 2 * (q * q)) (by omega) (by omega)
      have e2 : -m * -q = m * q := by grind
      have e3 : p * -q = -(p * q) := by grind
      have e4 : -m * n = -(m * n) := by grind
      have e5 : (2 * (p * p) - m * m) * (n * n - 2 * (q * q)) = -((m * m - 2 * (p * p)) * (n * n - 2 * (q * q))) := by grind
      exact nn_case (fun a b => by omega) (fun a b => by omega) (by omega)
  · rcases k with ⟨k1, k2⟩ | ⟨k1, k2, k3⟩ | ⟨k1, k2, k3⟩
    · exact sw (nn_pos k1 k2 (.inr (.inr ⟨h1, h2, h3⟩)))
    · have a1 := Int.mul_nonneg k1 h2
      have a2 := Int.mul_nonneg (a := -n) (b := -p) (by omega) (by omega)
      have a3 := Int.mul_nonneg k1 (b := -p) (by omega)
      have a4 := Int.mul_nonneg (a := -n) (b := m) (by omega) h2
      have a5 := Int.mul_nonneg (a := 2 * (q * q) - n * n) (b := m * m - 2 * (p * p)) (by omega) (by omega)
      have e1 : q * m = m * q := by grind
      have e2 : -n * -p = p * n := by grind
      have e3 : q * -p = -(p * q) := by grind
      have e4 : -n * m = -(m * n) := by grind
      have e5 : (2 * (q * q) - n * n) * (m * m - 2 * (p * p)) = -((m * m - 2 * (p * p)) * (n * n - 2 * (q * q))) := by grind
      exact nn_case (fun a b => by omega) (fun a b => by omega) (by omega)
    · have a1 := Int.mul_nonneg (a := -p) (b := -q) (by omega) (by omega)
      have a2 := Int.mul_nonneg h2 k2
      have a3 := Int.mul_nonneg (a := -p) (b := n) (by omega) k2
      have a4 := Int.mul_nonneg h2 (b := -q) (by omega)
      have a5 := Int.mul_nonneg (a := m * m - 2 * (p * p)) (b := n * n - 2 * (q * q)) (by omega) (by omega)
      have e1 : -p * -q = p * q := by grind
      have e3 : -p * n = -(p * n) := by grind
      have e4 : m * -q = -(m * q) := by grind
      exact nn_case (fun a b => by omega) (fun a b => by omega) (by omega)
theorem nn_int {m : Int} : NN 0 m ↔ 0 ≤ m := by
  refine ⟨fun h => ?_, fun h => .inl ⟨Int.le_refl _, h⟩⟩
  rcases h with ⟨_, h⟩ | ⟨_, h1, h2⟩ | ⟨h, _⟩
  · exact h
  · have := Int.mul_self_lt_mul_self (a := 0) (b := -m) (by omega) (by omega)
    have e : -m * -m = m * m := by grind
    rw [Int.mul_zero] at h2
    omega
  · omega
/-- n p r + n m with n > 0 is not negative just where p r + m is. -/
theorem NN.unsmul {p m n : Int} (hn : 0 < n) (h : NN (n * p) (n * m)) : NN p m := by
  rcases NN.total p m with hk | hk
  · exact hk
  · have e1 : n * p * (n * p) = n * n * (p * p) := by grind
    have e2 : n * m * (n * m) = n * n * (m * m) := by grind
    have hnn : 0 < n * n := Int.mul_pos hn hn
    have sg : ∀ x : Int, (0 ≤ n * x ↔ 0 ≤ x) := fun x => ⟨fun h => by
      rcases Int.lt_or_le x 0 with hx | hx
      · have := Int.mul_neg_of_pos_of_neg hn hx; omega
      · exact hx, fun h => Int.mul_nonneg (by omega) h⟩
    have sl : ∀ x y : Int, n * n * x ≤ 2 * (n * n * y) → x ≤ 2 * y := fun x y h => by
      rcases Int.lt_or_le (2 * y) x with hx | hx
      · have := Int.mul_lt_mul_of_pos_left hx hnn
        have e : n * n * (2 * y) = 2 * (n * n * y) := by grind
        omega
      · exact hx
    have sl' : ∀ x y : Int, 2 * (n * n * x) ≤ n * n * y → 2 * x ≤ y := fun x y h => by
      rcases Int.lt_or_le y (2 * x) with hx | hx
      · have := Int.mul_lt_mul_of_pos_left hx hnn
        have e : n * n * (2 * x) = 2 * (n * n * x) := by grind
        omega
      · exact hx
    unfold NN at h ⊢
    rw [e1, e2] at h
    have s1 := sg p
    have s2 := sg m
    rcases h with ⟨h1, h2⟩ | ⟨h1, h2, h3⟩ | ⟨h1, h2, h3⟩
    · exact .inl ⟨s1.1 h1, s2.1 h2⟩
    · exact .inr (.inl ⟨s1.1 h1, by omega, sl _ _ h3⟩)
    · exact .inr (.inr ⟨by omega, s2.1 h2, sl' _ _ h3⟩)

/-- The whole part of a root. -/
def isq : Nat → Nat
  | 0 => 0
  | n + 1 => if (isq n + 1) * (isq n + 1) ≤ n + 1 then isq n + 1 else isq n
theorem isq_spec : ∀ n, isq n * isq n ≤ n ∧ n < (isq n + 1) * (isq n + 1)
  | 0 => by decide
  | n + 1 => by
    have ⟨h1, h2⟩ := isq_spec n
    simp only [isq]
    split
    · next h => refine ⟨h, ?_⟩; have : (isq n + 1 + 1) * (isq n + 1 + 1) = (isq n + 1) * (isq n + 1) + 2 * isq n + 3 := by grind
                omega
    · next h => omega
theorem isq_unique {n k : Nat} (h1 : k * k ≤ n) (h2 : n < (k + 1) * (k + 1)) : isq n = k := by
  have ⟨a, b⟩ := isq_spec n
  rcases Nat.lt_trichotomy (isq n) k with h | h | h
  · have := Nat.mul_le_mul (show isq n + 1 ≤ k by omega) (show isq n + 1 ≤ k by omega); omega
  · exact h
  · have := Nat.mul_le_mul (show k + 1 ≤ isq n by omega) (show k + 1 ≤ isq n by omega); omega
/-- The whole part of the root of 2 p². -/
def rt2 (p : Int) : Int := (isq (2 * (p.natAbs * p.natAbs)) : Nat)
theorem natAbs_sq (p : Int) : ((p.natAbs * p.natAbs : Nat) : Int) = p * p := by rw [Int.natCast_mul]; exact Int.natAbs_mul_self
theorem rt2_spec (p : Int) : 0 ≤ rt2 p ∧ rt2 p * rt2 p ≤ 2 * (p * p) ∧ 2 * (p * p) < (rt2 p + 1) * (rt2 p + 1) := by
  have ⟨h1, h2⟩ := isq_spec (2 * (p.natAbs * p.natAbs))
  have e := natAbs_sq p
  unfold rt2
  generalize isq (2 * (p.natAbs * p.natAbs)) = k at *
  refine ⟨by omega, ?_, ?_⟩
  · have : ((k * k : Nat) : Int) ≤ ((2 * (p.natAbs * p.natAbs) : Nat) : Int) := by exact_mod_cast h1
    rw [Int.natCast_mul, Int.natCast_mul, e] at this
    exact this
  · have : ((2 * (p.natAbs * p.natAbs) : Nat) : Int) < (((k + 1) * (k + 1) : Nat) : Int) := by exact_mod_cast h2
    rw [Int.natCast_mul 2, e, Int.natCast_mul] at this
    exact this
theorem rt2_unique {p n : Int} (hn : 0 ≤ n) (h1 : n * n ≤ 2 * (p * p)) (h2 : 2 * (p * p) < (n + 1) * (n + 1)) : rt2 p = n := by
  have ⟨a, b, c⟩ := rt2_spec p
  have := sq_lt (x := n) (y := rt2 p + 1) (by omega) (by omega)
  have := sq_lt (x := rt2 p) (y := n + 1) (by omega) (by omega)
  omega
theorem rt2_neg (p : Int) : rt2 (-p) = rt2 p := by unfold rt2; rw [Int.natAbs_neg]
/-- The greatest whole number that is at most p r + q. -/
def flr (p q : Int) : Int := if 0 < p then q + rt2 p else if p < 0 then q - rt2 p - 1 else q
/-- The least one that is not below it. -/
def cel (p q : Int) : Int := -flr (-p) (-q)
theorem cel_eq (p q : Int) : cel p q = if p = 0 then q else flr p q + 1 := by
  unfold cel flr
  rw [rt2_neg]
  rcases Int.lt_trichotomy p 0 with h | rfl | h
  · rw [if_pos (by omega), if_neg (by omega), if_neg (by omega), if_pos h]; omega
  · simp
  · rw [if_neg (by omega), if_pos (by omega), if_neg (by omega), if_pos h]; omega
theorem flr_le (p q : Int) : NN p (q - flr p q) := by
  have ⟨a, b, c⟩ := rt2_spec p
  unfold flr
  split
  · next h =>
    rw [show q - (q + rt2 p) = -rt2 p by omega]
    have e : -rt2 p * -rt2 p = rt2 p * rt2 p := by grind
    exact nn_case (fun _ _ => by omega) (by omega) (by omega)
  · split
    · next h =>
      rw [show q - (q - rt2 p - 1) = rt2 p + 1 by omega]
      exact nn_case (by omega) (fun _ _ => by omega) (by omega)
    · next h => obtain rfl : p = 0 := by omega
                rw [Int.sub_self]; exact nn_int.2 (Int.le_refl _)
theorem flr_gt {p q n : Int} (h : NN p (q - n)) : n ≤ flr p q := by
  have ⟨a, b, c⟩ := rt2_spec p
  unfold flr
  rcases h with ⟨h1, h2⟩ | ⟨h1, h2, h3⟩ | ⟨h1, h2, h3⟩
  · split
    · omega
    · split <;> omega
  · have := sq_lt (x := n - q) (y := rt2 p + 1) (by omega) (by
      have e : (n - q) * (n - q) = (q - n) * (q - n) := by grind
      omega)
    split
    · omega
    · split
      · omega
      · next h4 => obtain rfl : p = 0 := by omega
                   have := nn_int.1 (show NN 0 (q - n) from .inr (.inl ⟨h1, h2, h3⟩))
                   omega
  · have hne : (q - n) * (q - n) ≠ 2 * (p * p) := fun e => by have := irr e; omega
    have := sq_lt (x := rt2 p) (y := q - n) (by omega) (by omega)
    rw [if_neg (by omega), if_pos h1]
    omega
theorem flr_iff {p q n : Int} : NN p (q - n) ↔ n ≤ flr p q := by
  refine ⟨flr_gt, fun h => ?_⟩
  have := (flr_le p q).add (nn_int.2 (show 0 ≤ flr p q - n by omega))
  rwa [Int.add_zero, show q - flr p q + (flr p q - n) = q - n by omega] at this
theorem cel_iff {p q n : Int} : NN (-p) (n - q) ↔ cel p q ≤ n := by
  have := flr_iff (p := -p) (q := -q) (n := -n)
  rw [show -q - -n = n - q by omega] at this
  rw [this]
  unfold cel
  omega
theorem flr_unique {p q n : Int} (h1 : NN p (q - n)) (h2 : ¬ NN p (q - (n + 1))) : flr p q = n := by
  rw [flr_iff] at h1 h2
  omega

/-- The sign of p + q r. -/
def sgnR (p q : Int) : Int :=
  if 0 ≤ p ∧ 0 ≤ q then min (p + q) 1 else if p ≤ 0 ∧ q ≤ 0 then max (p + q) (-1) else if 0 < p then (if p * p < 2 * (q * q) then -1 else 1) else if p * p < 2 * (q * q) then 1 else -1
theorem sgnR_ge (p q : Int) : 0 ≤ sgnR p q ↔ NN q p := by
  unfold sgnR NN
  have hp := sqn p
  have hq := sqn q
  by_cases h1 : 0 ≤ p ∧ 0 ≤ q
  · rw [if_pos h1]; omega
  · rw [if_neg h1]
    by_cases h2 : p ≤ 0 ∧ q ≤ 0
    · rw [if_pos h2]
      rcases Int.lt_trichotomy p 0 with hp0 | rfl | hp0
      · rcases Int.lt_trichotomy q 0 with hq0 | rfl | hq0
        · omega
        · have := Int.mul_self_lt_mul_self (a := 0) (b := -p) (by omega) (by omega)
          have e : -p * -p = p * p := by grind
          omega
        · omega
      · have := Int.mul_self_lt_mul_self (a := 0) (b := -q) (by omega) (by omega)
        have e : -q * -q = q * q := by grind
        omega
      · omega
    · rw [if_neg h2]
      have hi : p * p = 2 * (q * q) → q = 0 := irr
      by_cases h3 : 0 < p
      · rw [if_pos h3]; split <;> omega
      · rw [if_neg h3]; split <;> omega
theorem sgnR_zero (p q : Int) : sgnR p q = 0 ↔ p = 0 ∧ q = 0 := by
  unfold sgnR
  split
  · omega
  · split
    · omega
    · split
      · split <;> omega
      · split <;> omega
/-- A fraction p / q against the root of 2 (n = 1), or that and 1 (n = 2). -/
def abv (p q n : Int) : Prop := if n = 1 then p * p < 2 * (q * q) else p < q ∨ (p - q) * (p - q) < 2 * (q * q)
theorem sq_pos {x : Int} (h : x ≠ 0) : 0 < x * x := by
  rcases Int.lt_or_lt_of_ne h with h | h
  · have := Int.mul_self_lt_mul_self (a := 0) (b := -x) (by omega) (by omega)
    have e : -x * -x = x * x := by grind
    omega
  · have := Int.mul_self_lt_mul_self (a := 0) (b := x) (by omega) h
    omega
theorem abv_stop {p q n : Int} (hq : 0 < q) (hp : 0 < p) (hn : n = 1 ∨ n = 2) (h : p / q ≠ n) : abv p q n ↔ p / q < n := by
  have h1 := Int.mul_ediv_self_le (x := p) (k := q) (by omega)
  have h2 := Int.lt_mul_ediv_self_add (x := p) hq
  have h3 := sq_pos (x := q) (by omega)
  have h4 : 0 ≤ p / q := Int.ediv_nonneg (by omega) (by omega)
  obtain ⟨k, hk⟩ : ∃ k, p / q = k := ⟨_, rfl⟩
  rw [hk] at h h1 h2 h4 ⊢
  unfold abv
  rcases hn with rfl | rfl
  · rw [if_pos rfl]
    rcases (by omega : k = 0 ∨ 2 ≤ k) with rfl | hk2
    · have := Int.mul_self_lt_mul_self (a := p) (b := q) (by omega) (by omega)
      omega
    · have e := Int.mul_le_mul_of_nonneg_left hk2 (show 0 ≤ q by omega)
      have := sq_mono (x := 2 * q) (y := p) (by omega) (by omega)
      have e2 : 2 * q * (2 * q) = 4 * (q * q) := by grind
      omega
  · rw [if_neg (by decide)]
    rcases (by omega : k ≤ 1 ∨ 3 ≤ k) with hk2 | hk2
    · have e := Int.mul_le_mul_of_nonneg_left hk2 (show 0 ≤ q by omega)
      by_cases hpq : p < q
      · omega
      · have := Int.mul_self_lt_mul_self (a := p - q) (b := q) (by omega) (by omega)
        omega
    · have e := Int.mul_le_mul_of_nonneg_left hk2 (show 0 ≤ q by omega)
      have := sq_mono (x := 2 * q) (y := p - q) (by omega) (by omega)
      have e2 : 2 * q * (2 * q) = 4 * (q * q) := by grind
      omega
theorem abv_whole {p q n : Int} (hq : 0 < q) (hn : n = 1 ∨ n = 2) (h : p / q = n) (hr : p % q = 0) : abv p q n := by
  have h1 := Int.mul_ediv_add_emod p q
  have h3 := sq_pos (x := q) (by omega)
  rw [h, hr] at h1
  unfold abv
  rcases hn with rfl | rfl
  · rw [if_pos rfl]
    obtain rfl : p = q := by omega
    omega
  · rw [if_neg (by decide)]
    obtain rfl : p = q * 2 := by omega
    right
    rw [show q * 2 - q = q by omega]
    omega
theorem abv_step {p q n : Int} (hq : 0 < q) (hn : n = 1 ∨ n = 2) (h : p / q = n) (hr : p % q ≠ 0) : abv p q n ↔ ¬ abv q (p % q) 2 := by
  have h1 := Int.mul_ediv_add_emod p q
  have h2 := Int.emod_nonneg p (show q ≠ 0 by omega)
  have h3 := Int.emod_lt_of_pos p hq
  obtain ⟨r, hk⟩ : ∃ r, p % q = r := ⟨_, rfl⟩
  rw [hk] at h1 h2 h3 hr ⊢
  rw [h] at h1
  have e1 : (q + r) * (q + r) = q * q + 2 * (q * r) + r * r := by grind
  have e2 : (q - r) * (q - r) = q * q - 2 * (q * r) + r * r := by grind
  have hi : (q + r) * (q + r) = 2 * (q * q) → q = 0 := irr
  unfold abv
  rw [if_neg (show ¬ (2 : Int) = 1 by decide)]
  rcases hn with rfl | rfl
  · rw [if_pos rfl]
    obtain rfl : p = q + r := by omega
    omega
  · rw [if_neg (by decide)]
    obtain rfl : p = q * 2 + r := by omega
    rw [show q * 2 + r - q = q + r by omega]
    omega
theorem abv_one {p q : Int} : abv p q 1 ↔ p * p < 2 * (q * q) := by unfold abv; rw [if_pos rfl]
end Go.Proofs.Ytpbbbfglecbceaa
namespace Go.Proofs.Ytpbbbfglecbceaa
set_option linter.all false
open Go.RowKit

section
variable {R : Option Nat} {P : Program} {ops : Array Oper} {Q : Exit → Act → World → Prop} {B : World} {F : List Nat} {s0 : Option (List Blk × List Blk)}
variable {l : List (Oper × Nat)} {a : Act} {s s' : List Blk} {d : Option Tmp} {op : Op} {t : TypeId} {p : String} {af : Array Edge} {v : Value} {gd : Option (Nat × Bool)} {m : Nat}

/-- A call that the model answers itself. -/
theorem rg_ext {f : Nat} {cargs : Array Operand} {at_ : Array TypeId} {args : Array Value} (hg : Region.wanted ⟨d, .call ⟨.value (.func f), cargs, at_⟩, t, p, af, gd⟩ (yielded ops a.tmps) = true)
    (h : ∀ w : World, (callFunc f args).run P w = .ok (.value v) w) (hargs : cargs.map a.eval = args)
    (hz : ∀ z ∈ s0, z.1.Sublist s) (k : Rg R P ops Q B F s0 l (a.put d v) s) :
    Rg R P ops Q B F s0 ((⟨d, .call ⟨.value (.func f), cargs, at_⟩, t, p, af, gd⟩, 1) :: l) a s :=
  rg_run hg fun w K => ⟨v, w, s, .inl (by
    have he : #[] ++ cargs.map a.eval ++ #[] = args := by simpa using hargs
    rw [execOp_call_go, he]
    exact h w), K, hz, k⟩

theorem rf_quo {x y : Operand} {T z : TypeId} {k : IntKind} {n q r : Int} (hm : soft03 m = true) (hg : Region.wanted ⟨d, .binOp .quo T x y z, t, p, af, gd⟩ (yielded ops a.tmps) = true)
    (hx : a.eval x = .int k n) (hy : a.eval y = .int k q) (hq : q ≠ 0) (hr : k.wrap (n.tdiv q) = r) (h : Rg R P ops Q B F s0 l (a.put d (.int k r)) s) : Rg R P ops Q B F s0 ((⟨d, .binOp .quo T x y z, t, p, af, gd⟩, m) :: l) a s := by
  refine rg_any hm hg (fun w => ?_) h
  unfold Yld
  simp [execOp, hx, hy, eqGuard, binOp, Op.intDiv, hq, hr]
theorem rf_rem {x y : Operand} {T z : TypeId} {k : IntKind} {n q r : Int} (hm : soft03 m = true) (hg : Region.wanted ⟨d, .binOp .rem T x y z, t, p, af, gd⟩ (yielded ops a.tmps) = true)
    (hx : a.eval x = .int k n) (hy : a.eval y = .int k q) (hq : q ≠ 0) (hr : n.tmod q = r) (h : Rg R P ops Q B F s0 l (a.put d (.int k r)) s) : Rg R P ops Q B F s0 ((⟨d, .binOp .rem T x y z, t, p, af, gd⟩, m) :: l) a s := by
  refine rg_any hm hg (fun w => ?_) h
  unfold Yld
  simp [execOp, hx, hy, eqGuard, binOp, Op.intDiv, hq, hr]
theorem rf_and {x y : Operand} {T z : TypeId} {k : IntKind} {n q r : Int} (hm : soft03 m = true) (hg : Region.wanted ⟨d, .binOp .and T x y z, t, p, af, gd⟩ (yielded ops a.tmps) = true)
    (hx : a.eval x = .int k n) (hy : a.eval y = .int k q) (hr : bits .and k n q = r) (h : Rg R P ops Q B F s0 l (a.put d (.int k r)) s) : Rg R P ops Q B F s0 ((⟨d, .binOp .and T x y z, t, p, af, gd⟩, m) :: l) a s := by
  refine rg_any hm hg (fun w => ?_) h
  unfold Yld
  subst hr
  simp [execOp, hx, hy, eqGuard, binOp, Op.intBits, bits]
theorem rf_or {x y : Operand} {T z : TypeId} {k : IntKind} {n q r : Int} (hm : soft03 m = true) (hg : Region.wanted ⟨d, .binOp .or T x y z, t, p, af, gd⟩ (yielded ops a.tmps) = true)
    (hx : a.eval x = .int k n) (hy : a.eval y = .int k q) (hr : bits .or k n q = r) (h : Rg R P ops Q B F s0 l (a.put d (.int k r)) s) : Rg R P ops Q B F s0 ((⟨d, .binOp .or T x y z, t, p, af, gd⟩, m) :: l) a s := by
  refine rg_any hm hg (fun w => ?_) h
  unfold Yld
  subst hr
  simp [execOp, hx, hy, eqGuard, binOp, Op.intBits, bits]
/-- Shifts by a number that is not negative. -/
theorem rf_shrV {x y : Operand} {T z : TypeId} {k k' : IntKind} {n q e : Int} {c : Nat} (hm : soft03 m = true) (hg : Region.wanted ⟨d, .binOp .shr T x y z, t, p, af, gd⟩ (yielded ops a.tmps) = true)
    (hx : a.eval x = .int k n) (hy : a.eval y = .int k' e) (he : e = (c : Int)) (hc : c ≤ k.bits) (hq : (2 : Int) ^ c = q) (h : Rg R P ops Q B F s0 l (a.put d (.int k (n / q))) s) : Rg R P ops Q B F s0 ((⟨d, .binOp .shr T x y z, t, p, af, gd⟩, m) :: l) a s := by
  subst he
  exact rf_shr hm hg hx hy (Nat.ble_eq_true_of_le hc) hq h
theorem rf_shlV {x y : Operand} {T z : TypeId} {k k' : IntKind} {n q e r : Int} {c : Nat} (hm : soft03 m = true) (hg : Region.wanted ⟨d, .binOp .shl T x y z, t, p, af, gd⟩ (yielded ops a.tmps) = true)
    (hx : a.eval x = .int k n) (hy : a.eval y = .int k' e) (he : e = (c : Int)) (hc : c ≤ k.bits) (hq : (2 : Int) ^ c = q) (hr : k.wrap (n * q) = r) (h : Rg R P ops Q B F s0 l (a.put d (.int k r)) s) : Rg R P ops Q B F s0 ((⟨d, .binOp .shl T x y z, t, p, af, gd⟩, m) :: l) a s := by
  subst he
  exact rf_shl hm hg hx hy (Nat.ble_eq_true_of_le hc) hq hr h
end
theorem quo_ok {n q : Int} (h0 : 0 ≤ n) (h1 : n ≤ 9223372036854775807) (hq : 0 < q) : IntKind.i64.wrap (n.tdiv q) = n / q := by
  rw [Int.tdiv_eq_ediv_of_nonneg h0]
  have h2 := Int.ediv_nonneg h0 (Int.le_of_lt hq)
  have h3 : n / q ≤ n := Int.ediv_le_self _ h0
  exact wrap_ok (by omega) (by omega)
theorem quo_okU {n q : Int} (h0 : 0 ≤ n) (h1 : n ≤ 18446744073709551615) (hq : 0 < q) : IntKind.u64.wrap (n.tdiv q) = n / q := by
  rw [Int.tdiv_eq_ediv_of_nonneg h0]
  have h2 := Int.ediv_nonneg h0 (Int.le_of_lt hq)
  have h3 : n / q ≤ n := Int.ediv_le_self _ h0
  exact wrap_okU (by omega) (by omega)
theorem rem_ok {n q : Int} (h0 : 0 ≤ n) : n.tmod q = n % q := Int.tmod_eq_emod_of_nonneg h0
theorem and_mask (x : Int) (m : Nat) (hm : m ≤ 62) : bits .and .i64 x (2 ^ m - 1 : Nat) = x % (2 ^ m : Nat) := by
  show IntKind.i64.wrap ((BitVec.ofInt 64 x &&& BitVec.ofInt 64 ((2 ^ m - 1 : Nat) : Int)).toNat : Int) = _
  have hp : 2 ^ m ≤ 2 ^ 62 := Nat.pow_le_pow_right (by omega) hm
  have hp0 : 0 < 2 ^ m := Nat.two_pow_pos m
  have h1 : (BitVec.ofInt 64 ((2 ^ m - 1 : Nat) : Int)).toNat = 2 ^ m - 1 := by
    rw [BitVec.toNat_ofInt]
    have : (2 : Nat) ^ 62 = 4611686018427387904 := by decide
    omega
  rw [BitVec.toNat_and, h1, Nat.and_two_pow_sub_one_eq_mod, BitVec.toNat_ofInt, IntKind.wrap_i64]
  have h62 : (2 : Nat) ^ 62 = 4611686018427387904 := by decide
  have hd : ((2 ^ m : Nat) : Int) ∣ 18446744073709551616 := by
    have : (18446744073709551616 : Int) = ((2 ^ m * 2 ^ (64 - m) : Nat) : Int) := by rw [← Nat.pow_add, show m + (64 - m) = 64 by omega]; decide
    rw [this, Int.natCast_mul]
    exact Int.dvd_mul_right _ _
  have h2 : (((x % ((2 ^ 64 : Nat) : Int)).toNat % 2 ^ m : Nat) : Int) = x % (2 ^ m : Nat) := by
    rw [Int.natCast_emod, Int.toNat_of_nonneg (Int.emod_nonneg _ (by decide))]
    exact Int.emod_emod_of_dvd x hd
  rw [h2]
  have h3 := Int.emod_nonneg x (b := ((2 ^ m : Nat) : Int)) (by omega)
  have h4 := Int.emod_lt_of_pos x (b := ((2 ^ m : Nat) : Int)) (by omega)
  omega
end Go.Proofs.Ytpbbbfglecbceaa
namespace Go.Proofs.Ytpbbbfglecbceaa
set_option linter.all false
open Go.RowKit
theorem run_Add64 (x y c s r : Int) (hx : 0 ≤ x) (hy : 0 ≤ y) (hc0 : 0 ≤ c) (hc : c ≤ 1) (hs : (x + y + c) % 18446744073709551616 = s) (hr : (x + y + c) / 18446744073709551616 = r) (w : World) :
    (callFunc 153 #[.int .u64 x, .int .u64 y, .int .u64 c]).run Try.prog w = .ok (.value (.tuple #[.int .u64 s, .int .u64 r])) w := by
  rw [run_callFunc_extern Try.func153 (by kernel_rfl) (by kernel_rfl) (by kernel_rfl) (e := add64Entry) (by kernel_rfl), run_add64 x y c hx hy hc0 hc, hs, hr]
  rfl
end Go.Proofs.Ytpbbbfglecbceaa
namespace Go.Proofs.Ytpbbbfglecbceaa
set_option linter.all false

/-- p r + q, so many times multiplied by r. -/
def tw : Nat → Int → Int → Int × Int
  | 0, p, q => (p, q)
  | n + 1, p, q => tw n q (2 * p)
theorem tw_even : ∀ (c : Nat) (p q : Int), tw (2 * c) p q = (p * 2 ^ c, q * 2 ^ c)
  | 0, p, q => by simp [tw]
  | c + 1, p, q => by
    rw [show 2 * (c + 1) = 2 * c + 1 + 1 by omega]
    simp only [tw]
    rw [tw_even c, Int.pow_succ]
    congr 1 <;> grind
theorem tw_odd (c : Nat) (p q : Int) : tw (2 * c + 1) p q = (q * 2 ^ c, 2 * p * 2 ^ c) := by simp only [tw]; rw [tw_even]
theorem tw_neg : ∀ (n : Nat) (p q : Int), tw n (-p) (-q) = (-(tw n p q).1, -(tw n p q).2)
  | 0, p, q => rfl
  | n + 1, p, q => by simp only [tw]; rw [show 2 * -p = -(2 * p) by omega, tw_neg n]
def lowP (p q k : Int) : Int := flr (tw (59 - k).toNat p q).1 (tw (59 - k).toNat p q).2
def spanP (p q k : Int) : En.Sp := ⟨lowP p q k, cel (tw (59 - k).toNat p q).1 (tw (59 - k).toNat p q).2⟩
theorem spanP_eq (p q k : Int) : spanP p q k = ⟨lowP p q k, -lowP (-p) (-q) k⟩ := by
  unfold spanP lowP cel
  rw [tw_neg]
def boundR (z : Nm) : En.Rc := ⟨spanP z.a (z.b - z.d) z.k, spanP z.c (z.b + z.d) z.k⟩
def fromR (z : Nm) : En.Rc × Int := if z.okB then (if (boundR z).ok then (boundR z, 0) else (⟨⟨0, 0⟩, ⟨0, 0⟩⟩, 4)) else (⟨⟨0, 0⟩, ⟨0, 0⟩⟩, 10)
theorem mulb {x m : Int} (h1 : -2147483648 ≤ x) (h2 : x ≤ 2147483648) (m1 : 1 ≤ m) (m2 : m ≤ 536870912) : -1152921504606846976 ≤ x * m ∧ x * m ≤ 1152921504606846976 := by
  have e1 := Int.mul_le_mul_of_nonneg_right h1 (show 0 ≤ m by omega)
  have e2 := Int.mul_le_mul_of_nonneg_right h2 (show 0 ≤ m by omega)
  omega
theorem pow29 {c : Nat} (h : c ≤ 29) : 1 ≤ (2 : Int) ^ c ∧ (2 : Int) ^ c ≤ 536870912 := by
  have h1 := Nat.pow_le_pow_right (n := 2) (by omega) h
  have h2 := Nat.one_le_two_pow (n := c)
  have e : ((2 ^ c : Nat) : Int) = (2 : Int) ^ c := by simp
  have e2 : (2 : Nat) ^ 29 = 536870912 := by decide
  omega
theorem rt2_le (p : Int) : rt2 p ≤ 2 * p.natAbs := by
  have ⟨a, b, c⟩ := rt2_spec p
  refine sq_le (by omega) ?_
  have e : 2 * (p.natAbs : Int) * (2 * p.natAbs) = 4 * (p * p) := by
    have := @Int.natAbs_mul_self p
    grind
  have := sqn p
  omega
theorem rt2_abs (p : Int) : rt2 (p.natAbs : Int) = rt2 p := by
  rcases Int.natAbs_eq p with h | h
  · rw [← h]
  · rw [h, rt2_neg, Int.natAbs_neg]; rfl
theorem flr_fit {p q : Int} (h1 : -1152921504606846976 ≤ p) (h2 : p ≤ 1152921504606846976) (h3 : -1152921504606846976 ≤ q) (h4 : q ≤ 1152921504606846976) : -4611686018427387904 ≤ flr p q ∧ flr p q ≤ 4611686018427387904 := by
  have := rt2_le p
  have := (rt2_spec p).1
  unfold flr
  split
  · omega
  · split <;> omega
theorem tw_fit {p q k : Int} (h0 : 0 ≤ k) (h1 : k ≤ 40) (p1 : -1000000000 ≤ p) (p2 : p ≤ 1000000000) (q1 : -2000000000 ≤ q) (q2 : q ≤ 2000000000) :
    (-1152921504606846976 ≤ (tw (59 - k).toNat p q).1 ∧ (tw (59 - k).toNat p q).1 ≤ 1152921504606846976) ∧ -1152921504606846976 ≤ (tw (59 - k).toNat p q).2 ∧ (tw (59 - k).toNat p q).2 ≤ 1152921504606846976 := by
  obtain ⟨c, hc⟩ : ∃ c, (59 - k).toNat = 2 * c ∨ (59 - k).toNat = 2 * c + 1 := ⟨(59 - k).toNat / 2, by omega⟩
  have hp := pow29 (c := c) (by omega)
  rcases hc with hc | hc <;> rw [hc]
  · rw [tw_even]; exact ⟨mulb (by omega) (by omega) hp.1 hp.2, mulb (by omega) (by omega) hp.1 hp.2⟩
  · rw [tw_odd]; exact ⟨mulb (by omega) (by omega) hp.1 hp.2, mulb (by omega) (by omega) hp.1 hp.2⟩
theorem lowP_fit {p q k : Int} (h0 : 0 ≤ k) (h1 : k ≤ 40) (p1 : -1000000000 ≤ p) (p2 : p ≤ 1000000000) (q1 : -2000000000 ≤ q) (q2 : q ≤ 2000000000) : -4611686018427387904 ≤ lowP p q k ∧ lowP p q k ≤ 4611686018427387904 := by
  have ⟨⟨a, b⟩, c, d⟩ := tw_fit h0 h1 p1 p2 q1 q2
  exact flr_fit a b c d
end Go.Proofs.Ytpbbbfglecbceaa
namespace Go.Proofs.Ytpbbbfglecbceaa
set_option linter.all false
open Go.RowKit

theorem same_pure {P : Program} {f : Nat} {args : Array Value} {w : World} {v : Value} (h : Calls P f args w (fun e w' => e = .returned v ∧ w = w')) : Calls P f args w (fun e w' => e = .returned v ∧ Below w.heap.size w w') :=
  h.mono (by rintro e w' ⟨rfl, rfl⟩; exact ⟨rfl, Below.refl _ _⟩)
set_option maxRecDepth 100000 in
set_option maxHeartbeats 1000000 in
theorem ampsize_any (n : Int) (h1 : -9223372036854775807 ≤ n) (h2 : n ≤ 9223372036854775807) (w : World) : Calls Try.prog 150 #[.int .i64 n] w fun e w' => e = .returned (.int .u64 (n.natAbs : Int)) ∧ Below w.heap.size w w' := by
  go_enter Try.func150, Try.ntmps150
  refine wk_start ?_
  refine wk_seq ?_
  refine wk_region [0] rfl (by kernel_rfl) ?_
  simp only [List.zip_cons_cons, List.zip_nil_right]
  refine rg_assign ?_
  simp only [Act.put, Act.eval, qn, qv, Nat.reduceAdd]
  refine rg_nil ?_
  refine ek_next ?_
  refine wk_seq ?_
  refine wk_seq ?_
  refine wk_region [0, 0] rfl (by kernel_rfl) ?_
  simp only [List.zip_cons_cons, List.zip_nil_right]
  refine rg_move ?_
  simp only [Act.put, Act.eval, qn, qv, Nat.reduceAdd]
  refine rfb_lss rfl rfl rfl rfl ?_
  intro x h1
  cases x
  · (try simp only [decide_eq_true_eq, decide_eq_false_iff_not, Int.not_lt, Int.not_le, beq_iff_eq, beq_eq_false_iff_ne, bne_iff_ne, bne_eq_false_iff_eq, ne_eq, Bool.not_eq_true', Bool.not_eq_false'] at h1)
    simp only [Act.put, Act.eval, qn, qv, Nat.reduceAdd]
    refine rg_nil ?_
    refine ek_next ?_
    refine wk_cond_f rfl ?_
    refine wk_skip ?_
    refine ek_next ?_
    refine wk_seq ?_
    refine wk_region [0, 0, 0] rfl (by kernel_rfl) ?_
    simp only [List.zip_cons_cons, List.zip_nil_right]
    refine rg_move ?_
    simp only [Act.put, Act.eval, qn, qv, Nat.reduceAdd]
    refine rf_conv rfl rfl rfl Try.underlying3 Try.underlying109 (IntKind.wrap_u64 _) ?_
    simp only [Act.put, Act.eval, qn, qv, Nat.reduceAdd]
    refine rg_assign ?_
    simp only [Act.put, Act.eval, qn, qv, Nat.reduceAdd]
    refine rg_nil ?_
    refine ek_next ?_
    refine wk_ret ?_
    refine ek_ret (fun w hw => ⟨rfl, _, res_t _ rfl, ?_⟩)
    (try simp only [Act.put, Act.eval, qn, qv, Nat.reduceAdd])
    exact ⟨by congr 2; (try rw [IntKind.wrap_u64, IntKind.wrap_u64]); omega, hw.below⟩
  · (try simp only [decide_eq_true_eq, decide_eq_false_iff_not, Int.not_lt, Int.not_le, beq_iff_eq, beq_eq_false_iff_ne, bne_iff_ne, bne_eq_false_iff_eq, ne_eq, Bool.not_eq_true', Bool.not_eq_false'] at h1)
    simp only [Act.put, Act.eval, qn, qv, Nat.reduceAdd]
    refine rg_nil ?_
    refine ek_next ?_
    refine wk_cond_t rfl ?_
    refine wk_seq ?_
    refine wk_region [0, 0, 0, 0] rfl (by kernel_rfl) ?_
    simp only [List.zip_cons_cons, List.zip_nil_right]
    refine rg_move ?_
    simp only [Act.put, Act.eval, qn, qv, Nat.reduceAdd]
    refine rf_conv rfl rfl rfl Try.underlying3 Try.underlying109 (IntKind.wrap_u64 _) ?_
    simp only [Act.put, Act.eval, qn, qv, Nat.reduceAdd]
    refine rf_neg rfl rfl rfl (IntKind.wrap_u64 _) ?_
    simp only [Act.put, Act.eval, qn, qv, Nat.reduceAdd]
    refine rg_assign ?_
    simp only [Act.put, Act.eval, qn, qv, Nat.reduceAdd]
    refine rg_nil ?_
    refine ek_next ?_
    refine wk_ret ?_
    refine ek_then_ret ?_
    refine ek_ret (fun w hw => ⟨rfl, _, res_t _ rfl, ?_⟩)
    (try simp only [Act.put, Act.eval, qn, qv, Nat.reduceAdd])
    exact ⟨by congr 2; (try rw [IntKind.wrap_u64, IntKind.wrap_u64]); omega, hw.below⟩

set_option maxRecDepth 100000 in
set_option maxHeartbeats 1000000 in
theorem amproot_any (n : Int) (h0 : 0 ≤ n) (h1 : n ≤ 2305843009213693952) (w : World) : Calls Try.prog 149 #[.int .u64 n] w fun e w' => e = .returned (.int .u64 (rt2 n)) ∧ Below w.heap.size w w' := by
  have cm := mul64_any n n h0 (by omega) h0 (by omega)
  have hN0 := sqn n
  have hN1 : n * n ≤ 2305843009213693952 * 2305843009213693952 := Int.mul_le_mul h1 h1 h0 (by omega)
  obtain ⟨hh, hh0⟩ : ∃ x, n * n / 18446744073709551616 = x := ⟨_, rfl⟩
  obtain ⟨l0, hl0⟩ : ∃ x, n * n % 18446744073709551616 = x := ⟨_, rfl⟩
  rw [hh0, hl0] at cm
  replace cm := Lib.hid cm
  obtain ⟨L, hL⟩ : ∃ x, (l0 + l0 + 0) % 18446744073709551616 = x := ⟨_, rfl⟩
  obtain ⟨C, hC⟩ : ∃ x, (l0 + l0 + 0) / 18446744073709551616 = x := ⟨_, rfl⟩
  obtain ⟨H, hH⟩ : ∃ x, hh + hh + C = x := ⟨_, rfl⟩
  have hHL : 2 * (n * n) = H * 18446744073709551616 + L := by omega
  go_enter Try.func149, Try.ntmps149
  refine wk_start ?_
  refine wk_seq ?_
  refine wk_region [0] rfl (by kernel_rfl) ?_
  simp only [List.zip_cons_cons, List.zip_nil_right]
  refine rg_assign ?_
  simp only [Act.put, Act.eval, qn, qv, Nat.reduceAdd]
  refine rg_nil ?_
  refine ek_next ?_
  refine wk_seq ?_
  refine wk_region [0, 0, 1, 0, 0, 0, 0, 0] rfl (by kernel_rfl) ?_
  simp only [List.zip_cons_cons, List.zip_nil_right]
  refine rg_move ?_
  simp only [Act.put, Act.eval, qn, qv, Nat.reduceAdd]
  refine rg_move ?_
  simp only [Act.put, Act.eval, qn, qv, Nat.reduceAdd]
  apply rg_pure (by rfl) (by kernel_rfl)
  case hargs => (simp only [qm, qs, Act.eval]; exact rfl)
  case h => exact fun w hw => same_pure (cm.out w)
  case hz => exact (fun _ h => by cases h)
  simp only [Act.put, Act.eval, qn, qv, Nat.reduceAdd]
  refine rg_move ?_
  simp only [Act.put, Act.eval, qn, qv, Nat.reduceAdd]
  refine rf_extract rfl rfl rfl rfl ?_
  simp only [Act.put, Act.eval, qn, qv, Nat.reduceAdd]
  refine rf_extract rfl rfl rfl rfl ?_
  simp only [Act.put, Act.eval, qn, qv, Nat.reduceAdd]
  refine rg_assign ?_
  simp only [Act.put, Act.eval, qn, qv, Nat.reduceAdd]
  refine rg_assign ?_
  simp only [Act.put, Act.eval, qn, qv, Nat.reduceAdd]
  refine rg_nil ?_
  refine ek_next ?_
  refine wk_seq ?_
  refine wk_region [0, 0, 1, 0, 0, 0, 0, 0] rfl (by kernel_rfl) ?_
  simp only [List.zip_cons_cons, List.zip_nil_right]
  refine rg_move ?_
  simp only [Act.put, Act.eval, qn, qv, Nat.reduceAdd]
  refine rg_move ?_
  simp only [Act.put, Act.eval, qn, qv, Nat.reduceAdd]
  apply rg_ext (by rfl)
  case hargs => (simp only [qm, qs, Act.eval]; exact rfl)
  case h => exact fun w => run_Add64 l0 l0 0 L C (by omega) (by omega) (by omega) (by omega) (by omega) (by omega) w
  case hz => exact (fun _ h => by cases h)
  simp only [Act.put, Act.eval, qn, qv, Nat.reduceAdd]
  refine rg_move ?_
  simp only [Act.put, Act.eval, qn, qv, Nat.reduceAdd]
  refine rf_extract rfl rfl rfl rfl ?_
  simp only [Act.put, Act.eval, qn, qv, Nat.reduceAdd]
  refine rf_extract rfl rfl rfl rfl ?_
  simp only [Act.put, Act.eval, qn, qv, Nat.reduceAdd]
  refine rg_assign ?_
  simp only [Act.put, Act.eval, qn, qv, Nat.reduceAdd]
  refine rg_assign ?_
  simp only [Act.put, Act.eval, qn, qv, Nat.reduceAdd]
  refine rg_nil ?_
  refine ek_next ?_
  refine wk_seq ?_
  refine wk_region [0, 0, 0, 1, 0, 0, 0, 0] rfl (by kernel_rfl) ?_
  simp only [List.zip_cons_cons, List.zip_nil_right]
  refine rg_move ?_
  simp only [Act.put, Act.eval, qn, qv, Nat.reduceAdd]
  refine rg_move ?_
  simp only [Act.put, Act.eval, qn, qv, Nat.reduceAdd]
  refine rg_move ?_
  simp only [Act.put, Act.eval, qn, qv, Nat.reduceAdd]
  apply rg_ext (by rfl)
  case hargs => (simp only [qm, qs, Act.eval]; exact rfl)
  case h => exact fun w => run_Add64 hh hh C H 0 (by omega) (by omega) (by omega) (by omega) (by omega) (by omega) w
  case hz => exact (fun _ h => by cases h)
  simp only [Act.put, Act.eval, qn, qv, Nat.reduceAdd]
  refine rg_move ?_
  simp only [Act.put, Act.eval, qn, qv, Nat.reduceAdd]
  refine rf_extract rfl rfl rfl rfl ?_
  simp only [Act.put, Act.eval, qn, qv, Nat.reduceAdd]
  refine rf_extract rfl rfl rfl rfl ?_
  simp only [Act.put, Act.eval, qn, qv, Nat.reduceAdd]
  refine rg_assign ?_
  simp only [Act.put, Act.eval, qn, qv, Nat.reduceAdd]
  refine rg_nil ?_
  refine ek_next ?_
  refine wk_seq ?_
  refine wk_region [0, 0, 0, 0, 0, 0] rfl (by kernel_rfl) ?_
  simp only [List.zip_cons_cons, List.zip_nil_right]
  refine rg_move ?_
  simp only [Act.put, Act.eval, qn, qv, Nat.reduceAdd]
  refine rg_move ?_
  simp only [Act.put, Act.eval, qn, qv, Nat.reduceAdd]
  refine rf_mul rfl rfl rfl rfl (wrap_okU (by omega) (by omega)) ?_
  simp only [Act.put, Act.eval, qn, qv, Nat.reduceAdd]
  refine rf_add rfl rfl rfl rfl (wrap_okU (by omega) (by omega)) ?_
  simp only [Act.put, Act.eval, qn, qv, Nat.reduceAdd]
  refine rg_assign ?_
  simp only [Act.put, Act.eval, qn, qv, Nat.reduceAdd]
  refine rg_assign ?_
  simp only [Act.put, Act.eval, qn, qv, Nat.reduceAdd]
  refine rg_nil ?_
  refine ek_next ?_
  refine wk_seq ?_
  refine wk_block ?_
  refine wk_loopF [6, 7, 8, 9, 10, 34, 35, 36, 37, 38, 39, 40, 41, 42, 43, 44, 45, 46, 47, 48, 49, 50, 51, 52, 53, 54, 55, 56, 57, 58, 59, 60, 61, 62, 63, 64] (fun mz f s => ∃ (lo hi : Int), f 6 = .int .u64 lo ∧ f 7 = .int .u64 hi ∧ s = [] ∧ mz = (hi - lo).toNat ∧ 0 ≤ lo ∧ lo < hi ∧ hi ≤ 2 * n + 1 ∧ lo * lo ≤ 2 * (n * n) ∧ 2 * (n * n) < hi * hi) ((fun (lo hi : Int) => (hi - lo).toNat) (n) (2 * n + 1)) ?_ (by kernel_rfl) ?_
  · exact ⟨n, 2 * n + 1, rfl, rfl, rfl, rfl, h0, by omega, by omega, by omega, by grind⟩
  rintro mz f1 s ⟨lo, hi, hs1_6, hs1_7, rfl, hn, hd1, hd2, hd3, hd4, hd5⟩
  simp only [Act.putF, List.foldl_cons, List.foldl_nil, hs1_6, hs1_7, Act.put, Act.eval, q1, q2, q3, q4, q5, q6, q7, q8, q9, q10, q11, q12, q13, q14, q15, q16, q17, q18, Nat.reduceAdd, Bool.not_true, Bool.not_false]
  clear hs1_6 hs1_7
  refine wk_seq ?_
  refine wk_seq ?_
  refine wk_region [0, 0, 0, 0] rfl (by kernel_rfl) ?_
  simp only [List.zip_cons_cons, List.zip_nil_right]
  refine rg_move ?_
  simp only [Act.put, Act.eval, qn, qv, Nat.reduceAdd]
  refine rf_add rfl rfl rfl rfl (wrap_okU (by omega) (by omega)) ?_
  simp only [Act.put, Act.eval, qn, qv, Nat.reduceAdd]
  refine rg_move ?_
  simp only [Act.put, Act.eval, qn, qv, Nat.reduceAdd]
  refine rfb_lss rfl rfl rfl rfl ?_
  intro x h1
  cases x
  · (try simp only [decide_eq_true_eq, decide_eq_false_iff_not, Int.not_lt, Int.not_le, beq_iff_eq, beq_eq_false_iff_ne, bne_iff_ne, bne_eq_false_iff_eq, ne_eq, Bool.not_eq_true', Bool.not_eq_false'] at h1)
    simp only [Act.put, Act.eval, qn, qv, Nat.reduceAdd]
    refine rg_nil ?_
    refine ek_next ?_
    refine wk_cond_f rfl ?_
    refine wk_exit ?_
    refine ek_then_exit ?_
    refine ek_then_exit ?_
    refine ek_block_exit ?_
    refine ek_next ?_
    refine wk_seq ?_
    refine wk_region [0, 0] rfl (by kernel_rfl) ?_
    simp only [List.zip_cons_cons, List.zip_nil_right]
    refine rg_move ?_
    simp only [Act.put, Act.eval, qn, qv, Nat.reduceAdd]
    refine rg_assign ?_
    simp only [Act.put, Act.eval, qn, qv, Nat.reduceAdd]
    refine rg_nil ?_
    refine ek_next ?_
    refine wk_ret ?_
    refine ek_ret (fun w hw => ⟨rfl, _, res_t _ rfl, ?_⟩)
    (try simp only [Act.put, Act.eval, qn, qv, Nat.reduceAdd])
    exact ⟨by rw [rt2_unique hd1 hd4 (by (have : hi = lo + 1 := by omega); subst this; exact hd5)], hw.below⟩
  · (try simp only [decide_eq_true_eq, decide_eq_false_iff_not, Int.not_lt, Int.not_le, beq_iff_eq, beq_eq_false_iff_ne, bne_iff_ne, bne_eq_false_iff_eq, ne_eq, Bool.not_eq_true', Bool.not_eq_false'] at h1)
    simp only [Act.put, Act.eval, qn, qv, Nat.reduceAdd]
    refine rg_nil ?_
    refine ek_next ?_
    refine wk_cond_t rfl ?_
    refine wk_skip ?_
    refine ek_next ?_
    refine wk_block ?_
    refine wk_seq ?_
    refine wk_region [0, 0, 0, 0, 0, 0, 0] rfl (by kernel_rfl) ?_
    simp only [List.zip_cons_cons, List.zip_nil_right]
    refine rg_move ?_
    simp only [Act.put, Act.eval, qn, qv, Nat.reduceAdd]
    refine rg_move ?_
    simp only [Act.put, Act.eval, qn, qv, Nat.reduceAdd]
    refine rg_move ?_
    simp only [Act.put, Act.eval, qn, qv, Nat.reduceAdd]
    refine rf_sub rfl rfl rfl rfl (wrap_okU (by omega) (by omega)) ?_
    simp only [Act.put, Act.eval, qn, qv, Nat.reduceAdd]
    refine rf_quo (r := (hi - lo) / 2) rfl rfl rfl rfl (by decide) (quo_okU (by omega) (by omega) (by omega)) ?_
    simp only [Act.put, Act.eval, qn, qv, Nat.reduceAdd]
    refine rf_add rfl rfl rfl rfl (wrap_okU (by omega) (by omega)) ?_
    simp only [Act.put, Act.eval, qn, qv, Nat.reduceAdd]
    obtain ⟨mi, hmi⟩ : ∃ mi, lo + (hi - lo) / 2 = mi := ⟨_, rfl⟩
    have hlt : lo + 1 < hi := by omega
    have hm1 : lo < mi ∧ mi < hi := by omega
    obtain ⟨M, hM⟩ : ∃ M, mi * mi = M := ⟨_, rfl⟩
    have cq := mul64_any mi mi (by omega) (by omega) (by omega) (by omega)
    rw [hM] at cq
    obtain ⟨hB, hB'⟩ : ∃ x, M / 18446744073709551616 = x := ⟨_, rfl⟩
    obtain ⟨lB, lB'⟩ : ∃ x, M % 18446744073709551616 = x := ⟨_, rfl⟩
    rw [hB', lB'] at cq
    replace cq := Lib.hid cq
    have hMn : 0 ≤ M := by rw [← hM]; exact sqn _
    rw [hmi]
    refine rg_assign ?_
    simp only [Act.put, Act.eval, qn, qv, Nat.reduceAdd]
    refine rg_nil ?_
    refine ek_next ?_
    refine wk_seq ?_
    refine wk_region [0, 0, 1, 0, 0, 0, 0, 0] rfl (by kernel_rfl) ?_
    simp only [List.zip_cons_cons, List.zip_nil_right]
    refine rg_move ?_
    simp only [Act.put, Act.eval, qn, qv, Nat.reduceAdd]
    refine rg_move ?_
    simp only [Act.put, Act.eval, qn, qv, Nat.reduceAdd]
    apply rg_pure (by rfl) (by kernel_rfl)
    case hargs => (simp only [qm, qs, Act.eval]; exact rfl)
    case h => exact fun w hw => same_pure (cq.out w)
    case hz => exact (fun _ h => by cases h)
    simp only [Act.put, Act.eval, qn, qv, Nat.reduceAdd]
    refine rg_move ?_
    simp only [Act.put, Act.eval, qn, qv, Nat.reduceAdd]
    refine rf_extract rfl rfl rfl rfl ?_
    simp only [Act.put, Act.eval, qn, qv, Nat.reduceAdd]
    refine rf_extract rfl rfl rfl rfl ?_
    simp only [Act.put, Act.eval, qn, qv, Nat.reduceAdd]
    refine rg_assign ?_
    simp only [Act.put, Act.eval, qn, qv, Nat.reduceAdd]
    refine rg_assign ?_
    simp only [Act.put, Act.eval, qn, qv, Nat.reduceAdd]
    refine rg_nil ?_
    refine ek_next ?_
    refine wk_seq ?_
    refine wk_region [0, 0, 0, 0, 0, 0, 0, 0, 0, 0, 0, 0, 0] rfl (by kernel_rfl) ?_
    simp only [List.zip_cons_cons, List.zip_nil_right]
    refine rg_move ?_
    simp only [Act.put, Act.eval, qn, qv, Nat.reduceAdd]
    refine rg_move ?_
    simp only [Act.put, Act.eval, qn, qv, Nat.reduceAdd]
    refine rfb_lss rfl rfl rfl rfl ?_
    intro x h2
    cases x
    · (try simp only [decide_eq_true_eq, decide_eq_false_iff_not, Int.not_lt, Int.not_le, beq_iff_eq, beq_eq_false_iff_ne, bne_iff_ne, bne_eq_false_iff_eq, ne_eq, Bool.not_eq_true', Bool.not_eq_false'] at h2)
      simp only [Act.put, Act.eval, qn, qv, Nat.reduceAdd]
      refine rg_move ?_
      simp only [Act.put, Act.eval, qn, qv, Nat.reduceAdd]
      apply rg_soft_g
      case hg => rfl
      case hy => (intro w hw; go_simp; (try go_bits); exact Yld.mk _ _)
      simp only [Act.put, Act.eval, qn, qv, Nat.reduceAdd]
      apply rg_soft_g
      case hg => rfl
      case hy => (intro w hw; go_simp; (try go_bits); exact Yld.mk _ _)
      simp only [Act.put, Act.eval, qn, qv, Nat.reduceAdd]
      refine rfb_eql rfl rfl rfl rfl ?_
      intro x h3
      cases x
      · (try simp only [decide_eq_true_eq, decide_eq_false_iff_not, Int.not_lt, Int.not_le, beq_iff_eq, beq_eq_false_iff_ne, bne_iff_ne, bne_eq_false_iff_eq, ne_eq, Bool.not_eq_true', Bool.not_eq_false'] at h3)
        simp only [Act.put, Act.eval, qn, qv, Nat.reduceAdd]
        apply rg_soft_g
        case hg => rfl
        case hy => (intro w hw; go_simp; (try go_bits); exact Yld.mk _ _)
        simp only [Act.put, Act.eval, qn, qv, Nat.reduceAdd]
        refine rg_skip (by rfl) ?_
        simp only [Act.put, Act.eval, qn, qv, Nat.reduceAdd]
        refine rg_skip (by rfl) ?_
        simp only [Act.put, Act.eval, qn, qv, Nat.reduceAdd]
        refine rg_skip (by rfl) ?_
        simp only [Act.put, Act.eval, qn, qv, Nat.reduceAdd]
        refine rf_pick rfl rfl rfl ?_
        simp only [Act.put, Act.eval, qn, qv, Nat.reduceAdd]
        refine rf_pick rfl rfl rfl ?_
        simp only [Act.put, Act.eval, qn, qv, Nat.reduceAdd]
        refine rg_nil ?_
        refine ek_next ?_
        refine wk_cond_f rfl ?_
        refine wk_region [0, 0] rfl (by kernel_rfl) ?_
        simp only [List.zip_cons_cons, List.zip_nil_right]
        refine rg_move ?_
        simp only [Act.put, Act.eval, qn, qv, Nat.reduceAdd]
        refine rg_assign ?_
        simp only [Act.put, Act.eval, qn, qv, Nat.reduceAdd]
        refine rg_nil ?_
        refine ek_block ?_
        refine ek_roundF ((mi - lo).toNat) (by omega) (by kernel_rfl) ?_
        exact ⟨lo, mi, rfl, rfl, by rfl, by rfl, (by omega), (by omega), (by omega), hd4, (by rw [hM]; omega)⟩
      · (try simp only [decide_eq_true_eq, decide_eq_false_iff_not, Int.not_lt, Int.not_le, beq_iff_eq, beq_eq_false_iff_ne, bne_iff_ne, bne_eq_false_iff_eq, ne_eq, Bool.not_eq_true', Bool.not_eq_false'] at h3)
        simp only [Act.put, Act.eval, qn, qv, Nat.reduceAdd]
        apply rg_soft_g
        case hg => rfl
        case hy => (intro w hw; go_simp; (try go_bits); exact Yld.mk _ _)
        simp only [Act.put, Act.eval, qn, qv, Nat.reduceAdd]
        apply rg_soft_g
        case hg => rfl
        case hy => (intro w hw; go_simp; (try go_bits); exact Yld.mk _ _)
        simp only [Act.put, Act.eval, qn, qv, Nat.reduceAdd]
        apply rg_soft_g
        case hg => rfl
        case hy => (intro w hw; go_simp; (try go_bits); exact Yld.mk _ _)
        simp only [Act.put, Act.eval, qn, qv, Nat.reduceAdd]
        refine rfb_leq rfl rfl rfl rfl ?_
        intro x h4
        cases x
        · (try simp only [decide_eq_true_eq, decide_eq_false_iff_not, Int.not_lt, Int.not_le, beq_iff_eq, beq_eq_false_iff_ne, bne_iff_ne, bne_eq_false_iff_eq, ne_eq, Bool.not_eq_true', Bool.not_eq_false'] at h4)
          simp only [Act.put, Act.eval, qn, qv, Nat.reduceAdd]
          refine rf_pick rfl rfl rfl ?_
          simp only [Act.put, Act.eval, qn, qv, Nat.reduceAdd]
          refine rf_pick rfl rfl rfl ?_
          simp only [Act.put, Act.eval, qn, qv, Nat.reduceAdd]
          refine rg_nil ?_
          refine ek_next ?_
          refine wk_cond_f rfl ?_
          refine wk_region [0, 0] rfl (by kernel_rfl) ?_
          simp only [List.zip_cons_cons, List.zip_nil_right]
          refine rg_move ?_
          simp only [Act.put, Act.eval, qn, qv, Nat.reduceAdd]
          refine rg_assign ?_
          simp only [Act.put, Act.eval, qn, qv, Nat.reduceAdd]
          refine rg_nil ?_
          refine ek_block ?_
          refine ek_roundF ((mi - lo).toNat) (by omega) (by kernel_rfl) ?_
          exact ⟨lo, mi, rfl, rfl, by rfl, by rfl, (by omega), (by omega), (by omega), hd4, (by rw [hM]; omega)⟩
        · (try simp only [decide_eq_true_eq, decide_eq_false_iff_not, Int.not_lt, Int.not_le, beq_iff_eq, beq_eq_false_iff_ne, bne_iff_ne, bne_eq_false_iff_eq, ne_eq, Bool.not_eq_true', Bool.not_eq_false'] at h4)
          simp only [Act.put, Act.eval, qn, qv, Nat.reduceAdd]
          refine rf_pick rfl rfl rfl ?_
          simp only [Act.put, Act.eval, qn, qv, Nat.reduceAdd]
          refine rf_pick rfl rfl rfl ?_
          simp only [Act.put, Act.eval, qn, qv, Nat.reduceAdd]
          refine rg_nil ?_
          refine ek_next ?_
          refine wk_cond_t rfl ?_
          refine wk_region [0, 0] rfl (by kernel_rfl) ?_
          simp only [List.zip_cons_cons, List.zip_nil_right]
          refine rg_move ?_
          simp only [Act.put, Act.eval, qn, qv, Nat.reduceAdd]
          refine rg_assign ?_
          simp only [Act.put, Act.eval, qn, qv, Nat.reduceAdd]
          refine rg_nil ?_
          refine ek_block ?_
          refine ek_roundF ((hi - mi).toNat) (by omega) (by kernel_rfl) ?_
          exact ⟨mi, hi, rfl, rfl, by rfl, by rfl, (by omega), (by omega), (by omega), (by rw [hM]; omega), hd5⟩
    · (try simp only [decide_eq_true_eq, decide_eq_false_iff_not, Int.not_lt, Int.not_le, beq_iff_eq, beq_eq_false_iff_ne, bne_iff_ne, bne_eq_false_iff_eq, ne_eq, Bool.not_eq_true', Bool.not_eq_false'] at h2)
      simp only [Act.put, Act.eval, qn, qv, Nat.reduceAdd]
      refine rg_move ?_
      simp only [Act.put, Act.eval, qn, qv, Nat.reduceAdd]
      refine rg_skip (by rfl) ?_
      simp only [Act.put, Act.eval, qn, qv, Nat.reduceAdd]
      refine rg_skip (by rfl) ?_
      simp only [Act.put, Act.eval, qn, qv, Nat.reduceAdd]
      refine rg_skip (by rfl) ?_
      simp only [Act.put, Act.eval, qn, qv, Nat.reduceAdd]
      refine rg_skip (by rfl) ?_
      simp only [Act.put, Act.eval, qn, qv, Nat.reduceAdd]
      refine rg_skip (by rfl) ?_
      simp only [Act.put, Act.eval, qn, qv, Nat.reduceAdd]
      refine rg_skip (by rfl) ?_
      simp only [Act.put, Act.eval, qn, qv, Nat.reduceAdd]
      refine rg_skip (by rfl) ?_
      simp only [Act.put, Act.eval, qn, qv, Nat.reduceAdd]
      refine rg_skip (by rfl) ?_
      simp only [Act.put, Act.eval, qn, qv, Nat.reduceAdd]
      refine rf_pick rfl rfl rfl ?_
      simp only [Act.put, Act.eval, qn, qv, Nat.reduceAdd]
      refine rg_nil ?_
      refine ek_next ?_
      refine wk_cond_t rfl ?_
      refine wk_region [0, 0] rfl (by kernel_rfl) ?_
      simp only [List.zip_cons_cons, List.zip_nil_right]
      refine rg_move ?_
      simp only [Act.put, Act.eval, qn, qv, Nat.reduceAdd]
      refine rg_assign ?_
      simp only [Act.put, Act.eval, qn, qv, Nat.reduceAdd]
      refine rg_nil ?_
      refine ek_block ?_
      refine ek_roundF ((hi - mi).toNat) (by omega) (by kernel_rfl) ?_
      exact ⟨mi, hi, rfl, rfl, by rfl, by rfl, (by omega), (by omega), (by omega), (by rw [hM]; omega), hd5⟩

end Go.Proofs.Ytpbbbfglecbceaa
namespace Go.Proofs.Ytpbbbfglecbceaa
set_option linter.all false
open Go.RowKit

set_option maxRecDepth 100000 in
set_option maxHeartbeats 1000000 in
theorem ampfloor_any (p q : Int) (x1 : -1152921504606846976 ≤ p) (x2 : p ≤ 1152921504606846976) (y1 : -1152921504606846976 ≤ q) (y2 : q ≤ 1152921504606846976) (w : World) : Calls Try.prog 146 #[.int .i64 p, .int .i64 q] w fun e w' => e = .returned (.int .i64 (flr p q)) ∧ Below w.heap.size w w' := by
  have cr := amproot_any (p.natAbs : Int) (by omega) (by omega)
  rw [rt2_abs] at cr
  have hr1 := rt2_le p
  have hr0 := (rt2_spec p).1
  have hf : flr p q = if 0 < p then q + rt2 p else if p < 0 then q - rt2 p - 1 else q := rfl
  obtain ⟨r, hr⟩ : ∃ r, rt2 p = r := ⟨_, rfl⟩
  rw [hr] at cr hr0 hr1 hf
  replace cr := Lib.hid cr
  replace hf := Lib.hid hf
  clear hr
  go_enter Try.func146, Try.ntmps146
  refine wk_start ?_
  refine wk_seq ?_
  refine wk_region [0] rfl (by kernel_rfl) ?_
  simp only [List.zip_cons_cons, List.zip_nil_right]
  refine rg_assign ?_
  simp only [Act.put, Act.eval, qn, qv, Nat.reduceAdd]
  refine rg_nil ?_
  refine ek_next ?_
  refine wk_seq ?_
  refine wk_region [0, 1, 1, 0, 0] rfl (by kernel_rfl) ?_
  simp only [List.zip_cons_cons, List.zip_nil_right]
  refine rg_move ?_
  simp only [Act.put, Act.eval, qn, qv, Nat.reduceAdd]
  apply rg_pure (by rfl) (by kernel_rfl)
  case hargs => (simp only [qm, qs, Act.eval]; exact rfl)
  case h => exact fun w hw => ampsize_any p (by omega) (by omega) w
  case hz => exact (fun _ h => by cases h)
  simp only [Act.put, Act.eval, qn, qv, Nat.reduceAdd]
  apply rg_pure (by rfl) (by kernel_rfl)
  case hargs => (simp only [qm, qs, Act.eval]; exact rfl)
  case h => exact fun w hw => cr.out w
  case hz => exact (fun _ h => by cases h)
  simp only [Act.put, Act.eval, qn, qv, Nat.reduceAdd]
  refine rf_conv rfl rfl rfl Try.underlying109 Try.underlying3 (wrap_ok (by omega) (by omega)) ?_
  simp only [Act.put, Act.eval, qn, qv, Nat.reduceAdd]
  refine rg_assign ?_
  simp only [Act.put, Act.eval, qn, qv, Nat.reduceAdd]
  refine rg_nil ?_
  refine ek_next ?_
  refine wk_seq ?_
  refine wk_block ?_
  refine wk_seq ?_
  refine wk_region [0, 0, 0] rfl (by kernel_rfl) ?_
  simp only [List.zip_cons_cons, List.zip_nil_right]
  refine rg_move ?_
  simp only [Act.put, Act.eval, qn, qv, Nat.reduceAdd]
  refine rfb_gtr rfl rfl rfl rfl ?_
  intro x h1
  cases x
  · (try simp only [decide_eq_true_eq, decide_eq_false_iff_not, Int.not_lt, Int.not_le, beq_iff_eq, beq_eq_false_iff_ne, bne_iff_ne, bne_eq_false_iff_eq, ne_eq, Bool.not_eq_true', Bool.not_eq_false'] at h1)
    simp only [Act.put, Act.eval, qn, qv, Nat.reduceAdd]
    refine rg_assign ?_
    simp only [Act.put, Act.eval, qn, qv, Nat.reduceAdd]
    refine rg_nil ?_
    refine ek_next ?_
    refine wk_cond_f rfl ?_
    refine wk_seq ?_
    refine wk_region [0, 0, 0] rfl (by kernel_rfl) ?_
    simp only [List.zip_cons_cons, List.zip_nil_right]
    refine rg_move ?_
    simp only [Act.put, Act.eval, qn, qv, Nat.reduceAdd]
    refine rfb_lss rfl rfl rfl rfl ?_
    intro x h2
    cases x
    · (try simp only [decide_eq_true_eq, decide_eq_false_iff_not, Int.not_lt, Int.not_le, beq_iff_eq, beq_eq_false_iff_ne, bne_iff_ne, bne_eq_false_iff_eq, ne_eq, Bool.not_eq_true', Bool.not_eq_false'] at h2)
      simp only [Act.put, Act.eval, qn, qv, Nat.reduceAdd]
      refine rg_assign ?_
      simp only [Act.put, Act.eval, qn, qv, Nat.reduceAdd]
      refine rg_nil ?_
      refine ek_next ?_
      refine wk_cond_f rfl ?_
      refine wk_skip ?_
      refine ek_block ?_
      refine ek_next ?_
      refine wk_seq ?_
      refine wk_region [0, 0] rfl (by kernel_rfl) ?_
      simp only [List.zip_cons_cons, List.zip_nil_right]
      refine rg_move ?_
      simp only [Act.put, Act.eval, qn, qv, Nat.reduceAdd]
      refine rg_assign ?_
      simp only [Act.put, Act.eval, qn, qv, Nat.reduceAdd]
      refine rg_nil ?_
      refine ek_next ?_
      refine wk_ret ?_
      refine ek_ret (fun w hw => ⟨rfl, _, res_t _ rfl, ?_⟩)
      (try simp only [Act.put, Act.eval, qn, qv, Nat.reduceAdd])
      exact ⟨by rw [hf.out]; congr 2; split <;> (try split) <;> omega, hw.below⟩
    · (try simp only [decide_eq_true_eq, decide_eq_false_iff_not, Int.not_lt, Int.not_le, beq_iff_eq, beq_eq_false_iff_ne, bne_iff_ne, bne_eq_false_iff_eq, ne_eq, Bool.not_eq_true', Bool.not_eq_false'] at h2)
      simp only [Act.put, Act.eval, qn, qv, Nat.reduceAdd]
      refine rg_assign ?_
      simp only [Act.put, Act.eval, qn, qv, Nat.reduceAdd]
      refine rg_nil ?_
      refine ek_next ?_
      refine wk_cond_t rfl ?_
      refine wk_seq ?_
      refine wk_region [0, 0, 0, 0, 0] rfl (by kernel_rfl) ?_
      simp only [List.zip_cons_cons, List.zip_nil_right]
      refine rg_move ?_
      simp only [Act.put, Act.eval, qn, qv, Nat.reduceAdd]
      refine rg_move ?_
      simp only [Act.put, Act.eval, qn, qv, Nat.reduceAdd]
      refine rf_sub rfl rfl rfl rfl (wrap_ok (by omega) (by omega)) ?_
      simp only [Act.put, Act.eval, qn, qv, Nat.reduceAdd]
      refine rf_sub rfl rfl rfl rfl (wrap_ok (by omega) (by omega)) ?_
      simp only [Act.put, Act.eval, qn, qv, Nat.reduceAdd]
      refine rg_assign ?_
      simp only [Act.put, Act.eval, qn, qv, Nat.reduceAdd]
      refine rg_nil ?_
      refine ek_next ?_
      refine wk_ret ?_
      refine ek_block_ret ?_
      refine ek_then_ret ?_
      refine ek_ret (fun w hw => ⟨rfl, _, res_t _ rfl, ?_⟩)
      (try simp only [Act.put, Act.eval, qn, qv, Nat.reduceAdd])
      exact ⟨by rw [hf.out]; congr 2; split <;> (try split) <;> omega, hw.below⟩
  · (try simp only [decide_eq_true_eq, decide_eq_false_iff_not, Int.not_lt, Int.not_le, beq_iff_eq, beq_eq_false_iff_ne, bne_iff_ne, bne_eq_false_iff_eq, ne_eq, Bool.not_eq_true', Bool.not_eq_false'] at h1)
    simp only [Act.put, Act.eval, qn, qv, Nat.reduceAdd]
    refine rg_assign ?_
    simp only [Act.put, Act.eval, qn, qv, Nat.reduceAdd]
    refine rg_nil ?_
    refine ek_next ?_
    refine wk_cond_t rfl ?_
    refine wk_seq ?_
    refine wk_region [0, 0, 0, 0] rfl (by kernel_rfl) ?_
    simp only [List.zip_cons_cons, List.zip_nil_right]
    refine rg_move ?_
    simp only [Act.put, Act.eval, qn, qv, Nat.reduceAdd]
    refine rg_move ?_
    simp only [Act.put, Act.eval, qn, qv, Nat.reduceAdd]
    refine rf_add rfl rfl rfl rfl (wrap_ok (by omega) (by omega)) ?_
    simp only [Act.put, Act.eval, qn, qv, Nat.reduceAdd]
    refine rg_assign ?_
    simp only [Act.put, Act.eval, qn, qv, Nat.reduceAdd]
    refine rg_nil ?_
    refine ek_next ?_
    refine wk_ret ?_
    refine ek_block_ret ?_
    refine ek_then_ret ?_
    refine ek_ret (fun w hw => ⟨rfl, _, res_t _ rfl, ?_⟩)
    (try simp only [Act.put, Act.eval, qn, qv, Nat.reduceAdd])
    exact ⟨by rw [hf.out]; congr 2; split <;> (try split) <;> omega, hw.below⟩

set_option maxRecDepth 100000 in
set_option maxHeartbeats 1000000 in
theorem amplow_any (p q k : Int) (k0 : 0 ≤ k) (k1 : k ≤ 40) (x1 : -1000000000 ≤ p) (x2 : p ≤ 1000000000) (y1 : -2000000000 ≤ q) (y2 : q ≤ 2000000000) (w : World) :
    Calls Try.prog 141 #[.int .i64 p, .int .i64 q, .int .i64 k, .int .i64 30] w fun e w' => e = .returned (.int .i64 (lowP p q k)) ∧ Below w.heap.size w w' := by
  obtain ⟨c, hc⟩ : ∃ c : Nat, (59 - k) / 2 = c := ⟨((59 - k) / 2).toNat, by omega⟩
  obtain ⟨m, hm⟩ : ∃ x : Int, 2 ^ c = x := ⟨_, rfl⟩
  have hm12 := pow29 (c := c) (by omega)
  rw [hm] at hm12
  obtain ⟨m1, m2⟩ := hm12
  have HA : bits .and .i64 (60 - k - 1) 1 = (60 - k - 1) % 2 := and_mask (60 - k - 1) 1 (by decide)
  rcases (by omega : (59 - k) % 2 = 1 ∨ (59 - k) % 2 = 0) with ho | ho
  · have hl : lowP p q k = flr (q * m) (2 * p * m) := by
      unfold lowP; rw [show (59 - k).toNat = 2 * c + 1 by omega, tw_odd, hm]
    replace hl := Lib.hid hl
    replace hm := Lib.hid hm
    replace HA := Lib.hid (HA.trans (show (60 - k - 1) % 2 = 1 by omega))
    go_enter Try.func141, Try.ntmps141
    refine wk_start ?_
    refine wk_seq ?_
    refine wk_region [0] rfl (by kernel_rfl) ?_
    simp only [List.zip_cons_cons, List.zip_nil_right]
    refine rg_assign ?_
    simp only [Act.put, Act.eval, qn, qv, Nat.reduceAdd]
    refine rg_nil ?_
    refine ek_next ?_
    refine wk_seq ?_
    refine wk_region [0, 0, 0, 0, 0, 0] rfl (by kernel_rfl) ?_
    simp only [List.zip_cons_cons, List.zip_nil_right]
    refine rg_move ?_
    simp only [Act.put, Act.eval, qn, qv, Nat.reduceAdd]
    refine rf_mul (r := 60) rfl rfl rfl rfl (by decide) ?_
    simp only [Act.put, Act.eval, qn, qv, Nat.reduceAdd]
    refine rg_move ?_
    simp only [Act.put, Act.eval, qn, qv, Nat.reduceAdd]
    refine rf_sub rfl rfl rfl rfl (wrap_ok (by omega) (by omega)) ?_
    simp only [Act.put, Act.eval, qn, qv, Nat.reduceAdd]
    refine rf_sub rfl rfl rfl rfl (wrap_ok (by omega) (by omega)) ?_
    simp only [Act.put, Act.eval, qn, qv, Nat.reduceAdd]
    refine rg_assign ?_
    simp only [Act.put, Act.eval, qn, qv, Nat.reduceAdd]
    refine rg_nil ?_
    refine ek_next ?_
    refine wk_seq ?_
    refine wk_seq ?_
    refine wk_region [0, 0, 0] rfl (by kernel_rfl) ?_
    simp only [List.zip_cons_cons, List.zip_nil_right]
    refine rg_move ?_
    simp only [Act.put, Act.eval, qn, qv, Nat.reduceAdd]
    refine rf_and (r := 1) rfl rfl rfl rfl (HA.out) ?_
    simp only [Act.put, Act.eval, qn, qv, Nat.reduceAdd]
    refine rfb_neq rfl rfl rfl rfl ?_
    intro x h1
    obtain rfl : x = true := by (refine h1.symm.trans ?_; exact decide_eq_true (by omega))
    clear h1
    simp only [Act.put, Act.eval, qn, qv, Nat.reduceAdd]
    refine rg_nil ?_
    refine ek_next ?_
    refine wk_cond_t rfl ?_
    refine wk_seq ?_
    refine wk_region [0, 0, 0, 0, 0] rfl (by kernel_rfl) ?_
    simp only [List.zip_cons_cons, List.zip_nil_right]
    refine rg_move ?_
    simp only [Act.put, Act.eval, qn, qv, Nat.reduceAdd]
    refine rg_move ?_
    simp only [Act.put, Act.eval, qn, qv, Nat.reduceAdd]
    refine rf_mul rfl rfl rfl rfl (wrap_ok (by omega) (by omega)) ?_
    simp only [Act.put, Act.eval, qn, qv, Nat.reduceAdd]
    refine rg_assign ?_
    simp only [Act.put, Act.eval, qn, qv, Nat.reduceAdd]
    refine rg_assign ?_
    simp only [Act.put, Act.eval, qn, qv, Nat.reduceAdd]
    refine rg_nil ?_
    refine ek_next ?_
    refine wk_region [0, 0, 0] rfl (by kernel_rfl) ?_
    simp only [List.zip_cons_cons, List.zip_nil_right]
    refine rg_move ?_
    simp only [Act.put, Act.eval, qn, qv, Nat.reduceAdd]
    refine rf_sub rfl rfl rfl rfl (wrap_ok (by omega) (by omega)) ?_
    simp only [Act.put, Act.eval, qn, qv, Nat.reduceAdd]
    refine rg_assign ?_
    simp only [Act.put, Act.eval, qn, qv, Nat.reduceAdd]
    refine rg_nil ?_
    refine ek_next ?_
    refine wk_seq ?_
    refine wk_seq ?_
    refine wk_region [0, 0] rfl (by kernel_rfl) ?_
    simp only [List.zip_cons_cons, List.zip_nil_right]
    refine rg_move ?_
    simp only [Act.put, Act.eval, qn, qv, Nat.reduceAdd]
    refine rfb_geq rfl rfl rfl rfl ?_
    intro x h2
    obtain rfl : x = true := by (refine h2.symm.trans ?_; exact decide_eq_true (by omega))
    clear h2
    simp only [Act.put, Act.eval, qn, qv, Nat.reduceAdd]
    refine rg_nil ?_
    refine ek_next ?_
    refine wk_cond_t rfl ?_
    refine wk_seq ?_
    refine wk_draws _ _ [(0, 0), (1, 0), (2, 0), (3, 0), (4, 0), (5, 0), (6, 0), (7, 0), (8, 1), (9, 0)] [] (by kernel_rfl) (by kernel_rfl) (fun c d v a w h => by cases d <;> exact h) (sn) (fun e => by first | exact absurd e (by decide) | rfl) ?_
    simp only [List.map_cons, List.map_nil, List.getD_cons_zero, List.getD_cons_succ]
    refine rg_move ?_
    simp only [Act.put, Act.eval, qn, qv, Nat.reduceAdd]
    refine rg_move ?_
    simp only [Act.put, Act.eval, qn, qv, Nat.reduceAdd]
    refine rf_quo (r := (c : Int)) rfl rfl rfl rfl (by decide) ((quo_ok (by omega) (by omega) (by omega)).trans (by omega)) ?_
    simp only [Act.put, Act.eval, qn, qv, Nat.reduceAdd]
    refine rf_shlV (c := c) (q := m) rfl rfl rfl rfl rfl (by show c ≤ 64; omega) hm.out (r := q * m) (by have := mulb (x := q) (m := m) (by omega) (by omega) m1 m2; exact wrap_ok (by omega) (by omega)) ?_
    simp only [Act.put, Act.eval, qn, qv, Nat.reduceAdd]
    refine rg_move ?_
    simp only [Act.put, Act.eval, qn, qv, Nat.reduceAdd]
    refine rg_move ?_
    simp only [Act.put, Act.eval, qn, qv, Nat.reduceAdd]
    refine rf_quo (r := (c : Int)) rfl rfl rfl rfl (by decide) ((quo_ok (by omega) (by omega) (by omega)).trans (by omega)) ?_
    simp only [Act.put, Act.eval, qn, qv, Nat.reduceAdd]
    refine rf_shlV (c := c) (q := m) rfl rfl rfl rfl rfl (by show c ≤ 64; omega) hm.out (r := 2 * p * m) (by have := mulb (x := 2 * p) (m := m) (by omega) (by omega) m1 m2; exact wrap_ok (by omega) (by omega)) ?_
    simp only [Act.put, Act.eval, qn, qv, Nat.reduceAdd]
    apply rg_pure (by rfl) (by kernel_rfl)
    case hargs => (simp only [qm, qs, Act.eval]; exact rfl)
    case h => exact fun w hw => ampfloor_any _ _ (mulb (by omega) (by omega) m1 m2).1 (mulb (by omega) (by omega) m1 m2).2 (mulb (by omega) (by omega) m1 m2).1 (mulb (by omega) (by omega) m1 m2).2 w
    case hz => exact (fun _ h => by cases h; exact sn)
    simp only [Act.put, Act.eval, qn, qv, Nat.reduceAdd]
    refine rg_assign ?_
    simp only [Act.put, Act.eval, qn, qv, Nat.reduceAdd]
    refine rg_nil ?_
    refine ek_next ?_
    refine wk_ret ?_
    refine ek_then_ret ?_
    refine ek_ret (fun w hw => ⟨rfl, _, res_t _ rfl, ?_⟩)
    (try simp only [Act.put, Act.eval, qn, qv, Nat.reduceAdd])
    exact ⟨by rw [hl.out], hw.below⟩
  · have hl : lowP p q k = flr (p * m) (q * m) := by
      unfold lowP; rw [show (59 - k).toNat = 2 * c by omega, tw_even, hm]
    replace hl := Lib.hid hl
    replace hm := Lib.hid hm
    replace HA := Lib.hid (HA.trans (show (60 - k - 1) % 2 = 0 by omega))
    go_enter Try.func141, Try.ntmps141
    refine wk_start ?_
    refine wk_seq ?_
    refine wk_region [0] rfl (by kernel_rfl) ?_
    simp only [List.zip_cons_cons, List.zip_nil_right]
    refine rg_assign ?_
    simp only [Act.put, Act.eval, qn, qv, Nat.reduceAdd]
    refine rg_nil ?_
    refine ek_next ?_
    refine wk_seq ?_
    refine wk_region [0, 0, 0, 0, 0, 0] rfl (by kernel_rfl) ?_
    simp only [List.zip_cons_cons, List.zip_nil_right]
    refine rg_move ?_
    simp only [Act.put, Act.eval, qn, qv, Nat.reduceAdd]
    refine rf_mul (r := 60) rfl rfl rfl rfl (by decide) ?_
    simp only [Act.put, Act.eval, qn, qv, Nat.reduceAdd]
    refine rg_move ?_
    simp only [Act.put, Act.eval, qn, qv, Nat.reduceAdd]
    refine rf_sub rfl rfl rfl rfl (wrap_ok (by omega) (by omega)) ?_
    simp only [Act.put, Act.eval, qn, qv, Nat.reduceAdd]
    refine rf_sub rfl rfl rfl rfl (wrap_ok (by omega) (by omega)) ?_
    simp only [Act.put, Act.eval, qn, qv, Nat.reduceAdd]
    refine rg_assign ?_
    simp only [Act.put, Act.eval, qn, qv, Nat.reduceAdd]
    refine rg_nil ?_
    refine ek_next ?_
    refine wk_seq ?_
    refine wk_seq ?_
    refine wk_region [0, 0, 0] rfl (by kernel_rfl) ?_
    simp only [List.zip_cons_cons, List.zip_nil_right]
    refine rg_move ?_
    simp only [Act.put, Act.eval, qn, qv, Nat.reduceAdd]
    refine rf_and (r := 0) rfl rfl rfl rfl (HA.out) ?_
    simp only [Act.put, Act.eval, qn, qv, Nat.reduceAdd]
    refine rfb_neq rfl rfl rfl rfl ?_
    intro x h1
    obtain rfl : x = false := by (refine h1.symm.trans ?_; exact decide_eq_false (by omega))
    clear h1
    simp only [Act.put, Act.eval, qn, qv, Nat.reduceAdd]
    refine rg_nil ?_
    refine ek_next ?_
    refine wk_cond_f rfl ?_
    refine wk_skip ?_
    refine ek_next ?_
    refine wk_seq ?_
    refine wk_seq ?_
    refine wk_region [0, 0] rfl (by kernel_rfl) ?_
    simp only [List.zip_cons_cons, List.zip_nil_right]
    refine rg_move ?_
    simp only [Act.put, Act.eval, qn, qv, Nat.reduceAdd]
    refine rfb_geq rfl rfl rfl rfl ?_
    intro x h2
    obtain rfl : x = true := by (refine h2.symm.trans ?_; exact decide_eq_true (by omega))
    clear h2
    simp only [Act.put, Act.eval, qn, qv, Nat.reduceAdd]
    refine rg_nil ?_
    refine ek_next ?_
    refine wk_cond_t rfl ?_
    refine wk_seq ?_
    refine wk_draws _ _ [(0, 0), (1, 0), (2, 0), (3, 0), (4, 0), (5, 0), (6, 0), (7, 0), (8, 1), (9, 0)] [] (by kernel_rfl) (by kernel_rfl) (fun c d v a w h => by cases d <;> exact h) (sn) (fun e => by first | exact absurd e (by decide) | rfl) ?_
    simp only [List.map_cons, List.map_nil, List.getD_cons_zero, List.getD_cons_succ]
    refine rg_move ?_
    simp only [Act.put, Act.eval, qn, qv, Nat.reduceAdd]
    refine rg_move ?_
    simp only [Act.put, Act.eval, qn, qv, Nat.reduceAdd]
    refine rf_quo (r := (c : Int)) rfl rfl rfl rfl (by decide) ((quo_ok (by omega) (by omega) (by omega)).trans (by omega)) ?_
    simp only [Act.put, Act.eval, qn, qv, Nat.reduceAdd]
    refine rf_shlV (c := c) (q := m) rfl rfl rfl rfl rfl (by show c ≤ 64; omega) hm.out (r := p * m) (by have := mulb (x := p) (m := m) (by omega) (by omega) m1 m2; exact wrap_ok (by omega) (by omega)) ?_
    simp only [Act.put, Act.eval, qn, qv, Nat.reduceAdd]
    refine rg_move ?_
    simp only [Act.put, Act.eval, qn, qv, Nat.reduceAdd]
    refine rg_move ?_
    simp only [Act.put, Act.eval, qn, qv, Nat.reduceAdd]
    refine rf_quo (r := (c : Int)) rfl rfl rfl rfl (by decide) ((quo_ok (by omega) (by omega) (by omega)).trans (by omega)) ?_
    simp only [Act.put, Act.eval, qn, qv, Nat.reduceAdd]
    refine rf_shlV (c := c) (q := m) rfl rfl rfl rfl rfl (by show c ≤ 64; omega) hm.out (r := q * m) (by have := mulb (x := q) (m := m) (by omega) (by omega) m1 m2; exact wrap_ok (by omega) (by omega)) ?_
    simp only [Act.put, Act.eval, qn, qv, Nat.reduceAdd]
    apply rg_pure (by rfl) (by kernel_rfl)
    case hargs => (simp only [qm, qs, Act.eval]; exact rfl)
    case h => exact fun w hw => ampfloor_any _ _ (mulb (by omega) (by omega) m1 m2).1 (mulb (by omega) (by omega) m1 m2).2 (mulb (by omega) (by omega) m1 m2).1 (mulb (by omega) (by omega) m1 m2).2 w
    case hz => exact (fun _ h => by cases h; exact sn)
    simp only [Act.put, Act.eval, qn, qv, Nat.reduceAdd]
    refine rg_assign ?_
    simp only [Act.put, Act.eval, qn, qv, Nat.reduceAdd]
    refine rg_nil ?_
    refine ek_next ?_
    refine wk_ret ?_
    refine ek_then_ret ?_
    refine ek_ret (fun w hw => ⟨rfl, _, res_t _ rfl, ?_⟩)
    (try simp only [Act.put, Act.eval, qn, qv, Nat.reduceAdd])
    exact ⟨by rw [hl.out], hw.below⟩

set_option maxRecDepth 100000 in
set_option maxHeartbeats 1000000 in
theorem ampspan_any (p q k : Int) (k0 : 0 ≤ k) (k1 : k ≤ 40) (x1 : -1000000000 ≤ p) (x2 : p ≤ 1000000000) (y1 : -2000000000 ≤ q) (y2 : q ≤ 2000000000) (w : World) : Calls Try.prog 129 #[.int .i64 p, .int .i64 q, .int .i64 k, .int .i64 30] w fun e w' => e = .returned (spV (spanP p q k)) ∧ Below w.heap.size w w' := by
  have hlf := lowP_fit k0 k1 x1 x2 y1 y2
  have hlg := lowP_fit (p := -p) (q := -q) k0 k1 (by omega) (by omega) (by omega) (by omega)
  go_enter Try.func129, Try.ntmps129
  refine wk_start ?_
  refine wk_seq ?_
  refine wk_region [1] rfl (by kernel_rfl) ?_
  simp only [List.zip_cons_cons, List.zip_nil_right]
  refine rg_new (cs := ?_) (ty := ?_) (by rfl) (fun w => ?_) (fun _ h => by cases h) (fun g1 => ?_); rotate_left 2
  focus (go_simp; rfl)
  simp only [Act.put, Act.eval, qn, qv, Nat.reduceAdd]
  refine rg_nil ?_
  refine ek_next ?_
  refine wk_seq ?_
  refine wk_region [0, 0, 0, 0, 1, 0, 0, 0, 0, 0, 0, 1, 0, 0, 1] rfl (by kernel_rfl) ?_
  simp only [List.zip_cons_cons, List.zip_nil_right]
  refine rg_move ?_
  simp only [Act.put, Act.eval, qn, qv, Nat.reduceAdd]
  refine rg_move ?_
  simp only [Act.put, Act.eval, qn, qv, Nat.reduceAdd]
  refine rg_move ?_
  simp only [Act.put, Act.eval, qn, qv, Nat.reduceAdd]
  refine rg_move ?_
  simp only [Act.put, Act.eval, qn, qv, Nat.reduceAdd]
  apply rg_pure (by rfl) (by kernel_rfl)
  case hargs => (simp only [qm, qs, Act.eval]; exact rfl)
  case h => exact fun w hw => amplow_any p q k k0 k1 x1 x2 y1 y2 w
  case hz => exact (fun _ h => by cases h)
  simp only [Act.put, Act.eval, qn, qv, Nat.reduceAdd]
  refine rg_move ?_
  simp only [Act.put, Act.eval, qn, qv, Nat.reduceAdd]
  refine rf_neg rfl rfl rfl (wrap_ok (by omega) (by omega)) ?_
  simp only [Act.put, Act.eval, qn, qv, Nat.reduceAdd]
  refine rg_move ?_
  simp only [Act.put, Act.eval, qn, qv, Nat.reduceAdd]
  refine rf_neg rfl rfl rfl (wrap_ok (by omega) (by omega)) ?_
  simp only [Act.put, Act.eval, qn, qv, Nat.reduceAdd]
  refine rg_move ?_
  simp only [Act.put, Act.eval, qn, qv, Nat.reduceAdd]
  refine rg_move ?_
  simp only [Act.put, Act.eval, qn, qv, Nat.reduceAdd]
  apply rg_pure (by rfl) (by kernel_rfl)
  case hargs => (simp only [qm, qs, Act.eval]; exact rfl)
  case h => exact fun w hw => amplow_any (-p) (-q) k k0 k1 (by omega) (by omega) (by omega) (by omega) w
  case hz => exact (fun _ h => by cases h)
  simp only [Act.put, Act.eval, qn, qv, Nat.reduceAdd]
  refine rf_neg rfl rfl rfl (wrap_ok (by omega) (by omega)) ?_
  simp only [Act.put, Act.eval, qn, qv, Nat.reduceAdd]
  refine rf_build (cs := fun a => #[a.eval (.tmp 13), a.eval (.tmp 21)]) rfl rfl (by kernel_rfl) ?_
  simp only [Act.put, Act.eval, qn, qv, Nat.reduceAdd]
  refine rf_storeR (n := 2) rfl rfl (by kernel_rfl) rfl rfl (UpdR.here _ _ _ (Nat.le_of_ble_eq_true rfl)) (fun _ h => by cases h) ?_
  simp only [Act.put, Act.eval, qn, qv, Nat.reduceAdd]
  refine rg_nil ?_
  refine ek_next ?_
  refine wk_ret ?_
  refine ek_ret (fun w hw => ⟨rfl, _, run_results1 rfl rfl (Kn.hd0 hw) Try.underlying23 rfl (by kernel_rfl), ?_⟩)
  (try simp only [Act.put, Act.eval, qn, qv, Nat.reduceAdd])
  exact ⟨by rw [spanP_eq], hw.below⟩

set_option maxRecDepth 100000 in
set_option maxHeartbeats 1000000 in
theorem ampBounds_ok (z : Nm) (hz : z.Ok) (w : World) : Calls Try.prog 98 #[nmV z, .int .i64 30] w fun e w' => e = .returned (.tuple #[spV (boundR z).re, spV (boundR z).im, .int .i64 0]) ∧ Below w.heap.size w w' := by
  obtain ⟨fa0, fa1, fb0, fb1, fc0, fc1, fd0, fd1⟩ := hz.fit
  go_enter Try.func98, Try.ntmps98
  refine wk_start ?_
  refine wk_seq ?_
  refine wk_region [1, 1, 1, 0] rfl (by kernel_rfl) ?_
  simp only [List.zip_cons_cons, List.zip_nil_right]
  refine rg_new (cs := ?_) (ty := ?_) (by rfl) (fun w => ?_) (fun _ h => by cases h) (fun g1 => ?_); rotate_left 2
  focus (go_simp; rfl)
  simp only [Act.put, Act.eval, qn, qv, Nat.reduceAdd]
  refine rg_new (cs := ?_) (ty := ?_) (by rfl) (fun w => ?_) (fun _ h => by cases h) (fun g2 => ?_); rotate_left 2
  focus (go_simp; rfl)
  simp only [Act.put, Act.eval, qn, qv, Nat.reduceAdd]
  refine rg_new (cs := ?_) (ty := ?_) (by rfl) (fun w => ?_) (fun _ h => by cases h) (fun g3 => ?_); rotate_left 2
  focus (go_simp; rfl)
  simp only [Act.put, Act.eval, qn, qv, Nat.reduceAdd]
  refine rg_assign ?_
  simp only [Act.put, Act.eval, qn, qv, Nat.reduceAdd]
  refine rg_nil ?_
  refine ek_next ?_
  refine wk_seq ?_
  refine wk_block ?_
  refine wk_seq ?_
  refine wk_region [0, 1, 0, 0] rfl (by kernel_rfl) ?_
  simp only [List.zip_cons_cons, List.zip_nil_right]
  refine rf_loadR (n := 5) rfl rfl rfl Try.underlying69 rfl (by kernel_rfl) (fun w hw => Kn.hd0 (Kn.tl (Kn.tl hw))) rfl rfl ?_
  simp only [Act.put, Act.eval, qn, qv, Nat.reduceAdd]
  apply rg_pure (by rfl) (by kernel_rfl)
  case hargs => (simp only [qm, qs, Act.eval]; exact rfl)
  case h => exact fun w hw => by have := amvalid_any z w; rw [okB_yes hz] at this; exact this
  case hz => exact (fun _ h => by cases h)
  simp only [Act.put, Act.eval, qn, qv, Nat.reduceAdd]
  refine rf_not rfl rfl rfl ?_
  simp only [Act.put, Act.eval, qn, qv, Nat.reduceAdd]
  refine rg_assign ?_
  simp only [Act.put, Act.eval, qn, qv, Nat.reduceAdd]
  refine rg_nil ?_
  refine ek_next ?_
  refine wk_cond_f rfl ?_
  refine wk_seq ?_
  refine wk_region [0, 0, 0, 0, 0, 0, 0] rfl (by kernel_rfl) ?_
  simp only [List.zip_cons_cons, List.zip_nil_right]
  refine rg_move ?_
  simp only [Act.put, Act.eval, qn, qv, Nat.reduceAdd]
  refine rfb_lss rfl rfl rfl rfl ?_
  intro x h1
  obtain rfl : x = false := by (refine h1.symm.trans ?_; exact decide_eq_false (by omega))
  clear h1
  simp only [Act.put, Act.eval, qn, qv, Nat.reduceAdd]
  refine rg_move ?_
  simp only [Act.put, Act.eval, qn, qv, Nat.reduceAdd]
  apply rg_soft_g
  case hg => rfl
  case hy => (intro w hw; go_simp; (try go_bits); exact Yld.mk _ _)
  simp only [Act.put, Act.eval, qn, qv, Nat.reduceAdd]
  refine rfb_gtr rfl rfl rfl rfl ?_
  intro x h2
  obtain rfl : x = false := by (refine h2.symm.trans ?_; exact decide_eq_false (by omega))
  clear h2
  simp only [Act.put, Act.eval, qn, qv, Nat.reduceAdd]
  refine rf_pick rfl rfl rfl ?_
  simp only [Act.put, Act.eval, qn, qv, Nat.reduceAdd]
  refine rg_assign ?_
  simp only [Act.put, Act.eval, qn, qv, Nat.reduceAdd]
  refine rg_nil ?_
  refine ek_next ?_
  refine wk_cond_f rfl ?_
  refine wk_skip ?_
  refine ek_block ?_
  refine ek_next ?_
  refine wk_seq ?_
  refine wk_draws_m (hz1 := (sk _ (sk _ (sc _ sn)))) [(0, 0), (1, 0), (2, 0), (3, 0), (4, 0), (5, 0), (6, 0), (7, 0), (8, 0), (9, 0), (10, 0), (11, 0), (12, 0), (14, 3), (15, 3), (16, 3), (17, 3), (18, 3), (19, 3), (20, 3), (21, 3), (22, 3), (23, 3), (24, 3), (25, 3), (26, 3), (13, 1), (27, 1), (28, 2), (29, 1), (30, 0)] 28 (by kernel_rfl) (by kernel_rfl) (fun c d v a w h => by cases d <;> exact h) ?_
  simp only [List.map_cons, List.map_nil, List.getD_cons_zero, List.getD_cons_succ]
  refine rf_field (n := 3) (j := 0) rfl rfl rfl Try.underlying69 rfl (by kernel_rfl) rfl ?_
  simp only [Act.put, Act.eval, qn, qv, Nat.reduceAdd]
  refine rf_indexA (n := 0) (sz := 1) (j := 0) rfl rfl rfl rfl Try.underlying67 (by kernel_rfl) (by decide) rfl ?_
  simp only [Act.put, Act.eval, qn, qv, Nat.reduceAdd]
  refine rf_load rfl rfl rfl Try.underlying3 rfl (fun w hw => (Kn.hd0 (Kn.tl (Kn.tl hw))).at rfl) ?_
  simp only [Act.put, Act.eval, qn, qv, Nat.reduceAdd]
  refine rf_field (n := 3) (j := 0) rfl rfl rfl Try.underlying69 rfl (by kernel_rfl) rfl ?_
  simp only [Act.put, Act.eval, qn, qv, Nat.reduceAdd]
  refine rf_indexA (n := 1) (sz := 1) (j := 1) rfl rfl rfl rfl Try.underlying67 (by kernel_rfl) (by decide) rfl ?_
  simp only [Act.put, Act.eval, qn, qv, Nat.reduceAdd]
  refine rf_load rfl rfl rfl Try.underlying3 rfl (fun w hw => (Kn.hd0 (Kn.tl (Kn.tl hw))).at rfl) ?_
  simp only [Act.put, Act.eval, qn, qv, Nat.reduceAdd]
  refine rf_field (n := 3) (j := 0) rfl rfl rfl Try.underlying69 rfl (by kernel_rfl) rfl ?_
  simp only [Act.put, Act.eval, qn, qv, Nat.reduceAdd]
  refine rf_indexA (n := 3) (sz := 1) (j := 3) rfl rfl rfl rfl Try.underlying67 (by kernel_rfl) (by decide) rfl ?_
  simp only [Act.put, Act.eval, qn, qv, Nat.reduceAdd]
  refine rf_load rfl rfl rfl Try.underlying3 rfl (fun w hw => (Kn.hd0 (Kn.tl (Kn.tl hw))).at rfl) ?_
  simp only [Act.put, Act.eval, qn, qv, Nat.reduceAdd]
  refine rf_sub rfl rfl rfl rfl (wrap_ok (by omega) (by omega)) ?_
  simp only [Act.put, Act.eval, qn, qv, Nat.reduceAdd]
  refine rf_field (n := 0) (j := 4) rfl rfl rfl Try.underlying69 rfl (by kernel_rfl) rfl ?_
  simp only [Act.put, Act.eval, qn, qv, Nat.reduceAdd]
  refine rf_load rfl rfl rfl Try.underlying3 rfl (fun w hw => (Kn.hd0 (Kn.tl (Kn.tl hw))).at rfl) ?_
  simp only [Act.put, Act.eval, qn, qv, Nat.reduceAdd]
  refine rg_move ?_
  simp only [Act.put, Act.eval, qn, qv, Nat.reduceAdd]
  refine rf_field (n := 3) (j := 0) rfl rfl rfl Try.underlying69 rfl (by kernel_rfl) rfl ?_
  simp only [Act.put, Act.eval, qn, qv, Nat.reduceAdd]
  refine rf_indexA (n := 2) (sz := 1) (j := 2) rfl rfl rfl rfl Try.underlying67 (by kernel_rfl) (by decide) rfl ?_
  simp only [Act.put, Act.eval, qn, qv, Nat.reduceAdd]
  refine rf_load rfl rfl rfl Try.underlying3 rfl (fun w hw => (Kn.hd0 hw).at rfl) ?_
  simp only [Act.put, Act.eval, qn, qv, Nat.reduceAdd]
  refine rf_field (n := 3) (j := 0) rfl rfl rfl Try.underlying69 rfl (by kernel_rfl) rfl ?_
  simp only [Act.put, Act.eval, qn, qv, Nat.reduceAdd]
  refine rf_indexA (n := 1) (sz := 1) (j := 1) rfl rfl rfl rfl Try.underlying67 (by kernel_rfl) (by decide) rfl ?_
  simp only [Act.put, Act.eval, qn, qv, Nat.reduceAdd]
  refine rf_load rfl rfl rfl Try.underlying3 rfl (fun w hw => (Kn.hd0 hw).at rfl) ?_
  simp only [Act.put, Act.eval, qn, qv, Nat.reduceAdd]
  refine rf_field (n := 3) (j := 0) rfl rfl rfl Try.underlying69 rfl (by kernel_rfl) rfl ?_
  simp only [Act.put, Act.eval, qn, qv, Nat.reduceAdd]
  refine rf_indexA (n := 3) (sz := 1) (j := 3) rfl rfl rfl rfl Try.underlying67 (by kernel_rfl) (by decide) rfl ?_
  simp only [Act.put, Act.eval, qn, qv, Nat.reduceAdd]
  refine rf_load rfl rfl rfl Try.underlying3 rfl (fun w hw => (Kn.hd0 hw).at rfl) ?_
  simp only [Act.put, Act.eval, qn, qv, Nat.reduceAdd]
  refine rf_add rfl rfl rfl rfl (wrap_ok (by omega) (by omega)) ?_
  simp only [Act.put, Act.eval, qn, qv, Nat.reduceAdd]
  refine rf_field (n := 0) (j := 4) rfl rfl rfl Try.underlying69 rfl (by kernel_rfl) rfl ?_
  simp only [Act.put, Act.eval, qn, qv, Nat.reduceAdd]
  refine rf_load rfl rfl rfl Try.underlying3 rfl (fun w hw => (Kn.hd0 hw).at rfl) ?_
  simp only [Act.put, Act.eval, qn, qv, Nat.reduceAdd]
  refine rg_moveP ?_
  simp only [Act.put, Act.eval, qn, qv, Nat.reduceAdd]
  apply rg_pure (by rfl) (by kernel_rfl)
  case hargs => (simp only [qm, qs, Act.eval]; exact rfl)
  case h => exact fun w hw => ampspan_any z.a (z.b - z.d) z.k hz.k0 hz.k1 fa0 fa1 (by omega) (by omega) w
  case hz => exact (fun _ h => by cases h; exact (sc _ (sc _ (sc _ sn))))
  simp only [Act.put, Act.eval, qn, qv, Nat.reduceAdd]
  apply rg_pure (by rfl) (by kernel_rfl)
  case hargs => (simp only [qm, qs, Act.eval]; exact rfl)
  case h => exact fun w hw => ampspan_any z.c (z.b + z.d) z.k hz.k0 hz.k1 fc0 fc1 (by omega) (by omega) w
  case hz => exact (fun _ h => by cases h; exact (sc _ (sc _ (sc _ sn))))
  simp only [Act.put, Act.eval, qn, qv, Nat.reduceAdd]
  refine rf_storeRM (n := 2) rfl rfl (by kernel_rfl) rfl rfl (UpdR.there _ (UpdR.here _ _ _ (Nat.le_of_ble_eq_true rfl))) (sk _ (sk _ (sc _ sn))) ?_
  simp only [Act.put, Act.eval, qn, qv, Nat.reduceAdd]
  refine rf_storeR (n := 2) rfl rfl (by kernel_rfl) rfl rfl (UpdR.here _ _ _ (Nat.le_of_ble_eq_true rfl)) (fun _ h => by cases h; exact (sk _ (sk _ (sc _ sn)))) ?_
  simp only [Act.put, Act.eval, qn, qv, Nat.reduceAdd]
  refine rg_assign ?_
  simp only [Act.put, Act.eval, qn, qv, Nat.reduceAdd]
  refine rg_nil ?_
  refine ek_next ?_
  refine wk_ret ?_
  refine ek_ret (fun w hw => ⟨rfl, _, run_results_cc rfl rfl (Kn.hd0 (Kn.tl hw)) Try.underlying23 rfl (by kernel_rfl) rfl (Kn.hd0 hw) Try.underlying23 rfl (by kernel_rfl), ?_⟩)
  (try simp only [Act.put, Act.eval, qn, qv, Nat.reduceAdd])
  first | exact ⟨rfl, hw.below⟩ | exact ⟨trivial, hw.below⟩ | exact hw.below

set_option maxRecDepth 100000 in
set_option maxHeartbeats 1000000 in
theorem ampBounds_no (z : Nm) (hz : z.okB = false) (w : World) : Calls Try.prog 98 #[nmV z, .int .i64 30] w fun e w' => e = .returned (.tuple #[spV ⟨0, 0⟩, spV ⟨0, 0⟩, .int .i64 10]) ∧ Below w.heap.size w w' := by
  go_enter Try.func98, Try.ntmps98
  refine wk_start ?_
  refine wk_seq ?_
  refine wk_region [1, 1, 1, 0] rfl (by kernel_rfl) ?_
  simp only [List.zip_cons_cons, List.zip_nil_right]
  refine rg_new (cs := ?_) (ty := ?_) (by rfl) (fun w => ?_) (fun _ h => by cases h) (fun g1 => ?_); rotate_left 2
  focus (go_simp; rfl)
  simp only [Act.put, Act.eval, qn, qv, Nat.reduceAdd]
  refine rg_new (cs := ?_) (ty := ?_) (by rfl) (fun w => ?_) (fun _ h => by cases h) (fun g2 => ?_); rotate_left 2
  focus (go_simp; rfl)
  simp only [Act.put, Act.eval, qn, qv, Nat.reduceAdd]
  refine rg_new (cs := ?_) (ty := ?_) (by rfl) (fun w => ?_) (fun _ h => by cases h) (fun g3 => ?_); rotate_left 2
  focus (go_simp; rfl)
  simp only [Act.put, Act.eval, qn, qv, Nat.reduceAdd]
  refine rg_assign ?_
  simp only [Act.put, Act.eval, qn, qv, Nat.reduceAdd]
  refine rg_nil ?_
  refine ek_next ?_
  refine wk_seq ?_
  refine wk_block ?_
  refine wk_seq ?_
  refine wk_region [0, 1, 0, 0] rfl (by kernel_rfl) ?_
  simp only [List.zip_cons_cons, List.zip_nil_right]
  refine rf_loadR (n := 5) rfl rfl rfl Try.underlying69 rfl (by kernel_rfl) (fun w hw => Kn.hd0 (Kn.tl (Kn.tl hw))) rfl rfl ?_
  simp only [Act.put, Act.eval, qn, qv, Nat.reduceAdd]
  apply rg_pure (by rfl) (by kernel_rfl)
  case hargs => (simp only [qm, qs, Act.eval]; exact rfl)
  case h => exact fun w hw => by have := amvalid_any z w; rw [hz] at this; exact this
  case hz => exact (fun _ h => by cases h)
  simp only [Act.put, Act.eval, qn, qv, Nat.reduceAdd]
  refine rf_not rfl rfl rfl ?_
  simp only [Act.put, Act.eval, qn, qv, Nat.reduceAdd]
  refine rg_assign ?_
  simp only [Act.put, Act.eval, qn, qv, Nat.reduceAdd]
  refine rg_nil ?_
  refine ek_next ?_
  refine wk_cond_t rfl ?_
  refine wk_seq ?_
  refine wk_region [0, 0, 1, 1, 0] rfl (by kernel_rfl) ?_
  simp only [List.zip_cons_cons, List.zip_nil_right]
  refine rf_build (cs := fun a => #[.int .i64 0, .int .i64 0]) rfl rfl (by kernel_rfl) ?_
  simp only [Act.put, Act.eval, qn, qv, Nat.reduceAdd]
  refine rf_build (cs := fun a => #[.int .i64 0, .int .i64 0]) rfl rfl (by kernel_rfl) ?_
  simp only [Act.put, Act.eval, qn, qv, Nat.reduceAdd]
  refine rf_storeR (n := 2) rfl rfl (by kernel_rfl) rfl rfl (UpdR.there _ (UpdR.here _ _ _ (Nat.le_of_ble_eq_true rfl))) (fun _ h => by cases h) ?_
  simp only [Act.put, Act.eval, qn, qv, Nat.reduceAdd]
  refine rf_storeR (n := 2) rfl rfl (by kernel_rfl) rfl rfl (UpdR.here _ _ _ (Nat.le_of_ble_eq_true rfl)) (fun _ h => by cases h) ?_
  simp only [Act.put, Act.eval, qn, qv, Nat.reduceAdd]
  refine rg_assign ?_
  simp only [Act.put, Act.eval, qn, qv, Nat.reduceAdd]
  refine rg_nil ?_
  refine ek_next ?_
  refine wk_ret ?_
  refine ek_block_ret ?_
  refine ek_then_ret ?_
  refine ek_ret (fun w hw => ⟨rfl, _, run_results_cc rfl rfl (Kn.hd0 (Kn.tl hw)) Try.underlying23 rfl (by kernel_rfl) rfl (Kn.hd0 hw) Try.underlying23 rfl (by kernel_rfl), ?_⟩)
  (try simp only [Act.put, Act.eval, qn, qv, Nat.reduceAdd])
  first | exact ⟨rfl, hw.below⟩ | exact ⟨trivial, hw.below⟩ | exact hw.below

set_option maxRecDepth 100000 in
set_option maxHeartbeats 1000000 in
theorem enclose_FromNum_ok (z : Nm) (hz : z.Ok) (w : World) : Calls Try.prog 55 #[nmV z] w fun e w' => e = .returned (.tuple #[rcV (fromR z).1, .int .i64 (fromR z).2]) ∧ Below w.heap.size w w' := by
  have cb := ampBounds_ok z hz
  have hr : fromR z = if (boundR z).ok then (boundR z, 0) else (⟨⟨0, 0⟩, ⟨0, 0⟩⟩, 4) := if_pos (okB_yes hz)
  obtain ⟨x, hx⟩ : ∃ x, boundR z = x := ⟨_, rfl⟩
  rw [hx] at cb hr
  replace cb := Lib.hid cb
  replace hr := Lib.hid hr
  clear hx
  obtain ⟨⟨a, b⟩, ⟨c, d⟩⟩ := x
  obtain ⟨u, hu⟩ : ∃ u, En.okS a b = u := ⟨_, rfl⟩
  obtain ⟨v, hv⟩ : ∃ v, En.okS c d = v := ⟨_, rfl⟩
  have cu := valid_any a b
  have cv := valid_any c d
  rw [hu] at cu
  rw [hv] at cv
  replace hu := Lib.hid hu
  replace hv := Lib.hid hv
  replace cu := Lib.hid cu
  replace cv := Lib.hid cv
  go_enter Try.func55, Try.ntmps55
  refine wk_start ?_
  refine wk_seq ?_
  refine wk_region [1, 1, 0] rfl (by kernel_rfl) ?_
  simp only [List.zip_cons_cons, List.zip_nil_right]
  refine rg_new (cs := ?_) (ty := ?_) (by rfl) (fun w => ?_) (fun _ h => by cases h) (fun g1 => ?_); rotate_left 2
  focus (go_simp; rfl)
  simp only [Act.put, Act.eval, qn, qv, Nat.reduceAdd]
  refine rg_new (cs := ?_) (ty := ?_) (by rfl) (fun w => ?_) (fun _ h => by cases h) (fun g2 => ?_); rotate_left 2
  focus (go_simp; rfl)
  simp only [Act.put, Act.eval, qn, qv, Nat.reduceAdd]
  refine rg_assign ?_
  simp only [Act.put, Act.eval, qn, qv, Nat.reduceAdd]
  refine rg_nil ?_
  refine ek_next ?_
  refine wk_seq ?_
  refine wk_region [0, 1, 0, 0, 0, 0, 1, 1, 1, 1, 0] rfl (by kernel_rfl) ?_
  simp only [List.zip_cons_cons, List.zip_nil_right]
  refine rf_loadR (n := 5) rfl rfl rfl Try.underlying69 rfl (by kernel_rfl) (fun w hw => Kn.hd0 (Kn.tl hw)) rfl rfl ?_
  simp only [Act.put, Act.eval, qn, qv, Nat.reduceAdd]
  apply rg_pure (by rfl) (by kernel_rfl)
  case hargs => (simp only [qm, qs, Act.eval]; exact rfl)
  case h => exact fun w hw => cb.out w
  case hz => exact (fun _ h => by cases h)
  simp only [Act.put, Act.eval, qn, qv, Nat.reduceAdd]
  refine rg_move ?_
  simp only [Act.put, Act.eval, qn, qv, Nat.reduceAdd]
  refine rf_extract rfl rfl rfl rfl ?_
  simp only [Act.put, Act.eval, qn, qv, Nat.reduceAdd]
  refine rf_extract rfl rfl rfl rfl ?_
  simp only [Act.put, Act.eval, qn, qv, Nat.reduceAdd]
  refine rf_extract rfl rfl rfl rfl ?_
  simp only [Act.put, Act.eval, qn, qv, Nat.reduceAdd]
  refine rg_new (cs := ?_) (ty := ?_) (by rfl) (fun w => ?_) (fun _ h => by cases h) (fun g3 => ?_); rotate_left 2
  focus (go_simp; rfl)
  simp only [Act.put, Act.eval, qn, qv, Nat.reduceAdd]
  refine rg_new (cs := ?_) (ty := ?_) (by rfl) (fun w => ?_) (fun _ h => by cases h) (fun g4 => ?_); rotate_left 2
  focus (go_simp; rfl)
  simp only [Act.put, Act.eval, qn, qv, Nat.reduceAdd]
  refine rf_storeR (n := 2) rfl rfl (by kernel_rfl) rfl rfl (UpdR.there _ (UpdR.here _ _ _ (Nat.le_of_ble_eq_true rfl))) (fun _ h => by cases h) ?_
  simp only [Act.put, Act.eval, qn, qv, Nat.reduceAdd]
  refine rf_storeR (n := 2) rfl rfl (by kernel_rfl) rfl rfl (UpdR.here _ _ _ (Nat.le_of_ble_eq_true rfl)) (fun _ h => by cases h) ?_
  simp only [Act.put, Act.eval, qn, qv, Nat.reduceAdd]
  refine rg_assign ?_
  simp only [Act.put, Act.eval, qn, qv, Nat.reduceAdd]
  refine rg_nil ?_
  refine ek_next ?_
  refine wk_seq ?_
  refine wk_block ?_
  refine wk_seq ?_
  refine wk_region [0, 0, 0] rfl (by kernel_rfl) ?_
  simp only [List.zip_cons_cons, List.zip_nil_right]
  refine rg_move ?_
  simp only [Act.put, Act.eval, qn, qv, Nat.reduceAdd]
  refine rf_neq (b := false) rfl rfl rfl rfl (by decide) ?_
  simp only [Act.put, Act.eval, qn, qv, Nat.reduceAdd]
  refine rg_assign ?_
  simp only [Act.put, Act.eval, qn, qv, Nat.reduceAdd]
  refine rg_nil ?_
  refine ek_next ?_
  refine wk_cond_f rfl ?_
  refine wk_seq ?_
  refine wk_region [0, 1, 0, 0, 0, 1, 0, 0, 0] rfl (by kernel_rfl) ?_
  simp only [List.zip_cons_cons, List.zip_nil_right]
  refine rf_loadR (n := 2) rfl rfl rfl Try.underlying23 rfl (by kernel_rfl) (fun w hw => Kn.hd0 (Kn.tl hw)) rfl rfl ?_
  simp only [Act.put, Act.eval, qn, qv, Nat.reduceAdd]
  apply rg_pureb (by rfl) (by kernel_rfl)
  case hargs => (simp only [qm, qs, Act.eval]; exact rfl)
  case h => exact fun w hw => cu.out w
  case hz => exact (fun _ h => by cases h)
  intro x h1
  cases x
  · (try simp only [decide_eq_true_eq, decide_eq_false_iff_not, Int.not_lt, Int.not_le, beq_iff_eq, beq_eq_false_iff_ne, bne_iff_ne, bne_eq_false_iff_eq, ne_eq, Bool.not_eq_true', Bool.not_eq_false'] at h1)
    simp only [Act.put, Act.eval, qn, qv, Nat.reduceAdd]
    refine rf_not rfl rfl rfl ?_
    simp only [Act.put, Act.eval, qn, qv, Nat.reduceAdd]
    refine rg_move ?_
    simp only [Act.put, Act.eval, qn, qv, Nat.reduceAdd]
    refine rg_skip (by rfl) ?_
    simp only [Act.put, Act.eval, qn, qv, Nat.reduceAdd]
    refine rg_skip_h (by rfl) (fun _ h => by cases h) ?_
    simp only [Act.put, Act.eval, qn, qv, Nat.reduceAdd]
    refine rg_skip (by rfl) ?_
    simp only [Act.put, Act.eval, qn, qv, Nat.reduceAdd]
    refine rf_pick rfl rfl rfl ?_
    simp only [Act.put, Act.eval, qn, qv, Nat.reduceAdd]
    refine rg_assign ?_
    simp only [Act.put, Act.eval, qn, qv, Nat.reduceAdd]
    refine rg_nil ?_
    refine ek_next ?_
    refine wk_cond_t rfl ?_
    refine wk_seq ?_
    refine wk_region [0, 1, 0] rfl (by kernel_rfl) ?_
    simp only [List.zip_cons_cons, List.zip_nil_right]
    refine rf_build (cs := fun a => #[.int .i64 0, .int .i64 0, .int .i64 0, .int .i64 0]) rfl rfl (by kernel_rfl) ?_
    simp only [Act.put, Act.eval, qn, qv, Nat.reduceAdd]
    refine rf_storeR (n := 4) rfl rfl (by kernel_rfl) rfl rfl (UpdR.there _ (UpdR.there _ (UpdR.here _ _ _ (Nat.le_of_ble_eq_true rfl)))) (fun _ h => by cases h) ?_
    simp only [Act.put, Act.eval, qn, qv, Nat.reduceAdd]
    refine rg_assign ?_
    simp only [Act.put, Act.eval, qn, qv, Nat.reduceAdd]
    refine rg_nil ?_
    refine ek_next ?_
    refine wk_ret ?_
    refine ek_block_ret ?_
    refine ek_then_ret ?_
    refine ek_ret (fun w hw => ⟨rfl, _, run_results2 rfl rfl (Kn.hd0 (Kn.tl (Kn.tl hw))) Try.underlying25 rfl (by kernel_rfl), ?_⟩)
    (try simp only [Act.put, Act.eval, qn, qv, Nat.reduceAdd])
    have ht : (⟨⟨a, b⟩, ⟨c, d⟩⟩ : En.Rc).ok = (u && v) := by show (En.okS a b && En.okS c d) = _; rw [hu.out, hv.out]
    exact ⟨by rw [hr.out, ht]; simp [*], hw.below⟩
  · (try simp only [decide_eq_true_eq, decide_eq_false_iff_not, Int.not_lt, Int.not_le, beq_iff_eq, beq_eq_false_iff_ne, bne_iff_ne, bne_eq_false_iff_eq, ne_eq, Bool.not_eq_true', Bool.not_eq_false'] at h1)
    simp only [Act.put, Act.eval, qn, qv, Nat.reduceAdd]
    refine rf_not rfl rfl rfl ?_
    simp only [Act.put, Act.eval, qn, qv, Nat.reduceAdd]
    refine rg_move ?_
    simp only [Act.put, Act.eval, qn, qv, Nat.reduceAdd]
    refine rf_loadR (n := 2) rfl rfl rfl Try.underlying23 rfl (by kernel_rfl) (fun w hw => Kn.hd0 hw) rfl rfl ?_
    simp only [Act.put, Act.eval, qn, qv, Nat.reduceAdd]
    apply rg_pureb (by rfl) (by kernel_rfl)
    case hargs => (simp only [qm, qs, Act.eval]; exact rfl)
    case h => exact fun w hw => cv.out w
    case hz => exact (fun _ h => by cases h)
    intro x h2
    cases x
    · (try simp only [decide_eq_true_eq, decide_eq_false_iff_not, Int.not_lt, Int.not_le, beq_iff_eq, beq_eq_false_iff_ne, bne_iff_ne, bne_eq_false_iff_eq, ne_eq, Bool.not_eq_true', Bool.not_eq_false'] at h2)
      simp only [Act.put, Act.eval, qn, qv, Nat.reduceAdd]
      refine rf_not rfl rfl rfl ?_
      simp only [Act.put, Act.eval, qn, qv, Nat.reduceAdd]
      refine rf_pick rfl rfl rfl ?_
      simp only [Act.put, Act.eval, qn, qv, Nat.reduceAdd]
      refine rg_assign ?_
      simp only [Act.put, Act.eval, qn, qv, Nat.reduceAdd]
      refine rg_nil ?_
      refine ek_next ?_
      refine wk_cond_t rfl ?_
      refine wk_seq ?_
      refine wk_region [0, 1, 0] rfl (by kernel_rfl) ?_
      simp only [List.zip_cons_cons, List.zip_nil_right]
      refine rf_build (cs := fun a => #[.int .i64 0, .int .i64 0, .int .i64 0, .int .i64 0]) rfl rfl (by kernel_rfl) ?_
      simp only [Act.put, Act.eval, qn, qv, Nat.reduceAdd]
      refine rf_storeR (n := 4) rfl rfl (by kernel_rfl) rfl rfl (UpdR.there _ (UpdR.there _ (UpdR.here _ _ _ (Nat.le_of_ble_eq_true rfl)))) (fun _ h => by cases h) ?_
      simp only [Act.put, Act.eval, qn, qv, Nat.reduceAdd]
      refine rg_assign ?_
      simp only [Act.put, Act.eval, qn, qv, Nat.reduceAdd]
      refine rg_nil ?_
      refine ek_next ?_
      refine wk_ret ?_
      refine ek_block_ret ?_
      refine ek_then_ret ?_
      refine ek_ret (fun w hw => ⟨rfl, _, run_results2 rfl rfl (Kn.hd0 (Kn.tl (Kn.tl hw))) Try.underlying25 rfl (by kernel_rfl), ?_⟩)
      (try simp only [Act.put, Act.eval, qn, qv, Nat.reduceAdd])
      have ht : (⟨⟨a, b⟩, ⟨c, d⟩⟩ : En.Rc).ok = (u && v) := by show (En.okS a b && En.okS c d) = _; rw [hu.out, hv.out]
      exact ⟨by rw [hr.out, ht]; simp [*], hw.below⟩
    · (try simp only [decide_eq_true_eq, decide_eq_false_iff_not, Int.not_lt, Int.not_le, beq_iff_eq, beq_eq_false_iff_ne, bne_iff_ne, bne_eq_false_iff_eq, ne_eq, Bool.not_eq_true', Bool.not_eq_false'] at h2)
      simp only [Act.put, Act.eval, qn, qv, Nat.reduceAdd]
      refine rf_not rfl rfl rfl ?_
      simp only [Act.put, Act.eval, qn, qv, Nat.reduceAdd]
      refine rf_pick rfl rfl rfl ?_
      simp only [Act.put, Act.eval, qn, qv, Nat.reduceAdd]
      refine rg_assign ?_
      simp only [Act.put, Act.eval, qn, qv, Nat.reduceAdd]
      refine rg_nil ?_
      refine ek_next ?_
      refine wk_cond_f rfl ?_
      refine wk_skip ?_
      refine ek_block ?_
      refine ek_next ?_
      refine wk_seq ?_
      refine wk_region [0, 0, 0, 1, 0] rfl (by kernel_rfl) ?_
      simp only [List.zip_cons_cons, List.zip_nil_right]
      refine rf_loadR (n := 2) rfl rfl rfl Try.underlying23 rfl (by kernel_rfl) (fun w hw => Kn.hd0 (Kn.tl hw)) rfl rfl ?_
      simp only [Act.put, Act.eval, qn, qv, Nat.reduceAdd]
      refine rf_loadR (n := 2) rfl rfl rfl Try.underlying23 rfl (by kernel_rfl) (fun w hw => Kn.hd0 hw) rfl rfl ?_
      simp only [Act.put, Act.eval, qn, qv, Nat.reduceAdd]
      refine rf_build (cs := fun a => #[cellAt (a.eval (.tmp 28)) 0, cellAt (a.eval (.tmp 28)) 1, cellAt (a.eval (.tmp 29)) 0, cellAt (a.eval (.tmp 29)) 1]) rfl rfl (by kernel_rfl) ?_
      simp only [Act.put, Act.eval, qn, qv, Nat.reduceAdd]
      refine rf_storeR (n := 4) rfl rfl (by kernel_rfl) rfl rfl (UpdR.there _ (UpdR.there _ (UpdR.here _ _ _ (Nat.le_of_ble_eq_true rfl)))) (fun _ h => by cases h) ?_
      simp only [Act.put, Act.eval, qn, qv, Nat.reduceAdd]
      refine rg_assign ?_
      simp only [Act.put, Act.eval, qn, qv, Nat.reduceAdd]
      refine rg_nil ?_
      refine ek_next ?_
      refine wk_ret ?_
      refine ek_ret (fun w hw => ⟨rfl, _, run_results2 rfl rfl (Kn.hd0 (Kn.tl (Kn.tl hw))) Try.underlying25 rfl (by kernel_rfl), ?_⟩)
      (try simp only [Act.put, Act.eval, qn, qv, Nat.reduceAdd])
      have ht : (⟨⟨a, b⟩, ⟨c, d⟩⟩ : En.Rc).ok = (u && v) := by show (En.okS a b && En.okS c d) = _; rw [hu.out, hv.out]
      exact ⟨by rw [hr.out, ht]; simp [*], hw.below⟩

set_option maxRecDepth 100000 in
set_option maxHeartbeats 1000000 in
theorem enclose_FromNum_no (z : Nm) (hz : z.okB = false) (w : World) : Calls Try.prog 55 #[nmV z] w fun e w' => e = .returned (.tuple #[rcV (fromR z).1, .int .i64 (fromR z).2]) ∧ Below w.heap.size w w' := by
  have hr : fromR z = (⟨⟨0, 0⟩, ⟨0, 0⟩⟩, 10) := if_neg (by rw [hz]; decide)
  replace hr := Lib.hid hr
  go_enter Try.func55, Try.ntmps55
  refine wk_start ?_
  refine wk_seq ?_
  refine wk_region [1, 1, 0] rfl (by kernel_rfl) ?_
  simp only [List.zip_cons_cons, List.zip_nil_right]
  refine rg_new (cs := ?_) (ty := ?_) (by rfl) (fun w => ?_) (fun _ h => by cases h) (fun g1 => ?_); rotate_left 2
  focus (go_simp; rfl)
  simp only [Act.put, Act.eval, qn, qv, Nat.reduceAdd]
  refine rg_new (cs := ?_) (ty := ?_) (by rfl) (fun w => ?_) (fun _ h => by cases h) (fun g2 => ?_); rotate_left 2
  focus (go_simp; rfl)
  simp only [Act.put, Act.eval, qn, qv, Nat.reduceAdd]
  refine rg_assign ?_
  simp only [Act.put, Act.eval, qn, qv, Nat.reduceAdd]
  refine rg_nil ?_
  refine ek_next ?_
  refine wk_seq ?_
  refine wk_region [0, 1, 0, 0, 0, 0, 1, 1, 1, 1, 0] rfl (by kernel_rfl) ?_
  simp only [List.zip_cons_cons, List.zip_nil_right]
  refine rf_loadR (n := 5) rfl rfl rfl Try.underlying69 rfl (by kernel_rfl) (fun w hw => Kn.hd0 (Kn.tl hw)) rfl rfl ?_
  simp only [Act.put, Act.eval, qn, qv, Nat.reduceAdd]
  apply rg_pure (by rfl) (by kernel_rfl)
  case hargs => (simp only [qm, qs, Act.eval]; exact rfl)
  case h => exact fun w hw => ampBounds_no z hz w
  case hz => exact (fun _ h => by cases h)
  simp only [Act.put, Act.eval, qn, qv, Nat.reduceAdd]
  refine rg_move ?_
  simp only [Act.put, Act.eval, qn, qv, Nat.reduceAdd]
  refine rf_extract rfl rfl rfl rfl ?_
  simp only [Act.put, Act.eval, qn, qv, Nat.reduceAdd]
  refine rf_extract rfl rfl rfl rfl ?_
  simp only [Act.put, Act.eval, qn, qv, Nat.reduceAdd]
  refine rf_extract rfl rfl rfl rfl ?_
  simp only [Act.put, Act.eval, qn, qv, Nat.reduceAdd]
  refine rg_new (cs := ?_) (ty := ?_) (by rfl) (fun w => ?_) (fun _ h => by cases h) (fun g3 => ?_); rotate_left 2
  focus (go_simp; rfl)
  simp only [Act.put, Act.eval, qn, qv, Nat.reduceAdd]
  refine rg_new (cs := ?_) (ty := ?_) (by rfl) (fun w => ?_) (fun _ h => by cases h) (fun g4 => ?_); rotate_left 2
  focus (go_simp; rfl)
  simp only [Act.put, Act.eval, qn, qv, Nat.reduceAdd]
  refine rf_storeR (n := 2) rfl rfl (by kernel_rfl) rfl rfl (UpdR.there _ (UpdR.here _ _ _ (Nat.le_of_ble_eq_true rfl))) (fun _ h => by cases h) ?_
  simp only [Act.put, Act.eval, qn, qv, Nat.reduceAdd]
  refine rf_storeR (n := 2) rfl rfl (by kernel_rfl) rfl rfl (UpdR.here _ _ _ (Nat.le_of_ble_eq_true rfl)) (fun _ h => by cases h) ?_
  simp only [Act.put, Act.eval, qn, qv, Nat.reduceAdd]
  refine rg_assign ?_
  simp only [Act.put, Act.eval, qn, qv, Nat.reduceAdd]
  refine rg_nil ?_
  refine ek_next ?_
  refine wk_seq ?_
  refine wk_block ?_
  refine wk_seq ?_
  refine wk_region [0, 0, 0] rfl (by kernel_rfl) ?_
  simp only [List.zip_cons_cons, List.zip_nil_right]
  refine rg_move ?_
  simp only [Act.put, Act.eval, qn, qv, Nat.reduceAdd]
  refine rf_neq (b := true) rfl rfl rfl rfl (by decide) ?_
  simp only [Act.put, Act.eval, qn, qv, Nat.reduceAdd]
  refine rg_assign ?_
  simp only [Act.put, Act.eval, qn, qv, Nat.reduceAdd]
  refine rg_nil ?_
  refine ek_next ?_
  refine wk_cond_t rfl ?_
  refine wk_seq ?_
  refine wk_region [0, 0, 1, 0] rfl (by kernel_rfl) ?_
  simp only [List.zip_cons_cons, List.zip_nil_right]
  refine rf_build (cs := fun a => #[.int .i64 0, .int .i64 0, .int .i64 0, .int .i64 0]) rfl rfl (by kernel_rfl) ?_
  simp only [Act.put, Act.eval, qn, qv, Nat.reduceAdd]
  refine rg_move ?_
  simp only [Act.put, Act.eval, qn, qv, Nat.reduceAdd]
  refine rf_storeR (n := 4) rfl rfl (by kernel_rfl) rfl rfl (UpdR.there _ (UpdR.there _ (UpdR.here _ _ _ (Nat.le_of_ble_eq_true rfl)))) (fun _ h => by cases h) ?_
  simp only [Act.put, Act.eval, qn, qv, Nat.reduceAdd]
  refine rg_assign ?_
  simp only [Act.put, Act.eval, qn, qv, Nat.reduceAdd]
  refine rg_nil ?_
  refine ek_next ?_
  refine wk_ret ?_
  refine ek_block_ret ?_
  refine ek_then_ret ?_
  refine ek_ret (fun w hw => ⟨rfl, _, run_results2 rfl rfl (Kn.hd0 (Kn.tl (Kn.tl hw))) Try.underlying25 rfl (by kernel_rfl), ?_⟩)
  (try simp only [Act.put, Act.eval, qn, qv, Nat.reduceAdd])
  exact ⟨by rw [hr.out] <;> rfl, hw.below⟩

end Go.Proofs.Ytpbbbfglecbceaa
namespace Go.Proofs.Ytpbbbfglecbceaa
set_option linter.all false

theorem sp_00 : spanP 0 0 0 = ⟨0, 0⟩ := by
  unfold spanP lowP cel
  rw [show (59 - 0 : Int).toNat = 2 * 29 + 1 from rfl, tw_odd]
  simp [flr]
theorem sp_q (p : Int) : spanP p 0 0 = ⟨p * 1073741824, p * 1073741824⟩ := by
  unfold spanP lowP cel
  rw [show (59 - 0 : Int).toNat = 2 * 29 + 1 from rfl, tw_odd]
  simp only [flr, Int.zero_mul, Int.lt_irrefl, if_false, Int.neg_zero]
  congr 1 <;> omega
theorem rt29 : rt2 536870912 = 759250124 := rt2_unique (by decide) (by decide) (by decide)
theorem sp_1 : spanP 0 1 0 = ⟨759250124, 759250125⟩ := by
  unfold spanP lowP
  rw [cel_eq, show (59 - 0 : Int).toNat = 2 * 29 + 1 from rfl, tw_odd]
  have : flr (1 * 2 ^ 29) (2 * 0 * 2 ^ 29) = 759250124 := by
    show flr 536870912 0 = _
    unfold flr
    rw [if_pos (by decide), rt29]
    rfl
  rw [this]
  rfl
theorem sp_m : spanP 0 (-1) 0 = ⟨-759250125, -759250124⟩ := by
  unfold spanP lowP
  rw [cel_eq, show (59 - 0 : Int).toNat = 2 * 29 + 1 from rfl, tw_odd]
  have : flr (-1 * 2 ^ 29) (2 * 0 * 2 ^ 29) = -759250125 := by
    show flr (-536870912) 0 = _
    unfold flr
    rw [if_neg (by decide), if_pos (by decide), rt2_neg, rt29]
    rfl
  rw [this]
  rfl
def eighth : Nat → En.Rc
  | 0 => ⟨⟨1073741824, 1073741824⟩, ⟨0, 0⟩⟩
  | 1 => ⟨⟨759250124, 759250125⟩, ⟨759250124, 759250125⟩⟩
  | 2 => ⟨⟨0, 0⟩, ⟨1073741824, 1073741824⟩⟩
  | 3 => ⟨⟨-759250125, -759250124⟩, ⟨759250124, 759250125⟩⟩
  | 4 => ⟨⟨-1073741824, -1073741824⟩, ⟨0, 0⟩⟩
  | 5 => ⟨⟨-759250125, -759250124⟩, ⟨-759250125, -759250124⟩⟩
  | 6 => ⟨⟨0, 0⟩, ⟨-1073741824, -1073741824⟩⟩
  | _ => ⟨⟨759250124, 759250125⟩, ⟨-759250125, -759250124⟩⟩
theorem lt8 {k : Nat} (h : k < 8) : k = 0 ∨ k = 1 ∨ k = 2 ∨ k = 3 ∨ k = 4 ∨ k = 5 ∨ k = 6 ∨ k = 7 := by omega
theorem bound_turn {k : Nat} (h : k < 8) : boundR (Nm.turn k Nm.one) = eighth k := by
  rcases lt8 h with rfl | rfl | rfl | rfl | rfl | rfl | rfl | rfl
  · show (⟨spanP 1 0 0, spanP 0 0 0⟩ : En.Rc) = _; rw [sp_q, sp_00]; rfl
  · show (⟨spanP 0 1 0, spanP 0 1 0⟩ : En.Rc) = _; rw [sp_1]; rfl
  · show (⟨spanP 0 0 0, spanP 1 0 0⟩ : En.Rc) = _; rw [sp_00, sp_q]; rfl
  · show (⟨spanP 0 (-1) 0, spanP 0 1 0⟩ : En.Rc) = _; rw [sp_1, sp_m]; rfl
  · show (⟨spanP (-1) 0 0, spanP 0 0 0⟩ : En.Rc) = _; rw [sp_q, sp_00]; rfl
  · show (⟨spanP 0 (-1) 0, spanP 0 (-1) 0⟩ : En.Rc) = _; rw [sp_m]; rfl
  · show (⟨spanP 0 0 0, spanP (-1) 0 0⟩ : En.Rc) = _; rw [sp_00, sp_q]; rfl
  · show (⟨spanP 0 1 0, spanP 0 (-1) 0⟩ : En.Rc) = _; rw [sp_1, sp_m]; rfl
theorem from_turn {k : Nat} (h : k < 8) : fromR (Nm.turn k Nm.one) = (eighth k, 0) := by
  unfold fromR
  rw [if_pos (okB_iff.2 (turn_ok one_ok k)), bound_turn h, if_pos]
  rcases lt8 h with rfl | rfl | rfl | rfl | rfl | rfl | rfl | rfl <;> rfl
set_option maxRecDepth 100000 in
theorem eighth_in {k : Nat} (h : k < 8) : ∃ u, En.unitFrom (128 * k) 10 ⟨En.one, ⟨0, 0⟩⟩ = .ok u ∧ inB (eighth k) u = true := by
  have key : ∀ k, k < 8 → (match En.unitFrom (128 * k) 10 ⟨En.one, ⟨0, 0⟩⟩ with | .ok u => inB (eighth k) u | .error _ => false) = true := by
    intro k hk
    rcases lt8 hk with rfl | rfl | rfl | rfl | rfl | rfl | rfl | rfl <;> kernel_rfl
  have := key k h
  revert this
  generalize En.unitFrom (128 * k) 10 ⟨En.one, ⟨0, 0⟩⟩ = r
  cases r with
  | error c => intro h; cases h
  | ok u => exact fun h => ⟨u, rfl, h⟩
theorem unit_turn (n : Int) : ∃ u, En.unit (128 * n) = .ok u ∧ inB (eighth (n % 8).toNat) u = true := by
  have := eighth_in (k := (n % 8).toNat) (by omega)
  unfold En.unit
  rwa [show (128 * n % 1024).toNat = 128 * (n % 8).toNat by omega]
theorem unit_whole (n : Int) : En.unit (n + 1024) = En.unit n := by
  unfold En.unit
  rw [show (n + 1024) % 1024 = n % 1024 by omega]
/-- A point of the unit circle, and its power. -/
theorem unit_power (n : Int) : ∃ u s, En.unit n = .ok u ∧ u.ok = true ∧ En.power u = .ok s ∧ s.lo ≤ 1073741824 ∧ 1073741824 ≤ s.hi := by
  obtain ⟨u, hu, hg⟩ := En.unit_good n
  unfold En.goodUnit at hg
  rw [Bool.and_eq_true] at hg
  cases hp : En.power u with
  | error c => rw [hp] at hg; exact absurd hg.2 (by simp)
  | ok s =>
    rw [hp] at hg
    have h2 := hg.2
    simp only [Bool.and_eq_true, decide_eq_true_eq] at h2
    exact ⟨u, s, hu, En.unit_okR hu, hp, h2.1, h2.2⟩
end Go.Proofs.Ytpbbbfglecbceaa
