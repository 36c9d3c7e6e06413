/- The order of p r + q, where r is the root of 2: signs. -/
namespace Go.Proofs.Ytccbinnlnkpplaa
set_option linter.all false

theorem two_sq : ∀ (n : Nat) (x y : Int), y.natAbs ≤ n → x * x = 2 * (y * y) → y = 0
  | 0, x, y, h, _ => by omega
  | n + 1, x, y, h, e => by
    obtain ⟨z, hz⟩ : ∃ z, x = 2 * z ∨ x = 2 * z + 1 := ⟨x / 2, by omega⟩
    rcases hz with rfl | rfl
    · have e2 : y * y = 2 * (z * z) := by
        have : 2 * z * (2 * z) = 4 * (z * z) := by grind
        omega
      by_cases hlt : z.natAbs < y.natAbs
      · have hz := two_sq n y z (by omega) e2
        subst hz
        have : y * y = 0 := by omega
        rcases Int.mul_eq_zero.1 this with h | h <;> exact h
      · have h1 := Nat.mul_le_mul (show y.natAbs ≤ z.natAbs by omega) (show y.natAbs ≤ z.natAbs by omega)
        have h2 := @Int.natAbs_mul_self y
        have h3 := @Int.natAbs_mul_self z
        have h4 : y * y ≤ z * z := by rw [← h2, ← h3]; exact_mod_cast h1
        have h5 : 0 ≤ z * z := by rw [← h3]; exact_mod_cast Nat.zero_le _
        have : y * y = 0 := by omega
        rcases Int.mul_eq_zero.1 this with h | h <;> exact h
    · have : (2 * z + 1) * (2 * z + 1) = 4 * (z * z) + 4 * z + 1 := by grind
      omega
theorem irr {x y : Int} (h : x * x = 2 * (y * y)) : y = 0 := two_sq _ x y (Nat.le_refl _) h

theorem sqn (x : Int) : 0 ≤ x * x := by
  rcases Int.le_total 0 x with h | h
  · exact Int.mul_nonneg h h
  · have := Int.mul_nonneg (a := -x) (b := -x) (by omega) (by omega)
    have e : -x * -x = x * x := by grind
    omega
theorem sq_le {x y : Int} (hy : 0 ≤ y) (h : x * x ≤ y * y) : x ≤ y := by
  rcases Int.lt_or_le y x with h1 | h1
  · have := Int.mul_self_lt_mul_self hy h1
    omega
  · exact h1
theorem sq_lt {x y : Int} (hy : 0 ≤ y) (h : x * x < y * y) : x < y := by
  rcases Int.lt_or_le x y with h1 | h1
  · exact h1
  · have := Int.mul_self_le_mul_self hy h1
    omega
theorem sq_mono {x y : Int} (hx : 0 ≤ x) (h : x ≤ y) : x * x ≤ y * y := Int.mul_self_le_mul_self hx h
theorem sq_monoN {x y : Int} (hx : x ≤ 0) (h : y ≤ x) : x * x ≤ y * y := by
  have := Int.mul_self_le_mul_self (a := -x) (b := -y) (by omega) (by omega)
  have e : -x * -x = x * x := by grind
  have e2 : -y * -y = y * y := by grind
  omega

/-- 0 ≤ p r + m. -/
def NN (p m : Int) : Prop := (0 ≤ p ∧ 0 ≤ m) ∨ (0 ≤ p ∧ m < 0 ∧ m * m ≤ 2 * (p * p)) ∨ (p < 0 ∧ 0 ≤ m ∧ 2 * (p * p) ≤ m * m)

theorem NN.total (p m : Int) : NN p m ∨ NN (-p) (-m) := by
  have e1 : -p * -p = p * p := by grind
  have e2 : -m * -m = m * m := by grind
  unfold NN
  rw [e1, e2]
  have := sqn p
  have := sqn m
  rcases Int.lt_trichotomy p 0 with h | rfl | h <;> rcases Int.lt_trichotomy m 0 with h2 | rfl | h2 <;> omega
/-- a² ≤ 2 b², c² ≤ 2 d²: a c ≤ 2 b d. -/
theorem crossLe {a b c d : Int} (hb : 0 ≤ b) (hd : 0 ≤ d) (h1 : a * a ≤ 2 * (b * b)) (h2 : c * c ≤ 2 * (d * d)) : a * c ≤ 2 * (b * d) := by
  have hbd := Int.mul_nonneg hb hd
  refine sq_le (by omega) ?_
  have h3 := Int.mul_le_mul h1 h2 (sqn c) (by have := sqn b; omega)
  have e1 : a * c * (a * c) = a * a * (c * c) := by grind
  have e2 : 2 * (b * d) * (2 * (b * d)) = 2 * (b * b) * (2 * (d * d)) := by grind
  omega
/-- 2 b² ≤ a², 2 d² ≤ c²: 2 b d ≤ a c. -/
theorem crossGe {a b c d : Int} (ha : 0 ≤ a) (hc : 0 ≤ c) (h1 : 2 * (b * b) ≤ a * a) (h2 : 2 * (d * d) ≤ c * c) : 2 * (b * d) ≤ a * c := by
  have hac := Int.mul_nonneg ha hc
  refine sq_le (by omega) ?_
  have h3 := Int.mul_le_mul h1 h2 (by have := sqn d; omega) (sqn a)
  have e1 : a * c * (a * c) = a * a * (c * c) := by grind
  have e2 : 2 * (b * d) * (2 * (b * d)) = 2 * (b * b) * (2 * (d * d)) := by grind
  omega
theorem nn_case {p m : Int} (h1 : 0 ≤ p → m < 0 → m * m ≤ 2 * (p * p)) (h2 : p < 0 → 0 ≤ m → 2 * (p * p) ≤ m * m) (h3 : ¬ (p < 0 ∧ m < 0)) : NN p m := by
  unfold NN
  by_cases hp : 0 ≤ p <;> by_cases hm : 0 ≤ m
  · exact .inl ⟨hp, hm⟩
  · exact .inr (.inl ⟨hp, by omega, h1 hp (by omega)⟩)
  · exact .inr (.inr ⟨by omega, hm, h2 (by omega) hm⟩)
  · omega
theorem nn_mix {p m q n : Int} (h1 : 0 ≤ p) (h2 : m < 0) (h3 : m * m ≤ 2 * (p * p)) (k1 : q < 0) (k2 : 0 ≤ n) (k3 : 2 * (q * q) ≤ n * n) : NN (p + q) (m + n) := by
  refine nn_case (fun a b => ?_) (fun a b => ?_) fun ⟨a, b⟩ => ?_
  · rcases Int.lt_or_le (2 * ((p + q) * (p + q))) ((m + n) * (m + n)) with hc | hc
    · have := crossGe (a := -(m + n)) (b := p + q) (c := n) (d := -q) (by omega) k2 (by
        have e : -(m + n) * -(m + n) = (m + n) * (m + n) := by grind
        omega) (by
        have e : -q * -q = q * q := by grind
        omega)
      have e1 : (m + n) * (m + n) = m * m + 2 * (m * n) + n * n := by grind
      have e2 : (p + q) * (p + q) = p * p + 2 * (p * q) + q * q := by grind
      have e3 : (p + q) * -q = -(p * q) - q * q := by grind
      have e4 : -(m + n) * n = -(m * n) - n * n := by grind
      omega
    · exact hc
  · rcases Int.lt_or_le ((m + n) * (m + n)) (2 * ((p + q) * (p + q))) with hc | hc
    · have := crossLe (a := m + n) (b := -(p + q)) (c := -m) (d := p) (by omega) h1 (by
        have e : -(p + q) * -(p + q) = (p + q) * (p + q) := by grind
        omega) (by
        have e : -m * -m = m * m := by grind
        omega)
      have e1 : (m + n) * (m + n) = m * m + 2 * (m * n) + n * n := by grind
      have e2 : (p + q) * (p + q) = p * p + 2 * (p * q) + q * q := by grind
      have e3 : -(p + q) * p = -(p * q) - p * p := by grind
      have e4 : (m + n) * -m = -(m * n) - m * m := by grind
      omega
    · exact hc
  · have e1 := sq_mono h1 (show p ≤ -q by omega)
    have e2 := sq_mono k2 (show n ≤ -m by omega)
    have e3 := Int.mul_self_lt_mul_self k2 (show n < -m by omega)
    have e4 : -q * -q = q * q := by grind
    have e5 : -m * -m = m * m := by grind
    omega
theorem nn_up {p m q n : Int} (h1 : 0 ≤ p) (h2 : 0 ≤ m) (k : NN q n) : NN (p + q) (m + n) := by
  rcases k with ⟨k1, k2⟩ | ⟨k1, k2, k3⟩ | ⟨k1, k2, k3⟩
  · exact .inl ⟨by omega, by omega⟩
  · refine nn_case (fun a b => ?_) (fun a b => by omega) (by omega)
    have e1 := sq_mono k1 (show q ≤ p + q by omega)
    have e2 := sq_monoN (show m + n ≤ 0 by omega) (show n ≤ m + n by omega)
    omega
  · refine nn_case (fun a b => by omega) (fun a b => ?_) (by omega)
    have e1 := sq_mono k2 (show n ≤ m + n by omega)
    have e2 := sq_monoN (show p + q ≤ 0 by omega) (show q ≤ p + q by omega)
    omega
theorem NN.add {p m q n : Int} (h : NN p m) (k : NN q n) : NN (p + q) (m + n) := by
  rcases h with ⟨h1, h2⟩ | ⟨h1, h2, h3⟩ | ⟨h1, h2, h3⟩
  · exact nn_up h1 h2 k
  · rcases k with ⟨k1, k2⟩ | ⟨k1, k2, k3⟩ | ⟨k1, k2, k3⟩
    · rw [Int.add_comm p, Int.add_comm m]; exact nn_up k1 k2 (.inr (.inl ⟨h1, h2, h3⟩))
    · refine .inr (.inl ⟨by omega, by omega, ?_⟩)
      have := crossLe h1 k1 h3 k3
      have e1 : (m + n) * (m + n) = m * m + 2 * (m * n) + n * n := by grind
      have e2 : (p + q) * (p + q) = p * p + 2 * (p * q) + q * q := by grind
      omega
    · exact nn_mix h1 h2 h3 k1 k2 k3
  · rcases k with ⟨k1, k2⟩ | ⟨k1, k2, k3⟩ | ⟨k1, k2, k3⟩
    · rw [Int.add_comm p, Int.add_comm m]; exact nn_up k1 k2 (.inr (.inr ⟨h1, h2, h3⟩))
    · rw [Int.add_comm p, Int.add_comm m]; exact nn_mix k1 k2 k3 h1 h2 h3
    · refine .inr (.inr ⟨by omega, by omega, ?_⟩)
      have := crossGe h2 k2 h3 k3
      have e1 : (m + n) * (m + n) = m * m + 2 * (m * n) + n * n := by grind
      have e2 : (p + q) * (p + q) = p * p + 2 * (p * q) + q * q := by grind
      omega
theorem NN.smul {p m n : Int} (hn : 0 ≤ n) (h : NN p m) : NN (n * p) (n * m) := by
  have e1 : n * p * (n * p) = n * n * (p * p) := by grind
  have e2 : n * m * (n * m) = n * n * (m * m) := by grind
  rcases Int.lt_or_le 0 n with h0 | h0
  · have hnn := sqn n
    have e3 : n * n * (2 * (p * p)) = 2 * (n * n * (p * p)) := by grind
    unfold NN
    rw [e1, e2]
    rcases h with ⟨h1, h2⟩ | ⟨h1, h2, h3⟩ | ⟨h1, h2, h3⟩
    · exact .inl ⟨Int.mul_nonneg hn h1, Int.mul_nonneg hn h2⟩
    · have := Int.mul_le_mul_of_nonneg_left h3 hnn
      exact .inr (.inl ⟨Int.mul_nonneg hn h1, Int.mul_neg_of_pos_of_neg h0 h2, by omega⟩)
    · have := Int.mul_le_mul_of_nonneg_left h3 hnn
      exact .inr (.inr ⟨Int.mul_neg_of_pos_of_neg h0 h1, Int.mul_nonneg hn h2, by omega⟩)
  · obtain rfl : n = 0 := by omega
    simp [NN]
theorem NN.root {p m : Int} (h : NN p m) : NN m (2 * p) := by
  have e : 2 * p * (2 * p) = 4 * (p * p) := by grind
  unfold NN
  rw [e]
  rcases h with ⟨h1, h2⟩ | ⟨h1, h2, h3⟩ | ⟨h1, h2, h3⟩ <;> omega
theorem nn_pos {p m q n : Int} (h1 : 0 ≤ p) (h2 : 0 ≤ m) (k : NN q n) : NN (p * n + m * q) (2 * (p * q) + m * n) := by
  have := (k.root.smul h1).add (k.smul h2)
  have e : p * (2 * q) = 2 * (p * q) := by grind
  rwa [e] at this
theorem nn_norm (p m q n : Int) : (2 * (p * q) + m * n) * (2 * (p * q) + m * n) - 2 * ((p * n + m * q) * (p * n + m * q)) = (m * m - 2 * (p * p)) * (n * n - 2 * (q * q)) := by grind
theorem NN.mul {p m q n : Int} (h : NN p m) (k : NN q n) : NN (p * n + m * q) (2 * (p * q) + m * n) := by
  have hN := nn_norm p m q n
  have sw : NN (q * m + n * p) (2 * (q * p) + n * m) → NN (p * n + m * q) (2 * (p * q) + m * n) := fun h => by
    have e1 : q * m + n * p = p * n + m * q := by grind
    have e2 : 2 * (q * p) + n * m = 2 * (p * q) + m * n := by grind
    rwa [e1, e2] at h
  rcases h with ⟨h1, h2⟩ | ⟨h1, h2, h3⟩ | ⟨h1, h2, h3⟩
  · exact nn_pos h1 h2 k
  · rcases k with ⟨k1, k2⟩ | ⟨k1, k2, k3⟩ | ⟨k1, k2, k3⟩
    · exact sw (nn_pos k1 k2 (.inr (.inl ⟨h1, h2, h3⟩)))
    · have a1 := Int.mul_nonneg h1 k1
      have a2 := Int.mul_nonneg (a := -m) (b := -n) (by omega) (by omega)
      have a3 := Int.mul_nonneg h1 (b := -n) (by omega)
      have a4 := Int.mul_nonneg (a := -m) (b := q) (by omega) k1
      have a5 := Int.mul_nonneg (a := 2 * (p * p) - m * m) (b := 2 * (q * q) - n * n) (by omega) (by omega)
      have e2 : -m * -n = m * n := by grind
      have e3 : p * -n = -(p * n) := by grind
      have e4 : -m * q = -(m * q) := by grind
      have e5 : (2 * (p * p) - m * m) * (2 * (q * q) - n * n) = (m * m - 2 * (p * p)) * (n * n - 2 * (q * q)) := by grind
      exact nn_case (fun a b => by omega) (fun a b => by omega) (by omega)
    · have a1 := Int.mul_nonneg h1 k2
      have a2 := Int.mul_nonneg (a := -m) (b := -q) (by omega) (by omega)
      have a3 := Int.mul_nonneg h1 (b := -q) (by omega)
      have a4 := Int.mul_nonneg (a := -m) (b := n) (by omega) k2
      have a5 := Int.mul_nonneg (a := 2 * (p * p) - m * m) (b := n * n - 2 * (q * q)) (by omega) (by omega)
      have e2 : -m * -q = m * q := by grind
      have e3 : p * -q = -(p * q) := by grind
      have e4 : -m * n = -(m * n) := by grind
      have e5 : (2 * (p * p) - m * m) * (n * n - 2 * (q * q)) = -((m * m - 2 * (p * p)) * (n * n - 2 * (q * q))) := by grind
      exact nn_case (fun a b => by omega) (fun a b => by omega) (by omega)
  · rcases k with ⟨k1, k2⟩ | ⟨k1, k2, k3⟩ | ⟨k1, k2, k3⟩
    · exact sw (nn_pos k1 k2 (.inr (.inr ⟨h1, h2, h3⟩)))
    · have a1 := Int.mul_nonneg k1 h2
      have a2 := Int.mul_nonneg (a := -n) (b := -p) (by omega) (by omega)
      have a3 := Int.mul_nonneg k1 (b := -p) (by omega)
      have a4 := Int.mul_nonneg (a := -n) (b := m) (by omega) h2
      have a5 := Int.mul_nonneg (a := 2 * (q * q) - n * n) (b := m * m - 2 * (p * p)) (by omega) (by omega)
      have e1 : q * m = m * q := by grind
      have e2 : -n * -p = p * n := by grind
      have e3 : q * -p = -(p * q) := by grind
      have e4 : -n * m = -(m * n) := by grind
      have e5 : (2 * (q * q) - n * n) * (m * m - 2 * (p * p)) = -((m * m - 2 * (p * p)) * (n * n - 2 * (q * q))) := by grind
      exact nn_case (fun a b => by omega) (fun a b => by omega) (by omega)
    · have a1 := Int.mul_nonneg (a := -p) (b := -q) (by omega) (by omega)
      have a2 := Int.mul_nonneg h2 k2
      have a3 := Int.mul_nonneg (a := -p) (b := n) (by omega) k2
      have a4 := Int.mul_nonneg h2 (b := -q) (by omega)
      have a5 := Int.mul_nonneg (a := m * m - 2 * (p * p)) (b := n * n - 2 * (q * q)) (by omega) (by omega)
      have e1 : -p * -q = p * q := by grind
      have e3 : -p * n = -(p * n) := by grind
      have e4 : m * -q = -(m * q) := by grind
      exact nn_case (fun a b => by omega) (fun a b => by omega) (by omega)
theorem nn_int {m : Int} : NN 0 m ↔ 0 ≤ m := by
  refine ⟨fun h => ?_, fun h => .inl ⟨Int.le_refl _, h⟩⟩
  rcases h with ⟨_, h⟩ | ⟨_, h1, h2⟩ | ⟨h, _⟩
  · exact h
  · have := Int.mul_self_lt_mul_self (a := 0) (b := -m) (by omega) (by omega)
    have e : -m * -m = m * m := by grind
    rw [Int.mul_zero] at h2
    omega
  · omega
/-- n p r + n m with n > 0 is not negative just where p r + m is. -/
theorem NN.unsmul {p m n : Int} (hn : 0 < n) (h : NN (n * p) (n * m)) : NN p m := by
  rcases NN.total p m with hk | hk
  · exact hk
  · have e1 : n * p * (n * p) = n * n * (p * p) := by grind
    have e2 : n * m * (n * m) = n * n * (m * m) := by grind
    have hnn : 0 < n * n := Int.mul_pos hn hn
    have sg : ∀ x : Int, (0 ≤ n * x ↔ 0 ≤ x) := fun x => ⟨fun h => by
      rcases Int.lt_or_le x 0 with hx | hx
      · have := Int.mul_neg_of_pos_of_neg hn hx; omega
      · exact hx, fun h => Int.mul_nonneg (by omega) h⟩
    have sl : ∀ x y : Int, n * n * x ≤ 2 * (n * n * y) → x ≤ 2 * y := fun x y h => by
      rcases Int.lt_or_le (2 * y) x with hx | hx
      · have := Int.mul_lt_mul_of_pos_left hx hnn
        have e : n * n * (2 * y) = 2 * (n * n * y) := by grind
        omega
      · exact hx
    have sl' : ∀ x y : Int, 2 * (n * n * x) ≤ n * n * y → 2 * x ≤ y := fun x y h => by
      rcases Int.lt_or_le y (2 * x) with hx | hx
      · have := Int.mul_lt_mul_of_pos_left hx hnn
        have e : n * n * (2 * x) = 2 * (n * n * x) := by grind
        omega
      · exact hx
    unfold NN at h ⊢
    rw [e1, e2] at h
    have s1 := sg p
    have s2 := sg m
    rcases h with ⟨h1, h2⟩ | ⟨h1, h2, h3⟩ | ⟨h1, h2, h3⟩
    · exact .inl ⟨s1.1 h1, s2.1 h2⟩
    · exact .inr (.inl ⟨s1.1 h1, by omega, sl _ _ h3⟩)
    · exact .inr (.inr ⟨by omega, s2.1 h2, sl' _ _ h3⟩)
/-- The sign of p + q r. -/
def sgnR (p q : Int) : Int :=
  if 0 ≤ p ∧ 0 ≤ q then min (p + q) 1 else if p ≤ 0 ∧ q ≤ 0 then max (p + q) (-1) else if 0 < p then (if p * p < 2 * (q * q) then -1 else 1) else if p * p < 2 * (q * q) then 1 else -1
theorem sgnR_ge (p q : Int) : 0 ≤ sgnR p q ↔ NN q p := by
  unfold sgnR NN
  have hp := sqn p
  have hq := sqn q
  by_cases h1 : 0 ≤ p ∧ 0 ≤ q
  · rw [if_pos h1]; omega
  · rw [if_neg h1]
    by_cases h2 : p ≤ 0 ∧ q ≤ 0
    · rw [if_pos h2]
      rcases Int.lt_trichotomy p 0 with hp0 | rfl | hp0
      · rcases Int.lt_trichotomy q 0 with hq0 | rfl | hq0
        · omega
        · have := Int.mul_self_lt_mul_self (a := 0) (b := -p) (by omega) (by omega)
          have e : -p * -p = p * p := by grind
          omega
        · omega
      · have := Int.mul_self_lt_mul_self (a := 0) (b := -q) (by omega) (by omega)
        have e : -q * -q = q * q := by grind
        omega
      · omega
    · rw [if_neg h2]
      have hi : p * p = 2 * (q * q) → q = 0 := irr
      by_cases h3 : 0 < p
      · rw [if_pos h3]; split <;> omega
      · rw [if_neg h3]; split <;> omega
theorem sgnR_zero (p q : Int) : sgnR p q = 0 ↔ p = 0 ∧ q = 0 := by
  unfold sgnR
  split
  · omega
  · split
    · omega
    · split
      · split <;> omega
      · split <;> omega
end Go.Proofs.Ytccbinnlnkpplaa
