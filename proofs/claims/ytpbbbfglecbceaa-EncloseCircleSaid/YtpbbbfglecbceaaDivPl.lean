/- The arithmetic of a division of two words by one (no program in sight). -/
import Derived.Laws.Bits64b
import Derived.Laws.BitsLemmas
import Derived.Lib.BitFns
import Derived.Lib.ItoaNum
namespace Go.Proofs.Ytpbbbfglecbceaa.DivPl
set_option linter.all false

theorem norm (y : Int) (h1 : 0 < y) (h2 : y ≤ 18446744073709551615) (s : Int) (hs : s = 64 - (Lib.bitLen y.toNat : Int)) :
    0 ≤ s ∧ s ≤ 63 ∧ 9223372036854775808 ≤ y * 2 ^ s.toNat ∧ y * 2 ^ s.toNat ≤ 18446744073709551615 := by
  obtain ⟨n, rfl⟩ := Int.eq_ofNat_of_zero_le (Int.le_of_lt h1)
  have hn : n < 2 ^ 64 := by omega
  obtain ⟨a, b, c⟩ := Lib.bitLenAux_bounds 64 n hn (by omega)
  have hL : Lib.bitLen n ≤ 64 := Lib.bitLen_le n 64 (Nat.le_refl _) hn
  have hb : Lib.bitLenAux 64 n = Lib.bitLen n := rfl
  rw [hb] at a b c
  rw [Int.toNat_natCast] at hs
  generalize Lib.bitLen n = k at *
  have hst : s.toNat = 64 - k := by omega
  rw [hst]
  have e1 : (2 : Nat) ^ (k - 1) * 2 ^ (64 - k) = 2 ^ 63 := by rw [← Nat.pow_add]; congr 1; omega
  have e2 : (2 : Nat) ^ k * 2 ^ (64 - k) = 2 ^ 64 := by rw [← Nat.pow_add]; congr 1; omega
  have m1 : 2 ^ (k - 1) * 2 ^ (64 - k) ≤ n * 2 ^ (64 - k) := Nat.mul_le_mul_right _ b
  have m2 : n * 2 ^ (64 - k) < 2 ^ k * 2 ^ (64 - k) := Nat.mul_lt_mul_of_pos_right c (Nat.two_pow_pos _)
  rw [e1] at m1
  rw [e2] at m2
  have e3 : (n : Int) * 2 ^ (64 - k) = ((n * 2 ^ (64 - k) : Nat) : Int) := by simp
  rw [e3]
  exact ⟨by omega, by omega, by omega, by omega⟩

/-- The numbers that are divided, moved up by s bits. -/
theorem moved (hi lo y s : Int) (hy : hi < y) (h0 : 0 ≤ hi) (l0 : 0 ≤ lo) (l1 : lo ≤ 18446744073709551615) (s0 : 0 ≤ s) (s1 : s ≤ 63) (p q U L : Int) (hp' : p = 2 ^ s.toNat) (hq' : q = 2 ^ (64 - s).toNat)
    (hYp : y * p ≤ 18446744073709551615) (hU : U = hi * p + lo / q) (hL0 : L = lo * p % 18446744073709551616) :
    0 < p ∧ bits .or .u64 (IntKind.u64.wrap (hi * p)) (lo / q) = U ∧ IntKind.u64.wrap (lo * p) = L ∧ U * 18446744073709551616 + L = (hi * 18446744073709551616 + lo) * p ∧
      0 ≤ U ∧ U < y * p ∧ 0 ≤ L ∧ L ≤ 18446744073709551615 := by
  have hp : 0 < p := by rw [hp']; exact Int.pow_pos (by omega)
  have hq : 0 < q := by rw [hq']; exact Int.pow_pos (by omega)
  have hpq : p * q = 18446744073709551616 := by
    rw [hp', hq', ← Int.pow_add, show s.toNat + (64 - s).toNat = 64 by omega]
    rfl
  have hhp : hi * p + p ≤ y * p := by
    have : (hi + 1) * p ≤ y * p := Int.mul_le_mul_of_nonneg_right (by omega) (by omega)
    rw [Int.add_mul, Int.one_mul] at this
    exact this
  have hhp0 : 0 ≤ hi * p := Int.mul_nonneg h0 (by omega)
  have hlq : lo / q < p := by
    rw [Int.ediv_lt_iff_lt_mul hq, hpq]; omega
  have hlq0 : 0 ≤ lo / q := Int.ediv_nonneg l0 (by omega)
  have hw : IntKind.u64.wrap (hi * p) = hi * p := by rw [IntKind.wrap_u64]; omega
  have hor : bits .or .u64 (hi * p) (lo / q) = hi * p + lo / q := by
    refine bits_join .u64 64 (by decide) (fun n h0 h1 => by rw [IntKind.wrap_u64]; omega) s.toNat _ _ hhp0 ?_ ?_ hlq0 (by rw [← hp']; exact hlq) ?_
    · rw [← hp']; exact Int.mul_emod_left _ _
    · have : (2 : Int) ^ 64 = 18446744073709551616 := by decide
      omega
    · have : (2 : Int) ^ 64 = 18446744073709551616 := by decide
      omega
  have hL : IntKind.u64.wrap (lo * p) = L := by rw [IntKind.wrap_u64, hL0]
  have hLd : lo * p = (lo / q) * 18446744073709551616 + L := by
    have hdiv : lo * p / 18446744073709551616 = lo / q := by
      rw [← hpq, Int.mul_comm p q]
      exact Int.mul_ediv_mul_of_pos_left _ _ hp
    have := Int.mul_ediv_add_emod (lo * p) 18446744073709551616
    rw [hdiv] at this
    omega
  refine ⟨hp, by rw [hw, hU]; exact hor, hL, ?_, by omega, by omega, by omega, by omega⟩
  rw [hU, Int.add_mul, Int.add_mul, Int.mul_right_comm hi p, hLd]
  omega

/-- One digit: the guess, and when it is right. U < Y, N = U * 2^32 + d. -/
theorem guess (U Y d q r : Int) (hq : q * (Y / 4294967296) + r = U) :
    q * Y - (U * 4294967296 + d) = q * (Y % 4294967296) - (4294967296 * r + d) := by
  have e : Y = Y / 4294967296 * 4294967296 + Y % 4294967296 := by omega
  have : q * Y = q * (Y / 4294967296) * 4294967296 + q * (Y % 4294967296) := by
    conv => lhs; rw [e]
    rw [Int.mul_add, Int.mul_assoc]
  rw [this, ← hq, Int.add_mul]
  omega

structure Dig (U Y d : Int) : Prop where
  U0 : 0 ≤ U
  UY : U < Y
  Y0 : 9223372036854775808 ≤ Y
  Y1 : Y ≤ 18446744073709551615
  d0 : 0 ≤ d
  d1 : d ≤ 4294967295

/-- What holds at the head of the loop. -/
structure Inv (U Y d q r : Int) : Prop where
  eq : q * (Y / 4294967296) + r = U
  ge : (U * 4294967296 + d) / Y ≤ q
  q1 : q ≤ 4294967297
  r0 : 0 ≤ r
  r1 : r ≤ 4294967295

theorem tlt {U Y d : Int} (h : Dig U Y d) : 0 ≤ (U * 4294967296 + d) / Y ∧ (U * 4294967296 + d) / Y ≤ 4294967295 := by
  have hY : 0 < Y := by have := h.Y0; omega
  have := h.U0; have := h.UY; have := h.d0; have := h.d1
  refine ⟨Int.ediv_nonneg (by omega) (by omega), ?_⟩
  have : (U * 4294967296 + d) / Y < 4294967296 := by
    rw [Int.ediv_lt_iff_lt_mul hY]
    have : U * 4294967296 + 4294967296 ≤ 4294967296 * Y := by omega
    omega
  omega

theorem start {U Y d : Int} (h : Dig U Y d) : Inv U Y d (U / (Y / 4294967296)) (U - U / (Y / 4294967296) * (Y / 4294967296)) := by
  obtain ⟨U0, UY, Y0, Y1, d0, d1⟩ := h
  generalize hY1 : Y / 4294967296 = a
  have ha : 2147483648 ≤ a ∧ a ≤ 4294967295 := by omega
  have hm := Int.mul_ediv_add_emod U a
  have hr0 := Int.emod_nonneg U (show a ≠ 0 by omega)
  have hr1 := Int.emod_lt_of_pos U (show 0 < a by omega)
  have hcomm : a * (U / a) = U / a * a := Int.mul_comm _ _
  refine ⟨by rw [hY1]; omega, ?_, ?_, by omega, by omega⟩
  · -- the guess is not less
    refine Int.le_of_lt_add_one ?_
    rw [Int.ediv_lt_iff_lt_mul (by omega)]
    have e : Y = a * 4294967296 + Y % 4294967296 := by omega
    have h1 : (U / a + 1) * Y = (U / a * a + a) * 4294967296 + (U / a + 1) * (Y % 4294967296) := by
      conv => lhs; rw [e]
      rw [Int.mul_add, ← Int.mul_assoc, Int.add_mul (U / a) 1 a]
      omega
    have h2 : 0 ≤ (U / a + 1) * (Y % 4294967296) := Int.mul_nonneg (by have := Int.ediv_nonneg U0 (show 0 ≤ a by omega); omega) (by omega)
    rw [h1]
    omega
  · -- at most two more than a digit
    have : U / a < 4294967298 := by
      rw [Int.ediv_lt_iff_lt_mul (by omega)]
      omega
    omega

/-- The test says no: the digit is right. -/
theorem right {U Y d q r : Int} (h : Dig U Y d) (hi : Inv U Y d q r) (ht : q * (Y % 4294967296) ≤ 4294967296 * r + d) : q = (U * 4294967296 + d) / Y := by
  have hg := guess U Y d q r hi.eq
  have h1 : q ≤ (U * 4294967296 + d) / Y := by
    rw [Int.le_ediv_iff_mul_le (by have := h.Y0; omega)]
    omega
  have := hi.ge
  omega

/-- The test says yes: one less is not too few. -/
theorem less {U Y d q r : Int} (h : Dig U Y d) (hi : Inv U Y d q r) (ht : 4294967296 ≤ q ∨ 4294967296 * r + d < q * (Y % 4294967296)) :
    (U * 4294967296 + d) / Y ≤ q - 1 ∧ (q - 1) * (Y / 4294967296) + (r + Y / 4294967296) = U ∧ 1 ≤ q := by
  have hg := guess U Y d q r hi.eq
  have ht' := tlt h
  have e : (q - 1) * (Y / 4294967296) = q * (Y / 4294967296) - Y / 4294967296 := by rw [Int.sub_mul, Int.one_mul]
  have heq := hi.eq
  have hlt : (U * 4294967296 + d) / Y < q := by
    rcases ht with ht | ht
    · omega
    · rw [Int.ediv_lt_iff_lt_mul (by have := h.Y0; omega)]
      omega
  exact ⟨by omega, by omega, by omega⟩

theorem again {U Y d q r : Int} (h : Dig U Y d) (hi : Inv U Y d q r) (ht : 4294967296 ≤ q ∨ 4294967296 * r + d < q * (Y % 4294967296)) (hr : r + Y / 4294967296 ≤ 4294967295) :
    Inv U Y d (q - 1) (r + Y / 4294967296) := by
  obtain ⟨h1, h2, h3⟩ := less h hi ht
  have := hi.q1; have := hi.r0; have := h.Y0
  exact ⟨h2, h1, by omega, by omega, hr⟩

theorem stop {U Y d q r : Int} (h : Dig U Y d) (hi : Inv U Y d q r) (ht : 4294967296 ≤ q ∨ 4294967296 * r + d < q * (Y % 4294967296)) (hr : 4294967296 ≤ r + Y / 4294967296) :
    q - 1 = (U * 4294967296 + d) / Y := by
  obtain ⟨h1, h2, h3⟩ := less h hi ht
  have hg := guess U Y d (q - 1) (r + Y / 4294967296) h2
  have hq := hi.q1
  have hm : (q - 1) * (Y % 4294967296) ≤ 4294967296 * 4294967295 := by
    have h5 : (q - 1) * (Y % 4294967296) ≤ 4294967296 * (Y % 4294967296) := Int.mul_le_mul_of_nonneg_right (by omega) (by omega)
    omega
  have hd := h.d0
  have h4 : q - 1 ≤ (U * 4294967296 + d) / Y := by
    rw [Int.le_ediv_iff_mul_le (by have := h.Y0; omega)]
    omega
  omega

/-- The numbers of the test do not wrap. -/
theorem test_in {U Y d q r : Int} (h : Dig U Y d) (hi : Inv U Y d q r) (hq : q < 4294967296) :
    0 ≤ q ∧ 0 ≤ q * (Y % 4294967296) ∧ q * (Y % 4294967296) ≤ 18446744073709551615 := by
  have h0 : 0 ≤ q := by have := hi.ge; have := tlt h; omega
  have h1 : q * (Y % 4294967296) ≤ 4294967295 * (Y % 4294967296) := Int.mul_le_mul_of_nonneg_right (by omega) (by omega)
  exact ⟨h0, Int.mul_nonneg h0 (by omega), by omega⟩

/-- What is left of a digit's division. -/
theorem left {U Y d T : Int} (h : Dig U Y d) (hT : T = (U * 4294967296 + d) / Y) :
    IntKind.u64.wrap (IntKind.u64.wrap (IntKind.u64.wrap (U * 4294967296) + d) - IntKind.u64.wrap (T * Y)) = (U * 4294967296 + d) % Y ∧
      0 ≤ (U * 4294967296 + d) % Y ∧ (U * 4294967296 + d) % Y < Y := by
  have hm := Int.mul_ediv_add_emod (U * 4294967296 + d) Y
  rw [Int.mul_comm Y, ← hT] at hm
  have hr0 := Int.emod_nonneg (U * 4294967296 + d) (show Y ≠ 0 by have := h.Y0; omega)
  have hr1 := Int.emod_lt_of_pos (U * 4294967296 + d) (show 0 < Y by have := h.Y0; omega)
  have := h.Y1
  refine ⟨?_, hr0, hr1⟩
  simp only [IntKind.wrap_u64]
  generalize T * Y = z at *
  generalize (U * 4294967296 + d) % Y = R at *
  omega

/-- Both digits together. -/
theorem both {hi lo y p U L Y R T T' : Int} (hp : 0 < p) (hY : Y = y * p) (hy : 0 < y) (hUL : U * 18446744073709551616 + L = (hi * 18446744073709551616 + lo) * p)
    (hR : R = (U * 4294967296 + L / 4294967296) % Y) (hT : T = (U * 4294967296 + L / 4294967296) / Y) (hT' : T' = (R * 4294967296 + L % 4294967296) / Y) :
    T * 4294967296 + T' = (hi * 18446744073709551616 + lo) / y ∧ (R * 4294967296 + L % 4294967296) % Y / p = (hi * 18446744073709551616 + lo) % y := by
  have hYp : 0 < Y := by rw [hY]; exact Int.mul_pos hy hp
  have h1 := Int.mul_ediv_add_emod (U * 4294967296 + L / 4294967296) Y
  rw [← hR, ← hT] at h1
  have hN : (hi * 18446744073709551616 + lo) * p = (R * 4294967296 + L % 4294967296) + Y * (T * 4294967296) := by
    rw [← hUL, ← Int.mul_assoc]
    omega
  have hd : (hi * 18446744073709551616 + lo) * p / Y = T' + T * 4294967296 := by
    rw [hN, Int.add_mul_ediv_left _ _ (show Y ≠ 0 by omega), hT']
  have hmod : (hi * 18446744073709551616 + lo) * p % Y = (R * 4294967296 + L % 4294967296) % Y := by
    rw [hN, Int.add_mul_emod_self_left]
  have e : ∀ a : Int, a * p = p * a := fun a => Int.mul_comm _ _
  rw [hY, e, e y, Int.mul_ediv_mul_of_pos _ _ hp] at hd
  rw [← hmod, hY, e, e y, Int.mul_emod_mul_of_pos _ _ hp, Int.mul_ediv_cancel_left _ (by omega)]
  exact ⟨by omega, rfl⟩
end Go.Proofs.Ytpbbbfglecbceaa.DivPl
