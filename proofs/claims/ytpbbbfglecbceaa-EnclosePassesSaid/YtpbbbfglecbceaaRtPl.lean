/- Plain: the document's root is package enclose's root. -/
import Derived.Test.YtpbbbfglecbceaaRePl
import Derived.Test.YtpbbbfglecbceaaPl3
namespace Go.Proofs.Ytpbbbfglecbceaa.En
set_option linter.all false

theorem up_le (m x : Int) : up m m ≤ x ↔ m * m ≤ x * 1073741824 := by
  unfold up
  omega
theorem dn_lt (m x : Int) : dn m m < x ↔ m * m ≤ x * 1073741824 - 1 := by
  unfold dn
  omega

/-- The bit of a round of which so many are still to come. -/
def bitAt : Nat → Int
  | 0 => 0
  | k + 1 => 2 ^ k
theorem bitAt_half (k : Nat) : (bitAt (k + 1)).tdiv 2 = bitAt k := by
  cases k with
  | zero => rfl
  | succ k =>
    show ((2 : Int) ^ (k + 1)).tdiv 2 = 2 ^ k
    rw [Int.pow_succ, Int.mul_tdiv_cancel _ (by omega)]
theorem bitAt_pos (k : Nat) : 0 < bitAt (k + 1) := Int.pow_pos (by omega)

theorem bis_up (x : Int) (k : Nat) (lo : Int) : bis (x * 1073741824) (k + 1) lo = if up (lo + bitAt (k + 1)) (lo + bitAt (k + 1)) ≤ x then bis (x * 1073741824) k (lo + bitAt (k + 1)) else bis (x * 1073741824) k lo := by
  show (if (lo + 2 ^ k) * (lo + 2 ^ k) ≤ x * 1073741824 then _ else _) = if up (lo + 2 ^ k) (lo + 2 ^ k) ≤ x then _ else _
  by_cases h : (lo + 2 ^ k) * (lo + 2 ^ k) ≤ x * 1073741824
  · rw [if_pos h, if_pos ((up_le _ _).2 h)]; rfl
  · rw [if_neg h, if_neg (fun h' => h ((up_le _ _).1 h'))]
theorem bis_dn (x : Int) (k : Nat) (lo : Int) : bis (x * 1073741824 - 1) (k + 1) lo = if dn (lo + bitAt (k + 1)) (lo + bitAt (k + 1)) < x then bis (x * 1073741824 - 1) k (lo + bitAt (k + 1)) else bis (x * 1073741824 - 1) k lo := by
  show (if (lo + 2 ^ k) * (lo + 2 ^ k) ≤ x * 1073741824 - 1 then _ else _) = if dn (lo + 2 ^ k) (lo + 2 ^ k) < x then _ else _
  by_cases h : (lo + 2 ^ k) * (lo + 2 ^ k) ≤ x * 1073741824 - 1
  · rw [if_pos h, if_pos ((dn_lt _ _).2 h)]; rfl
  · rw [if_neg h, if_neg (fun h' => h ((dn_lt _ _).1 h'))]

theorem root_bis (x : Int) (h : x ≤ 1099511627776) : bis (x * 1073741824) 37 0 = root x := by
  show (if ((0 : Int) + 68719476736) * (0 + 68719476736) ≤ x * 1073741824 then _ else bis (x * 1073741824) 36 0) = root x
  rw [if_neg (by omega)]
  rfl

theorem high_bis (x : Int) (h0 : 0 ≤ x) (h : x ≤ 1099511627776) :
    (if dn (bis (x * 1073741824 - 1) 37 0) (bis (x * 1073741824 - 1) 37 0) < x then bis (x * 1073741824 - 1) 37 0 + 1 else bis (x * 1073741824 - 1) 37 0) = (if root x * root x = x * 1073741824 then root x else root x + 1) := by
  by_cases hz : x = 0
  · subst hz
    kernel_rfl
  · obtain ⟨b0, b1, b2, b3⟩ := bis_spec (x * 1073741824 - 1) 37 0 (by omega) (by omega) (by
      show _ < (0 + (137438953472 : Int)) * (0 + 137438953472)
      omega)
    obtain ⟨r0, r1, r2, r3⟩ := root_spec h0 h
    generalize bis (x * 1073741824 - 1) 37 0 = m at *
    generalize root x = r at *
    rw [if_pos ((dn_lt _ _).2 b2)]
    split
    · next he =>
      by_cases h1 : m + 1 < r
      · have := sq_le (a := m + 2) (b := r) (by omega) (by omega)
        have := sq_le (a := m + 1) (b := m + 2) (by omega) (by omega)
        have e : (m + 2) * (m + 2) = (m + 1) * (m + 1) + (m + 1) + (m + 2) := by rw [show m + 2 = (m + 1) + 1 by omega, Int.add_mul, Int.mul_add]; omega
        omega
      · by_cases h2 : r < m + 1
        · have := sq_le (a := r) (b := m) (by omega) (by omega)
          omega
        · omega
    · next he =>
      by_cases h1 : m < r
      · have := sq_le (a := m + 1) (b := r) (by omega) (by omega)
        omega
      · by_cases h2 : r < m
        · have := sq_le (a := r + 1) (b := m) (by omega) (by omega)
          omega
        · omega
end Go.Proofs.Ytpbbbfglecbceaa.En
