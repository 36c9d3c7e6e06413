/- The document's sums, differences and halves of spans; its products of numbers. -/
import Derived.Test.YtpbbbfglecbceaaRe1
namespace Go.Proofs.Ytpbbbfglecbceaa
set_option linter.all false
open Go.RowKit

theorem tdiv_floor (a b : Int) (hb : 0 < b) : a / b = if a.tmod b < 0 then a.tdiv b - 1 else a.tdiv b := by
  have h1 := Int.mul_tdiv_add_tmod a b
  have h3 := Int.tmod_lt_of_pos a hb
  have h4 : -b < a.tmod b := by
    have := Int.tmod_lt_of_pos (-a) hb
    rw [Int.neg_tmod] at this
    omega
  split
  · next h =>
    refine ((Int.ediv_emod_unique (r := a.tmod b + b) hb).2 ⟨?_, by omega, by omega⟩).1
    rw [Int.mul_sub, Int.mul_one]
    omega
  · next h =>
    exact ((Int.ediv_emod_unique (r := a.tmod b) hb).2 ⟨by omega, by omega, by omega⟩).1
theorem below_any (a b : Int) (hb : 0 < b) (hb' : b ≤ 2199023255552) (ha : -4611686018427387904 ≤ a) (ha' : a ≤ 4611686018427387904) (w : World) :
    Calls Try.prog 97 #[.int .i64 a, .int .i64 b] w fun e w' => e = .returned (.int .i64 (a / b)) ∧ w' = w := by
  have hf := tdiv_floor a b hb
  have h0 : b ≠ 0 := by omega
  have hm : b ≠ -1 := by omega
  have hq1 : -4611686018427387904 ≤ a / b := by
    rcases Int.le_total 0 a with h | h
    · exact Int.le_trans (by omega) (Int.ediv_nonneg h (by omega))
    · exact (Int.le_ediv_iff_mul_le hb).2 (by
        have : (-4611686018427387904) * b ≤ -4611686018427387904 * 1 := Int.mul_le_mul_of_nonpos_left (by omega) (by omega)
        omega)
  have hq2 : a / b ≤ 4611686018427387904 := by
    rcases Int.le_total 0 a with h | h
    · exact Int.le_trans (Int.ediv_le_self b h) ha'
    · have : a / b < 1 := (Int.ediv_lt_iff_lt_mul hb).2 (by omega)
      omega
  by_cases hr : a.tmod b < 0
  · rw [if_pos hr] at hf
    go_enter Try.func97, Try.ntmps97
    go_wp2
    go_ret
    exact ⟨by first | rfl | (rw [hf]; rfl), rfl⟩
  · rw [if_neg hr] at hf
    go_enter Try.func97, Try.ntmps97
    go_wp2
    go_ret
    exact ⟨by first | rfl | (rw [hf]; rfl), rfl⟩

theorem parts_any (n : Int) (h1 : -4611686018427387904 ≤ n) (h2 : n ≤ 4611686018427387904) (w : World) :
    Calls Try.prog 140 #[.int .i64 n] w fun e w' => e = .returned (.tuple #[.int .i64 (n / 1073741824), .int .i64 (n % 1073741824)]) ∧ w' = w := by
  have CB := Lib.hid (below_any n 1073741824 (by omega) (by omega) h1 h2)
  obtain ⟨q, hq⟩ : ∃ q, n / 1073741824 = q := ⟨_, rfl⟩
  have b1 : -4611686018427387904 ≤ q * 1073741824 := by omega
  have b2 : q * 1073741824 ≤ 4611686018427387904 := by omega
  have b3 : -1073741824 ≤ n - q * 1073741824 := by omega
  have b4 : n - q * 1073741824 ≤ 1073741824 := by omega
  have hr : n - q * 1073741824 = n % 1073741824 := by omega
  have CB' := CB.out
  rw [hq] at CB'
  replace CB' := Lib.hid CB'
  rw [hq]
  clear CB hq
  go_enter Try.func140, Try.ntmps140
  go_wp2_with (go_at_call 97; refine (CB'.out _).mono ?_; rintro e w'' ⟨rfl, rfl⟩)
  go_ret2
  exact ⟨by first | rfl | (rw [← hr]; rfl), rfl⟩

theorem dn_parts (a b : Int) : a / 1073741824 * b + a % 1073741824 * (b / 1073741824) + a % 1073741824 * (b % 1073741824) / 1073741824 = En.dn a b := by
  have ha := Int.mul_ediv_add_emod a 1073741824
  have hb := Int.mul_ediv_add_emod b 1073741824
  have e : a * b = (a / 1073741824 * b + a % 1073741824 * (b / 1073741824)) * 1073741824 + a % 1073741824 * (b % 1073741824) := by
    have e1 : a * b = (1073741824 * (a / 1073741824) + a % 1073741824) * b := by rw [ha]
    have e2 : a % 1073741824 * b = a % 1073741824 * (1073741824 * (b / 1073741824) + b % 1073741824) := by rw [hb]
    rw [e1, Int.add_mul, e2, Int.mul_add, Int.add_mul, Int.mul_assoc 1073741824, Int.mul_comm 1073741824 (_ * b), Int.mul_left_comm _ 1073741824, Int.mul_comm 1073741824 (_ * (b / 1073741824))]
    omega
  unfold En.dn
  rw [e]
  omega
theorem timesDown_any (a b : Int) (h1 : -1099511627776 ≤ a) (h2 : a ≤ 1099511627776) (h3 : -1099511627776 ≤ b) (h4 : b ≤ 1099511627776) (w : World) :
    Calls Try.prog 128 #[.int .i64 a, .int .i64 b] w fun e w' => e = .returned (.int .i64 (En.dn a b)) ∧ w' = w := by
  have CA := parts_any a (by omega) (by omega)
  have CB := parts_any b (by omega) (by omega)
  have hd := dn_parts a b
  have m1 := En.abs_mul_le (a := a / 1073741824) (b := b) (m := 1024) (n := 1099511627776) (by omega) (by omega) h3 h4
  have m2 := En.abs_mul_le (a := a % 1073741824) (b := b / 1073741824) (m := 1073741824) (n := 1024) (by omega) (by omega) (by omega) (by omega)
  have m3 := En.abs_mul_le (a := a % 1073741824) (b := b % 1073741824) (m := 1073741824) (n := 1073741824) (by omega) (by omega) (by omega) (by omega)
  rw [En.abs_mul_abs] at m1 m2 m3
  have n3 : 0 ≤ a % 1073741824 * (b % 1073741824) := Int.mul_nonneg (by omega) (by omega)
  obtain ⟨q, hq⟩ : ∃ q, a / 1073741824 = q := ⟨_, rfl⟩
  obtain ⟨r, hr⟩ : ∃ r, a % 1073741824 = r := ⟨_, rfl⟩
  obtain ⟨p, hp⟩ : ∃ p, b / 1073741824 = p := ⟨_, rfl⟩
  obtain ⟨s, hs⟩ : ∃ s, b % 1073741824 = s := ⟨_, rfl⟩
  rw [hq, hr] at CA
  rw [hp, hs] at CB
  rw [hq, hr, hp, hs] at hd
  rw [hq] at m1
  rw [hr, hp] at m2
  rw [hr, hs] at m3 n3
  clear hq hr hp hs
  have l1 := En.le_of_abs m1
  have l2 := En.le_of_abs m2
  obtain ⟨l1a, l1b⟩ := l1
  obtain ⟨l2a, l2b⟩ := l2
  have l3 := (En.le_of_abs m3).2
  have l4 : (r * s).tdiv 1073741824 = r * s / 1073741824 := Int.tdiv_eq_ediv_of_nonneg n3
  have l5 : 0 ≤ r * s / 1073741824 := by omega
  have l6 : r * s / 1073741824 ≤ 1073741824 := by omega
  clear m1 m2 m3
  replace CA := Lib.hid CA
  replace CB := Lib.hid CB
  go_enter Try.func128, Try.ntmps128
  go_wp2_with (first | (go_at_call_of 140 a; refine (CA.out _).mono ?_; rintro e w'' ⟨rfl, rfl⟩) | (go_at_call 140; refine (CB.out _).mono ?_; rintro e w'' ⟨rfl, rfl⟩))
  go_ret
  exact ⟨by first | rfl | (rw [← hd]; rfl), rfl⟩
theorem timesUp_any (a b : Int) (h1 : -1099511627776 ≤ a) (h2 : a ≤ 1099511627776) (h3 : -1099511627776 ≤ b) (h4 : b ≤ 1099511627776) (w : World) :
    Calls Try.prog 127 #[.int .i64 a, .int .i64 b] w fun e w' => e = .returned (.int .i64 (En.up a b)) ∧ w' = w := by
  have C := timesDown_any (-a) b (by omega) (by omega) h3 h4
  have hd : -(En.dn (-a) b) = En.up a b := by unfold En.dn En.up; rw [Int.neg_mul]
  have m1 := En.abs_mul_le (a := -a) (b := b) (m := 1099511627776) (n := 1099511627776) (by omega) (by omega) h3 h4
  rw [En.abs_mul_abs] at m1
  obtain ⟨l1, l2⟩ := En.le_of_abs m1
  have k1 : -1125899906842625 ≤ En.dn (-a) b := by unfold En.dn; omega
  have k2 : En.dn (-a) b ≤ 1125899906842625 := by unfold En.dn; omega
  obtain ⟨d, hdd⟩ : ∃ d, En.dn (-a) b = d := ⟨_, rfl⟩
  rw [hdd] at C hd k1 k2
  clear hdd m1 l1 l2
  replace C := Lib.hid C
  rw [← hd]
  clear hd
  go_enter Try.func127, Try.ntmps127
  go_wp2_with (go_at_call 128; refine (C.out _).mono ?_; rintro e w'' ⟨rfl, rfl⟩)
  go_ret
  exact ⟨rfl, rfl⟩
end Go.Proofs.Ytpbbbfglecbceaa
