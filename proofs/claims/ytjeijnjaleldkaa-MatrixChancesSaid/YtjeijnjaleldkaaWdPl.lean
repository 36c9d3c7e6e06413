/- Plain: whole numbers of 384 bits as six words. -/
namespace Go.Proofs.Ytjeijnjaleldkaa
set_option linter.all false

structure W6 where
  w0 : Int
  w1 : Int
  w2 : Int
  w3 : Int
  w4 : Int
  w5 : Int
deriving DecidableEq, Inhabited
def W6.val (x : W6) : Int := x.w0 + 18446744073709551616 * (x.w1 + 18446744073709551616 * (x.w2 + 18446744073709551616 * (x.w3 + 18446744073709551616 * (x.w4 + 18446744073709551616 * x.w5))))
structure W6.Wf (x : W6) : Prop where
  a0 : 0 ≤ x.w0
  b0 : x.w0 < 18446744073709551616
  a1 : 0 ≤ x.w1
  b1 : x.w1 < 18446744073709551616
  a2 : 0 ≤ x.w2
  b2 : x.w2 < 18446744073709551616
  a3 : 0 ≤ x.w3
  b3 : x.w3 < 18446744073709551616
  a4 : 0 ≤ x.w4
  b4 : x.w4 < 18446744073709551616
  a5 : 0 ≤ x.w5
  b5 : x.w5 < 18446744073709551616
/-- The words of a number. -/
def W6.of (n : Int) : W6 := ⟨n % 18446744073709551616, n / 18446744073709551616 % 18446744073709551616, n / 18446744073709551616 / 18446744073709551616 % 18446744073709551616, n / 18446744073709551616 / 18446744073709551616 / 18446744073709551616 % 18446744073709551616, n / 18446744073709551616 / 18446744073709551616 / 18446744073709551616 / 18446744073709551616 % 18446744073709551616, n / 18446744073709551616 / 18446744073709551616 / 18446744073709551616 / 18446744073709551616 / 18446744073709551616 % 18446744073709551616⟩
theorem W6.of_wf (n : Int) : (W6.of n).Wf := ⟨by simp only [W6.of]; omega, by simp only [W6.of]; omega, by simp only [W6.of]; omega, by simp only [W6.of]; omega, by simp only [W6.of]; omega, by simp only [W6.of]; omega, by simp only [W6.of]; omega, by simp only [W6.of]; omega, by simp only [W6.of]; omega, by simp only [W6.of]; omega, by simp only [W6.of]; omega, by simp only [W6.of]; omega⟩
theorem W6.of_val (n : Int) : (W6.of n).val = n - 39402006196394479212279040100143613805079739270465446667948293404245721771497210611414266254884915640806627990306816 * (n / 18446744073709551616 / 18446744073709551616 / 18446744073709551616 / 18446744073709551616 / 18446744073709551616 / 18446744073709551616) := by simp only [W6.val, W6.of]; omega
theorem W6.ext' {x y : W6} (hx : x.Wf) (hy : y.Wf) (h : x.val = y.val) : x = y := by
  obtain ⟨a0, a1, a2, a3, a4, a5⟩ := x
  obtain ⟨b0, b1, b2, b3, b4, b5⟩ := y
  obtain ⟨h1, h2, h3, h4, h5, h6, h7, h8, h9, h10, h11, h12⟩ := hx
  obtain ⟨k1, k2, k3, k4, k5, k6, k7, k8, k9, k10, k11, k12⟩ := hy
  simp only [W6.val] at *
  congr 1 <;> omega
theorem W6.val_range {x : W6} (hx : x.Wf) : 0 ≤ x.val ∧ x.val < 39402006196394479212279040100143613805079739270465446667948293404245721771497210611414266254884915640806627990306816 := by
  obtain ⟨h1, h2, h3, h4, h5, h6, h7, h8, h9, h10, h11, h12⟩ := hx
  simp only [W6.val]
  omega
theorem W6.of_eq {x : W6} {n : Int} (hx : x.Wf) (q : Int) (h : x.val = n + 39402006196394479212279040100143613805079739270465446667948293404245721771497210611414266254884915640806627990306816 * q) : x = W6.of n := by
  refine W6.ext' hx (W6.of_wf n) ?_
  have h1 := W6.val_range hx
  have h2 := W6.val_range (W6.of_wf n)
  rw [W6.of_val] at h2 ⊢
  omega
/-- A number of 384 bits. -/
def In384 (n : Int) : Prop := -19701003098197239606139520050071806902539869635232723333974146702122860885748605305707133127442457820403313995153408 ≤ n ∧ n < 19701003098197239606139520050071806902539869635232723333974146702122860885748605305707133127442457820403313995153408
theorem W6.of_inj {m n : Int} (hm : In384 m) (hn : In384 n) (h : W6.of m = W6.of n) : m = n := by
  have h1 := W6.of_val m
  have h2 := W6.of_val n
  rw [h] at h1
  unfold In384 at hm hn
  omega
theorem W6.of_whole {n : Int} (h0 : -9223372036854775808 ≤ n) (h1 : n < 9223372036854775808) : W6.of n = ⟨n % 18446744073709551616, (if n < 0 then 18446744073709551615 else 0), (if n < 0 then 18446744073709551615 else 0), (if n < 0 then 18446744073709551615 else 0), (if n < 0 then 18446744073709551615 else 0), (if n < 0 then 18446744073709551615 else 0)⟩ := by
  simp only [W6.of]
  split <;> congr 1 <;> omega
theorem W6.add_eq {m n : Int} {s0 s1 s2 s3 s4 s5 c0 c1 c2 c3 c4 c5 : Int} (hw : (⟨s0, s1, s2, s3, s4, s5⟩ : W6).Wf)
    (h0 : s0 + 18446744073709551616 * c0 = (W6.of m).w0 + (W6.of n).w0) (h1 : s1 + 18446744073709551616 * c1 = (W6.of m).w1 + (W6.of n).w1 + c0) (h2 : s2 + 18446744073709551616 * c2 = (W6.of m).w2 + (W6.of n).w2 + c1)
    (h3 : s3 + 18446744073709551616 * c3 = (W6.of m).w3 + (W6.of n).w3 + c2) (h4 : s4 + 18446744073709551616 * c4 = (W6.of m).w4 + (W6.of n).w4 + c3) (h5 : s5 + 18446744073709551616 * c5 = (W6.of m).w5 + (W6.of n).w5 + c4) :
    (⟨s0, s1, s2, s3, s4, s5⟩ : W6) = W6.of (m + n) := by
  have e1 := W6.of_val m
  have e2 := W6.of_val n
  refine W6.of_eq hw (-(m / 18446744073709551616 / 18446744073709551616 / 18446744073709551616 / 18446744073709551616 / 18446744073709551616 / 18446744073709551616) - (n / 18446744073709551616 / 18446744073709551616 / 18446744073709551616 / 18446744073709551616 / 18446744073709551616 / 18446744073709551616) - c5) ?_
  generalize (m / 18446744073709551616 / 18446744073709551616 / 18446744073709551616 / 18446744073709551616 / 18446744073709551616 / 18446744073709551616) = p at *
  generalize (n / 18446744073709551616 / 18446744073709551616 / 18446744073709551616 / 18446744073709551616 / 18446744073709551616 / 18446744073709551616) = q at *
  generalize W6.of m = x at *
  generalize W6.of n = y at *
  simp only [W6.val] at *
  omega
theorem W6.neg_eq {m : Int} {s0 s1 s2 s3 s4 s5 c0 c1 c2 c3 c4 c5 : Int} (hw : (⟨s0, s1, s2, s3, s4, s5⟩ : W6).Wf)
    (h0 : s0 = 18446744073709551616 * c0 - (W6.of m).w0) (h1 : s1 = 18446744073709551616 * c1 - (W6.of m).w1 - c0) (h2 : s2 = 18446744073709551616 * c2 - (W6.of m).w2 - c1)
    (h3 : s3 = 18446744073709551616 * c3 - (W6.of m).w3 - c2) (h4 : s4 = 18446744073709551616 * c4 - (W6.of m).w4 - c3) (h5 : s5 = 18446744073709551616 * c5 - (W6.of m).w5 - c4) :
    (⟨s0, s1, s2, s3, s4, s5⟩ : W6) = W6.of (-m) := by
  have e1 := W6.of_val m
  refine W6.of_eq hw ((m / 18446744073709551616 / 18446744073709551616 / 18446744073709551616 / 18446744073709551616 / 18446744073709551616 / 18446744073709551616) + c5) ?_
  generalize (m / 18446744073709551616 / 18446744073709551616 / 18446744073709551616 / 18446744073709551616 / 18446744073709551616 / 18446744073709551616) = p at *
  generalize W6.of m = x at *
  simp only [W6.val] at *
  omega
theorem W6.times_eq {m n : Int} {s0 s1 s2 s3 s4 s5 c0 c1 c2 c3 c4 c5 : Int} (hw : (⟨s0, s1, s2, s3, s4, s5⟩ : W6).Wf)
    (h0 : s0 + 18446744073709551616 * c0 = (W6.of m).w0 * n) (h1 : s1 + 18446744073709551616 * c1 = (W6.of m).w1 * n + c0) (h2 : s2 + 18446744073709551616 * c2 = (W6.of m).w2 * n + c1)
    (h3 : s3 + 18446744073709551616 * c3 = (W6.of m).w3 * n + c2) (h4 : s4 + 18446744073709551616 * c4 = (W6.of m).w4 * n + c3) (h5 : s5 + 18446744073709551616 * c5 = (W6.of m).w5 * n + c4) :
    (⟨s0, s1, s2, s3, s4, s5⟩ : W6) = W6.of (m * n) := by
  have e1 := W6.of_val m
  refine W6.of_eq hw (-(m / 18446744073709551616 / 18446744073709551616 / 18446744073709551616 / 18446744073709551616 / 18446744073709551616 / 18446744073709551616) * n - c5) ?_
  generalize (m / 18446744073709551616 / 18446744073709551616 / 18446744073709551616 / 18446744073709551616 / 18446744073709551616 / 18446744073709551616) = p at *
  generalize W6.of m = x at *
  simp only [W6.val] at *
  grind
theorem W6.half_eq {m : Int} (hm : In384 m) (he : m % 2 = 0) :
    (⟨(W6.of m).w0 / 2 + (W6.of m).w1 % 2 * 9223372036854775808, (W6.of m).w1 / 2 + (W6.of m).w2 % 2 * 9223372036854775808, (W6.of m).w2 / 2 + (W6.of m).w3 % 2 * 9223372036854775808,
      (W6.of m).w3 / 2 + (W6.of m).w4 % 2 * 9223372036854775808, (W6.of m).w4 / 2 + (W6.of m).w5 % 2 * 9223372036854775808, (W6.of m).w5 / 2 + (W6.of m).w5 / 9223372036854775808 * 9223372036854775808⟩ : W6) = W6.of (m / 2) := by
  have e1 := W6.of_val m
  have hw := W6.of_wf m
  have h0 : (W6.of m).w0 % 2 = 0 := by simp only [W6.of]; omega
  unfold In384 at hm
  have hp : (m / 18446744073709551616 / 18446744073709551616 / 18446744073709551616 / 18446744073709551616 / 18446744073709551616 / 18446744073709551616) = if m < 0 then -1 else 0 := by split <;> omega
  rw [hp] at e1
  clear hp
  generalize W6.of m = x at e1 h0 hw ⊢
  obtain ⟨x0, x1, x2, x3, x4, x5⟩ := x
  obtain ⟨h1, h2, h3, h4, h5, h6, h7, h8, h9, h10, h11, h12⟩ := hw
  simp only [W6.val] at *
  have t0 : x5 / 9223372036854775808 = if m < 0 then 1 else 0 := by split at e1 <;> split <;> omega
  rw [t0]
  refine W6.of_eq ⟨by dsimp only; omega, by dsimp only; omega, by dsimp only; omega, by dsimp only; omega, by dsimp only; omega, by dsimp only; omega, by dsimp only; omega, by dsimp only; omega, by dsimp only; omega, by dsimp only; omega, by dsimp only; split <;> omega, by dsimp only; split at e1 <;> split <;> omega⟩ (if m < 0 then 1 else 0) ?_
  simp only [W6.val]
  split at e1 <;> split <;> omega
theorem W6.odd_eq (m : Int) : (W6.of m).w0 % 2 = m % 2 := by simp only [W6.of]; omega
end Go.Proofs.Ytjeijnjaleldkaa
