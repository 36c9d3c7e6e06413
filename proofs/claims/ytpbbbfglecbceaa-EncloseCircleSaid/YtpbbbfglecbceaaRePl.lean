/- Plain: quotients in floors; what the document's arithmetic is. -/
import Derived.Test.YtpbbbfglecbceaaPl4
namespace Go.Proofs.Ytpbbbfglecbceaa.En
set_option linter.all false

theorem neg_ediv (N c : Int) (hc : 0 < c) : (-N) / c = if N % c = 0 then -(N / c) else -(N / c) - 1 := by
  have h1 := Int.mul_ediv_add_emod N c
  have h2 := Int.emod_nonneg N (b := c) (by omega)
  have h3 := Int.emod_lt_of_pos N hc
  split
  · next h0 =>
    refine ((Int.ediv_emod_unique (r := 0) hc).2 ⟨?_, by omega, by omega⟩).1
    rw [Int.mul_neg]
    omega
  · next h0 =>
    refine ((Int.ediv_emod_unique (r := c - N % c) hc).2 ⟨?_, by omega, by omega⟩).1
    rw [Int.mul_sub, Int.mul_neg, Int.mul_one]
    omega

theorem fr_floor (f : Fr) (N : Int) (hN : f.hi * 18446744073709551616 + f.lo = N) (hl : 0 ≤ f.lo) (hc : 0 < f.c) (hq : N / f.c ≤ 4611686018427387904) :
    f.floor = if f.neg then (-N) / f.c else N / f.c := by
  have hlt : ¬ f.c ≤ f.hi := by
    intro h
    have h1 : f.c * 18446744073709551616 ≤ N := by omega
    have h2 : 18446744073709551616 ≤ N / f.c := (Int.le_ediv_iff_mul_le hc).2 (by rw [Int.mul_comm]; exact h1)
    omega
  have e1 : f.q = N / f.c := by unfold Fr.q; rw [if_neg hlt, hN]; omega
  have e2 : f.exact = decide (N % f.c = 0) := by unfold Fr.exact; rw [if_neg hlt, hN]
  unfold Fr.floor
  rw [e1, e2, neg_ediv N f.c hc]
  by_cases h : N % f.c = 0 <;> simp [h]

theorem over_sign (a b c : Int) (hc : 0 < c) : a * b = if (over a b c).neg then -(abs a * abs b) else abs a * abs b := by
  unfold over
  dsimp only
  have h3 : decide (c < 0) = false := by simp; omega
  rw [h3]
  by_cases h0 : abs a * abs b = 0
  · have : a * b = 0 := by
      rcases Int.mul_eq_zero.1 h0 with h | h
      · have : a = 0 := by unfold abs at h; split at h <;> omega
        rw [this, Int.zero_mul]
      · have : b = 0 := by unfold abs at h; split at h <;> omega
        rw [this, Int.mul_zero]
    simp [h0, this]
  · have hz : a ≠ 0 ∧ b ≠ 0 := by
      constructor
      · rintro rfl; exact h0 (by simp [abs])
      · rintro rfl; exact h0 (by simp [abs])
    by_cases ha : a < 0 <;> by_cases hb : b < 0 <;> simp [ha, hb, abs, hz.1, hz.2, Int.neg_mul, Int.mul_neg]

theorem over_floor (a b c : Int) (hc : 0 < c) (h : abs a * abs b / c ≤ 4611686018427387904) : (over a b c).floor = a * b / c := by
  have hcc : (over a b c).c = c := by unfold over abs; dsimp only; rw [if_neg (by omega)]
  have h1 := fr_floor (over a b c) (abs a * abs b) (by unfold over; dsimp only; omega) (by unfold over; dsimp only; omega) (by rw [hcc]; exact hc) (by rw [hcc]; exact h)
  rw [h1, hcc, over_sign a b c hc]
  split <;> rfl

theorem over_ceil (a b c : Int) (hc : 0 < c) (h : abs a * abs b / c ≤ 4611686018427387904) : (over a b c).ceil = -(-(a * b) / c) := by
  have hcc : (over a b c).c = c := by unfold over abs; dsimp only; rw [if_neg (by omega)]
  have h1 := fr_floor { over a b c with neg := !(over a b c).neg } (abs a * abs b) (by unfold over; dsimp only; omega) (by unfold over; dsimp only; omega) (by show 0 < (over a b c).c; rw [hcc]; exact hc) (by show _ / (over a b c).c ≤ _; rw [hcc]; exact h)
  unfold Fr.ceil
  rw [h1, over_sign a b c hc]
  show -(if (!(over a b c).neg) = true then -(abs a * abs b) / (over a b c).c else abs a * abs b / (over a b c).c) = _
  rw [hcc]
  cases (over a b c).neg <;> simp

/-- What the document takes for a product, rounded down. -/
def dn (a b : Int) : Int := a * b / 1073741824
def up (a b : Int) : Int := -(-(a * b) / 1073741824)

theorem abs_le {a m : Int} (h1 : -m ≤ a) (h2 : a ≤ m) : abs a ≤ m := by unfold abs; split <;> omega
theorem abs_mul_le {a b m n : Int} (h1 : -m ≤ a) (h2 : a ≤ m) (h3 : -n ≤ b) (h4 : b ≤ n) : abs a * abs b ≤ m * n :=
  Int.mul_le_mul (abs_le h1 h2) (abs_le h3 h4) (abs_nonneg b) (by omega)
theorem abs_mul_abs (a b : Int) : abs a * abs b = abs (a * b) := by
  by_cases ha : a = 0
  · subst ha; simp [abs]
  by_cases hb : b = 0
  · subst hb; simp [abs]
  rcases Int.lt_or_gt_of_ne ha with h1 | h1 <;> rcases Int.lt_or_gt_of_ne hb with h2 | h2
  · have := Int.mul_pos_of_neg_of_neg h1 h2
    unfold abs
    rw [if_pos h1, if_pos h2, if_neg (by omega), Int.neg_mul_neg]
  · have := Int.mul_neg_of_neg_of_pos h1 h2
    unfold abs
    rw [if_pos h1, if_neg (by omega), if_pos (by omega), Int.neg_mul]
  · have := Int.mul_neg_of_pos_of_neg h1 h2
    unfold abs
    rw [if_neg (by omega), if_pos h2, if_pos (by omega), Int.mul_neg]
  · have := Int.mul_pos h1 h2
    unfold abs
    rw [if_neg (by omega), if_neg (by omega), if_neg (by omega)]
theorem le_of_abs {a m : Int} (h : abs a ≤ m) : -m ≤ a ∧ a ≤ m := by unfold abs at h; split at h <;> omega
theorem dn_over {a b : Int} (h1 : -1099511627776 ≤ a) (h2 : a ≤ 1099511627776) (h3 : -1099511627776 ≤ b) (h4 : b ≤ 1099511627776) : (over a b 1073741824).floor = dn a b := by
  have := abs_mul_le h1 h2 h3 h4
  exact over_floor a b 1073741824 (by omega) (by omega)
theorem up_over {a b : Int} (h1 : -1099511627776 ≤ a) (h2 : a ≤ 1099511627776) (h3 : -1099511627776 ≤ b) (h4 : b ≤ 1099511627776) : (over a b 1073741824).ceil = up a b := by
  have := abs_mul_le h1 h2 h3 h4
  exact over_ceil a b 1073741824 (by omega) (by omega)

theorem mul_eq {s t : Sp} (hs : s.fit) (ht : t.fit) : mul s t = span (min (min (min (dn s.lo t.lo) (dn s.lo t.hi)) (dn s.hi t.lo)) (dn s.hi t.hi)) (max (max (max (up s.lo t.lo) (up s.lo t.hi)) (up s.hi t.lo)) (up s.hi t.hi)) := by
  unfold mul around4
  simp only [lowF, highF, fr4]
  rw [dn_over hs.a hs.b ht.a ht.b, dn_over hs.a hs.b ht.c ht.d, dn_over hs.c hs.d ht.a ht.b, dn_over hs.c hs.d ht.c ht.d,
    up_over hs.a hs.b ht.a ht.b, up_over hs.a hs.b ht.c ht.d, up_over hs.c hs.d ht.a ht.b, up_over hs.c hs.d ht.c ht.d]

theorem dn_le_up (a b : Int) : dn a b ≤ up a b := by unfold dn up; omega
theorem up_self_nonneg (a : Int) : 0 ≤ up a a := by
  have : 0 ≤ a * a := by
    rcases Int.le_total 0 a with h | h
    · exact Int.mul_nonneg h h
    · exact Int.mul_nonneg_of_nonpos_of_nonpos h h
  unfold up
  omega
theorem dn_self_nonneg (a : Int) : 0 ≤ dn a a := by
  have : 0 ≤ a * a := by
    rcases Int.le_total 0 a with h | h
    · exact Int.mul_nonneg h h
    · exact Int.mul_nonneg_of_nonpos_of_nonpos h h
  unfold dn
  omega

theorem square_eq {s : Sp} (hs : s.fit) : square s = if s.lo ≤ 0 ∧ 0 ≤ s.hi then span 0 (max (up s.lo s.lo) (up s.hi s.hi)) else span (min (dn s.lo s.lo) (dn s.hi s.hi)) (max (up s.lo s.lo) (up s.hi s.hi)) := by
  have h1 := dn_le_up s.lo s.lo
  have h2 := up_self_nonneg s.lo
  have h3 := dn_self_nonneg s.lo
  have h4 := dn_self_nonneg s.hi
  unfold square squareOut
  simp only [lowF, highF, fr2]
  rw [dn_over hs.a hs.b hs.a hs.b, dn_over hs.c hs.d hs.c hs.d, up_over hs.a hs.b hs.a hs.b, up_over hs.c hs.d hs.c hs.d]
  unfold span
  by_cases hb : max (up s.lo s.lo) (up s.hi s.hi) ≤ 1099511627776
  · have e1 : okS (min (dn s.lo s.lo) (dn s.hi s.hi)) (max (up s.lo s.lo) (up s.hi s.hi)) = true := by simp only [okS, Bool.and_eq_true, decide_eq_true_eq]; omega
    have e2 : okS 0 (max (up s.lo s.lo) (up s.hi s.hi)) = true := by simp only [okS, Bool.and_eq_true, decide_eq_true_eq]; omega
    rw [if_pos e1, if_pos e2]
    show (Except.ok _ : R Sp) = _
    split <;> rfl
  · have e1 : okS (min (dn s.lo s.lo) (dn s.hi s.hi)) (max (up s.lo s.lo) (up s.hi s.hi)) = false := by
      simp only [okS, Bool.and_eq_false_iff, decide_eq_false_iff_not]; omega
    have e2 : okS 0 (max (up s.lo s.lo) (up s.hi s.hi)) = false := by
      simp only [okS, Bool.and_eq_false_iff, decide_eq_false_iff_not]; omega
    rw [e1, e2]
    simp
    rfl

/-- The error stays; nothing is done behind it. -/
def Stk {α : Type} (r : R α) (e : Int) (z : α) (e' : Int) : Prop := (e = 0 ∧ ((r = .ok z ∧ e' = 0) ∨ (r = .error e' ∧ e' ≠ 0))) ∨ (e ≠ 0 ∧ e' = e)
theorem Stk.bind {α β : Type} {r : R α} {f : α → R β} {e e1 e2 : Int} {z : α} {z' : β} (h : Stk r e z e1) (k : Stk (f z) e1 z' e2) : Stk (r >>= f) e z' e2 := by
  rcases h with ⟨rfl, ⟨rfl, rfl⟩ | ⟨rfl, h1⟩⟩ | ⟨h1, rfl⟩
  · exact k
  · rcases k with ⟨rfl, _⟩ | ⟨_, rfl⟩
    · exact absurd rfl h1
    · exact .inl ⟨rfl, .inr ⟨rfl, h1⟩⟩
  · rcases k with ⟨rfl, _⟩ | ⟨_, rfl⟩
    · exact absurd rfl h1
    · exact .inr ⟨h1, rfl⟩
theorem Stk.pure {α : Type} (z : α) (e : Int) : Stk (Pure.pure z : R α) e z e := by
  by_cases h : e = 0
  · exact .inl ⟨h, .inl ⟨rfl, h⟩⟩
  · exact .inr ⟨h, rfl⟩
theorem Stk.zero {α : Type} {r : R α} {z : α} {e' : Int} (h : Stk r 0 z e') : (r = .ok z ∧ e' = 0) ∨ (r = .error e' ∧ e' ≠ 0) := by
  rcases h with ⟨_, h⟩ | ⟨h, _⟩
  · exact h
  · exact absurd rfl h
/-- A span, if it is in range. -/
def stkSpan (e lo hi : Int) : Sp × Int := if e = 0 then (if okS lo hi then (⟨lo, hi⟩, 0) else (⟨0, 0⟩, 4)) else (⟨0, 0⟩, e)
theorem stkSpan_stk (e lo hi : Int) : Stk (span lo hi) e (stkSpan e lo hi).1 (stkSpan e lo hi).2 := by
  unfold stkSpan span
  by_cases h : e = 0
  · cases hk : okS lo hi
    · exact .inl ⟨h, .inr (by simp [h])⟩
    · exact .inl ⟨h, .inl (by simp [h])⟩
  · exact .inr ⟨h, by simp [h]⟩
theorem stkSpan_ok (e lo hi : Int) : (stkSpan e lo hi).1.ok = true := by
  unfold stkSpan
  split
  · split
    · assumption
    · rfl
  · rfl
theorem stkSpan_err (e lo hi : Int) (h : (stkSpan e lo hi).2 ≠ 0) : (stkSpan e lo hi).1 = ⟨0, 0⟩ := by
  revert h
  unfold stkSpan
  split
  · split <;> simp
  · simp
end Go.Proofs.Ytpbbbfglecbceaa.En
