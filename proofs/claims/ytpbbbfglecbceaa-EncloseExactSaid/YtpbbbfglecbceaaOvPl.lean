/- Plain: the document's quotients of spans. -/
import Derived.Test.YtpbbbfglecbceaaRePl
namespace Go.Proofs.Ytpbbbfglecbceaa.En
set_option linter.all false

/-- The document's quotient, rounded down; out of range it is far. -/
def ovr (a b : Int) : Int := if 2048 < a / b then 35184372088832 else if a / b < -2048 then -35184372088832 else a * 1073741824 / b
def ovu (a b : Int) : Int := -(ovr (-a) b)

/-- The same, or out of range on the same side. -/
def sim (x y : Int) : Prop := x = y ∨ (1099511627776 < x ∧ 1099511627776 < y) ∨ (x < -1099511627776 ∧ y < -1099511627776)
theorem sim_min {a b c d : Int} (h : sim a b) (k : sim c d) : sim (min a c) (min b d) := by unfold sim at *; omega
theorem sim_max {a b c d : Int} (h : sim a b) (k : sim c d) : sim (max a c) (max b d) := by unfold sim at *; omega
theorem sim_neg {a b : Int} (h : sim a b) : sim (-a) (-b) := by unfold sim at *; omega
theorem span_sim {l l' h h' : Int} (hl : sim l l') (hh : sim h h') : span l h = span l' h' := by
  unfold span okS
  unfold sim at hl hh
  rcases hl with rfl | hl
  · rcases hh with rfl | hh
    · rfl
    · rw [if_neg (by simp; omega), if_neg (by simp; omega)]
  · rw [if_neg (by simp; omega), if_neg (by simp; omega)]

theorem over_q (a b c : Int) (hc : 0 < c) : (over a b c).q = min (abs a * abs b / c) 4611686018427387904 := by
  have hcc : (over a b c).c = c := by unfold over abs; dsimp only; rw [if_neg (by omega)]
  have hN : (over a b c).hi * 18446744073709551616 + (over a b c).lo = abs a * abs b := by unfold over; dsimp only; omega
  have hl : 0 ≤ (over a b c).lo := by unfold over; dsimp only; omega
  unfold Fr.q
  rw [hcc, hN]
  split
  · next h =>
    have h1 : c * 18446744073709551616 ≤ abs a * abs b := by omega
    have h2 : 18446744073709551616 ≤ abs a * abs b / c := (Int.le_ediv_iff_mul_le hc).2 (by rw [Int.mul_comm]; exact h1)
    omega
  · rfl
/-- The floor by sign and size. -/
theorem floor_cases (f : Fr) : (f.neg = false ∧ f.floor = f.q) ∨ (f.neg = true ∧ (f.floor = -f.q ∨ f.floor = -f.q - 1)) := by
  unfold Fr.floor
  cases h : f.neg
  · exact .inl ⟨rfl, by simp⟩
  · refine .inr ⟨rfl, ?_⟩
    cases f.exact
    · exact .inr (by simp)
    · exact .inl (by simp)
theorem over_neg_one (a b : Int) (hb : 0 < b) : (over a 1073741824 b).neg = decide (a < 0) := by
  unfold over
  dsimp only
  have h1 : decide (b < 0) = false := by simp; omega
  rw [h1]
  by_cases h : a < 0
  · have : abs a * abs 1073741824 ≠ 0 := by
      have := abs_pos a (by omega)
      intro h0
      rcases Int.mul_eq_zero.1 h0 with h | h
      · omega
      · revert h; decide
    simp [h, this]
  · simp [h]

theorem one_abs (a : Int) : abs a * abs 1073741824 = abs a * 1073741824 := rfl
/-- Near: no quotient is saturated. -/
theorem near_floor {a b : Int} (hb : 0 < b) (h : abs a ≤ 4096 * b) : (over a 1073741824 b).floor = a * 1073741824 / b := by
  refine over_floor a 1073741824 b hb ?_
  rw [one_abs]
  have h1 : abs a * 1073741824 ≤ 4398046511104 * b := by omega
  have : abs a * 1073741824 / b ≤ 4398046511104 := Int.ediv_le_of_le_mul hb h1
  omega
theorem near_ceil {a b : Int} (hb : 0 < b) (h : abs a ≤ 4096 * b) : (over a 1073741824 b).ceil = -(-(a * 1073741824) / b) := by
  refine over_ceil a 1073741824 b hb ?_
  rw [one_abs]
  have h1 : abs a * 1073741824 ≤ 4398046511104 * b := by omega
  have : abs a * 1073741824 / b ≤ 4398046511104 := Int.ediv_le_of_le_mul hb h1
  omega
theorem far_q {a b : Int} (hb : 0 < b) (h : ¬ abs a ≤ 4096 * b) : 4398046511104 ≤ (over a 1073741824 b).q := by
  rw [over_q a 1073741824 b hb, one_abs]
  have : 4398046511104 ≤ abs a * 1073741824 / b := (Int.le_ediv_iff_mul_le hb).2 (by omega)
  omega

theorem ovr_sim_near {a b : Int} (hb : 0 < b) : sim (a * 1073741824 / b) (ovr a b) := by
  unfold ovr sim
  by_cases h1 : 2048 < a / b
  · rw [if_pos h1]
    have h2 : 2049 * b ≤ a := (Int.le_ediv_iff_mul_le hb).1 (by omega)
    have : 2200096997376 ≤ a * 1073741824 / b := (Int.le_ediv_iff_mul_le hb).2 (by omega)
    omega
  · rw [if_neg h1]
    by_cases h2 : a / b < -2048
    · rw [if_pos h2]
      have h3 : a < -2048 * b := (Int.ediv_lt_iff_lt_mul hb).1 h2
      have : a * 1073741824 / b < -2199023255552 := (Int.ediv_lt_iff_lt_mul hb).2 (by omega)
      omega
    · rw [if_neg h2]
      omega
theorem ovr_far_pos {a b : Int} (hb : 0 < b) (h : 4096 * b < a) : 1099511627776 < ovr a b := by
  unfold ovr
  have : 4096 ≤ a / b := (Int.le_ediv_iff_mul_le hb).2 (by omega)
  rw [if_pos (by omega)]
  omega
theorem ovr_far_neg {a b : Int} (hb : 0 < b) (h : a < -(4096 * b)) : ovr a b < -1099511627776 := by
  unfold ovr
  have : a / b < -4095 := (Int.ediv_lt_iff_lt_mul hb).2 (by omega)
  rw [if_neg (by omega), if_pos (by omega)]
  omega

theorem ovr_sim {a b : Int} (hb : 0 < b) : sim (over a 1073741824 b).floor (ovr a b) := by
  by_cases h : abs a ≤ 4096 * b
  · rw [near_floor hb h]
    exact ovr_sim_near hb
  · have hq := far_q hb h
    have hn := over_neg_one a b hb
    rcases floor_cases (over a 1073741824 b) with ⟨h1, h2⟩ | ⟨h1, h2⟩
    · rw [hn] at h1
      have ha : ¬ a < 0 := of_decide_eq_false h1
      have hp : 4096 * b < a := by unfold abs at h; rw [if_neg ha] at h; omega
      have := ovr_far_pos hb hp
      unfold sim
      omega
    · rw [hn] at h1
      have ha : a < 0 := of_decide_eq_true h1
      have hp : a < -(4096 * b) := by unfold abs at h; rw [if_pos ha] at h; omega
      have := ovr_far_neg hb hp
      unfold sim
      omega
theorem ovu_sim {a b : Int} (hb : 0 < b) : sim (over a 1073741824 b).ceil (ovu a b) := by
  by_cases h : abs a ≤ 4096 * b
  · rw [near_ceil hb h]
    unfold ovu
    have := sim_neg (ovr_sim_near (a := -a) hb)
    rw [Int.neg_mul] at this
    exact this
  · have hq := far_q hb h
    have hn := over_neg_one a b hb
    unfold ovu
    have hcl : (over a 1073741824 b).ceil = -({ over a 1073741824 b with neg := !(over a 1073741824 b).neg } : Fr).floor := rfl
    rw [hcl]
    clear hcl
    have hq' : ({ over a 1073741824 b with neg := !(over a 1073741824 b).neg } : Fr).q = (over a 1073741824 b).q := rfl
    rcases floor_cases { over a 1073741824 b with neg := !(over a 1073741824 b).neg } with ⟨h1, h2⟩ | ⟨h1, h2⟩
    · dsimp only at h1
      rw [hn] at h1
      rw [hq'] at h2
      have ha : a < 0 := by simpa using h1
      have hp : a < -(4096 * b) := by unfold abs at h; rw [if_pos ha] at h; omega
      have := ovr_far_pos (a := -a) hb (by omega)
      rw [h2]
      unfold sim
      omega
    · dsimp only at h1
      rw [hn] at h1
      rw [hq'] at h2
      have ha : ¬ a < 0 := by simpa using h1
      have hp : 4096 * b < a := by unfold abs at h; rw [if_neg ha] at h; omega
      have := ovr_far_neg (a := -a) hb (by omega)
      unfold sim
      rcases h2 with h2 | h2 <;> rw [h2] <;> omega

theorem div_eq {s t : Sp} (ht : 0 < t.lo) (htt : t.lo ≤ t.hi) : div s t = span (min (min (min (ovr s.lo t.lo) (ovr s.lo t.hi)) (ovr s.hi t.lo)) (ovr s.hi t.hi)) (max (max (max (ovu s.lo t.lo) (ovu s.lo t.hi)) (ovu s.hi t.lo)) (ovu s.hi t.hi)) := by
  unfold div around4
  rw [if_neg (by omega)]
  simp only [lowF, highF, fr4]
  have h2 : 0 < t.hi := by omega
  exact span_sim (sim_min (sim_min (sim_min (ovr_sim ht) (ovr_sim h2)) (ovr_sim ht)) (ovr_sim h2)) (sim_max (sim_max (sim_max (ovu_sim ht) (ovu_sim h2)) (ovu_sim ht)) (ovu_sim h2))

theorem ovr_le {a b : Int} (hb : 0 < b) (h1 : -1099511627776 ≤ a) (h2 : a ≤ 1099511627776) : -35184372088832 ≤ ovr a b ∧ ovr a b ≤ 35184372088832 := by
  unfold ovr
  by_cases k1 : 2048 < a / b
  · rw [if_pos k1]; omega
  · rw [if_neg k1]
    by_cases k2 : a / b < -2048
    · rw [if_pos k2]; omega
    · rw [if_neg k2]
      have e1 : a < 2049 * b := (Int.ediv_lt_iff_lt_mul hb).1 (by omega)
      have e2 : -2048 * b ≤ a := (Int.le_ediv_iff_mul_le hb).1 (by omega)
      have e3 : a * 1073741824 / b < 2200096997376 := (Int.ediv_lt_iff_lt_mul hb).2 (by omega)
      have e4 : -2199023255552 ≤ a * 1073741824 / b := (Int.le_ediv_iff_mul_le hb).2 (by omega)
      omega

/-- One round of the document's division. -/
theorem ovr_round {a b : Int} (hb : 0 < b) : a / b * 32768 + a % b * 32768 / b = a * 32768 / b ∧ a % b * 32768 % b = a * 32768 % b := by
  have h1 := Int.mul_ediv_add_emod a b
  have e : a * 32768 = a % b * 32768 + b * (a / b * 32768) := by
    have : b * (a / b * 32768) = b * (a / b) * 32768 := by rw [Int.mul_assoc]
    omega
  refine ⟨?_, ?_⟩
  · rw [e, Int.add_mul_ediv_left _ _ (by omega)]
    omega
  · rw [e, Int.add_mul_emod_self_left]
end Go.Proofs.Ytpbbbfglecbceaa.En
