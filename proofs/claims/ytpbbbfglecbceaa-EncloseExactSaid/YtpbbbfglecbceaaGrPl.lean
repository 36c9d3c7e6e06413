/- Plain: wider rectangles have wider sums, differences, products and quotients; where the wider one has no error, the other has none. -/
import Derived.Test.YtpbbbfglecbceaaMiPl
namespace Go.Proofs.Ytpbbbfglecbceaa.En
set_option linter.all false

theorem corner_leI {a b c d x y m : Int} (h : a ≤ x) (h' : x ≤ b) (h2 : c ≤ y) (h3 : y ≤ d) (h4 : m ≤ a*c) (h5 : m ≤ a*d) (h6 : m ≤ b*c) (h7 : m ≤ b*d) : m ≤ x*y := by
  rcases Int.le_total 0 y with hy | hy
  · have := Int.mul_le_mul_of_nonneg_right h hy
    rcases Int.le_total 0 a with ha | ha
    · have := Int.mul_le_mul_of_nonneg_left h2 ha
      omega
    · have := Int.mul_le_mul_of_nonneg_left h3 (c := -a) (by omega)
      grind
  · have := Int.mul_le_mul_of_nonneg_right h' (c := -y) (by omega)
    rcases Int.le_total 0 b with ha | ha
    · have := Int.mul_le_mul_of_nonneg_left h2 ha
      grind
    · have := Int.mul_le_mul_of_nonneg_left h3 (c := -b) (by omega)
      grind
theorem corner_geI {a b c d x y m : Int} (h : a ≤ x) (h' : x ≤ b) (h2 : c ≤ y) (h3 : y ≤ d) (h4 : a*c ≤ m) (h5 : a*d ≤ m) (h6 : b*c ≤ m) (h7 : b*d ≤ m) : x*y ≤ m := by
  have := corner_leI (a := a) (b := b) (c := -d) (d := -c) (x := x) (y := -y) (m := -m) h h' (by omega) (by omega) (by grind) (by grind) (by grind) (by grind)
  grind
theorem dn_iff {m a b : Int} : m ≤ dn a b ↔ m * 1073741824 ≤ a * b := by unfold dn; omega
theorem up_iff {m a b : Int} : up a b ≤ m ↔ a * b ≤ m * 1073741824 := by unfold up; omega
theorem min4_le {m a b c d : Int} : m ≤ min (min (min a b) c) d ↔ m ≤ a ∧ m ≤ b ∧ m ≤ c ∧ m ≤ d := by omega
theorem le_max4 {m a b c d : Int} : max (max (max a b) c) d ≤ m ↔ a ≤ m ∧ b ≤ m ∧ c ≤ m ∧ d ≤ m := by omega
theorem span_mono {l h l' h' : Int} {b : Sp} (hb : span l' h' = .ok b) (h1 : l' ≤ l) (h2 : h ≤ h') (h3 : l ≤ h) : ∃ a, span l h = .ok a ∧ Sub a b := by
  obtain ⟨rfl, hk⟩ := span_eq hb
  refine ⟨⟨l, h⟩, ?_, h1, h2⟩
  unfold span
  simp only [Sp.ok, okS, Bool.and_eq_true, decide_eq_true_eq] at hk
  rw [if_pos]
  simp only [okS, Bool.and_eq_true, decide_eq_true_eq]
  omega

theorem add_mono {s t s' t' b : Sp} (ls : s.lo ≤ s.hi) (lt : t.lo ≤ t.hi) (h : Sub s s') (k : Sub t t') (hb : add s' t' = .ok b) : ∃ a, add s t = .ok a ∧ Sub a b := by
  obtain ⟨h1, h2⟩ := h
  obtain ⟨k1, k2⟩ := k
  exact span_mono hb (by omega) (by omega) (by omega)
theorem sub_mono {s t s' t' b : Sp} (ls : s.lo ≤ s.hi) (lt : t.lo ≤ t.hi) (h : Sub s s') (k : Sub t t') (hb : sub s' t' = .ok b) : ∃ a, sub s t = .ok a ∧ Sub a b := by
  obtain ⟨h1, h2⟩ := h
  obtain ⟨k1, k2⟩ := k
  exact span_mono hb (by omega) (by omega) (by omega)
theorem mul_mono {s t s' t' b : Sp} (hs : s.ok = true) (ht : t.ok = true) (hs' : s'.ok = true) (ht' : t'.ok = true) (h : Sub s s') (k : Sub t t') (hb : mul s' t' = .ok b) :
    ∃ a, mul s t = .ok a ∧ Sub a b := by
  rw [mul_eq (Sp.fit_of_ok hs') (Sp.fit_of_ok ht')] at hb
  rw [mul_eq (Sp.fit_of_ok hs) (Sp.fit_of_ok ht)]
  obtain ⟨h1, h2⟩ := h
  obtain ⟨k1, k2⟩ := k
  have ls := Sp.le_of_ok hs
  have lt := Sp.le_of_ok ht
  generalize hm : min (min (min (dn s'.lo t'.lo) (dn s'.lo t'.hi)) (dn s'.hi t'.lo)) (dn s'.hi t'.hi) = m at hb
  generalize hM : max (max (max (up s'.lo t'.lo) (up s'.lo t'.hi)) (up s'.hi t'.lo)) (up s'.hi t'.hi) = M at hb
  obtain ⟨a1, a2, a3, a4⟩ := min4_le.1 (Int.le_of_eq hm.symm)
  obtain ⟨b1, b2, b3, b4⟩ := le_max4.1 (Int.le_of_eq hM)
  have dl : ∀ x y : Int, s'.lo ≤ x → x ≤ s'.hi → t'.lo ≤ y → y ≤ t'.hi → m ≤ dn x y := fun x y q1 q2 q3 q4 =>
    dn_iff.2 (corner_leI q1 q2 q3 q4 (dn_iff.1 a1) (dn_iff.1 a2) (dn_iff.1 a3) (dn_iff.1 a4))
  have ul : ∀ x y : Int, s'.lo ≤ x → x ≤ s'.hi → t'.lo ≤ y → y ≤ t'.hi → up x y ≤ M := fun x y q1 q2 q3 q4 =>
    up_iff.2 (corner_geI q1 q2 q3 q4 (up_iff.1 b1) (up_iff.1 b2) (up_iff.1 b3) (up_iff.1 b4))
  have q := dn_le_up s.lo t.lo
  refine span_mono hb (min4_le.2 ⟨dl _ _ h1 (by omega) k1 (by omega), dl _ _ h1 (by omega) (by omega) k2, dl _ _ (by omega) h2 k1 (by omega), dl _ _ (by omega) h2 (by omega) k2⟩)
    (le_max4.2 ⟨ul _ _ h1 (by omega) k1 (by omega), ul _ _ h1 (by omega) (by omega) k2, ul _ _ (by omega) h2 k1 (by omega), ul _ _ (by omega) h2 (by omega) k2⟩) (by omega)
theorem square_mono {s t b : Sp} (hs : s.ok = true) (ht : t.ok = true) (h : Sub s t) (hb : square t = .ok b) : ∃ a, square s = .ok a ∧ Sub a b := by
  have key : ∃ a, square s = .ok a := by
    have fs := Sp.fit_of_ok hs
    have ls := Sp.le_of_ok hs
    obtain ⟨h1, h2⟩ := h
    have u1 := up_sq_le (a := s.lo) h1 (by omega : s.lo ≤ t.hi)
    have u2 := up_sq_le (a := s.hi) (by omega : t.lo ≤ s.hi) h2
    have n1 := dn_self_nonneg s.lo
    have n2 := dn_self_nonneg s.hi
    have n3 := up_self_nonneg s.lo
    have n4 := dn_le_up s.lo s.lo
    have hM : max (up t.lo t.lo) (up t.hi t.hi) ≤ 1099511627776 := by
      rw [square_eq (Sp.fit_of_ok ht)] at hb
      split at hb
      · obtain ⟨rfl, q⟩ := span_eq hb
        simp only [Sp.ok, okS, Bool.and_eq_true, decide_eq_true_eq] at q
        omega
      · obtain ⟨rfl, q⟩ := span_eq hb
        simp only [Sp.ok, okS, Bool.and_eq_true, decide_eq_true_eq] at q
        omega
    rw [square_eq fs]
    split
    · unfold span; rw [if_pos (by simp only [okS, Bool.and_eq_true, decide_eq_true_eq]; omega)]; exact ⟨_, rfl⟩
    · unfold span; rw [if_pos (by simp only [okS, Bool.and_eq_true, decide_eq_true_eq]; omega)]; exact ⟨_, rfl⟩
  obtain ⟨a, ha⟩ := key
  exact ⟨a, ha, square_in hs ht h ha hb⟩
theorem ovr_le_ovu {a b : Int} (hb : 0 < b) : ovr a b ≤ ovu a b := by
  unfold ovu ovr
  have e1 := Int.mul_ediv_add_emod a b
  have e2 := Int.emod_nonneg a (b := b) (by omega)
  have e3 := Int.emod_lt_of_pos a hb
  by_cases k1 : 2048 < a / b
  · rw [if_pos k1]
    have : 2049 * b ≤ a := (Int.le_ediv_iff_mul_le hb).1 (by omega)
    have : (-a) / b < -2048 := (Int.ediv_lt_iff_lt_mul hb).2 (by omega)
    rw [if_neg (by omega), if_pos this]
    omega
  · rw [if_neg k1]
    have u1 : a < 2049 * b := (Int.ediv_lt_iff_lt_mul hb).1 (by omega)
    by_cases k2 : a / b < -2048
    · rw [if_pos k2]
      split
      · omega
      · split
        · omega
        · next k3 k4 =>
          have : (-a) < 2049 * b := (Int.ediv_lt_iff_lt_mul hb).1 (by omega)
          have : -a * 1073741824 / b < 2200096997376 := (Int.ediv_lt_iff_lt_mul hb).2 (by omega)
          omega
    · rw [if_neg k2]
      have u2 : -2048 * b ≤ a := (Int.le_ediv_iff_mul_le hb).1 (by omega)
      have u3 : ¬ 2048 < (-a) / b := fun hh => by
        have : 2049 * b ≤ -a := (Int.le_ediv_iff_mul_le hb).1 (by omega)
        omega
      rw [if_neg u3]
      split
      · have : a * 1073741824 / b < 2200096997376 := (Int.ediv_lt_iff_lt_mul hb).2 (by omega)
        omega
      · rw [Int.neg_mul, neg_ediv (a * 1073741824) b hb]
        split <;> omega
theorem div_mono {s t s' t' b : Sp} (ls : s.lo ≤ s.hi) (lt : t.lo ≤ t.hi) (h : Sub s s') (k : Sub t t') (h0 : 0 < t'.lo) (hb : div s' t' = .ok b) : ∃ a, div s t = .ok a ∧ Sub a b := by
  obtain ⟨h1, h2⟩ := h
  obtain ⟨k1, k2⟩ := k
  rw [div_eq h0 (by omega)] at hb
  rw [div_eq (by omega) lt]
  have hk := (span_eq hb).2
  have he := (span_eq hb).1
  generalize hm : min (min (min (ovr s'.lo t'.lo) (ovr s'.lo t'.hi)) (ovr s'.hi t'.lo)) (ovr s'.hi t'.hi) = m at hb he
  generalize hM : max (max (max (ovu s'.lo t'.lo) (ovu s'.lo t'.hi)) (ovu s'.hi t'.lo)) (ovu s'.hi t'.hi) = M at hb he
  subst he
  have hf := Sp.fit_of_ok hk
  obtain ⟨f1, f2, f3, f4⟩ := hf
  dsimp only at f1 f2 f3 f4
  obtain ⟨a1, a2, a3, a4⟩ := min4_le.1 (Int.le_of_eq hm.symm)
  obtain ⟨b1, b2, b3, b4⟩ := le_max4.1 (Int.le_of_eq hM)
  have key : ∀ n x y z : Int, -1099511627776 ≤ n → n ≤ 1099511627776 → n ≤ ovr x t'.lo → n ≤ ovr x t'.hi → x ≤ z → t'.lo ≤ y → y ≤ t'.hi → n ≤ ovr z y := by
    intro n x y z q1 q2 q3 q4 q5 q6 q7
    rw [ovr_iff (by omega) q1 q2] at q3 q4 ⊢
    rcases Int.le_total 0 n with h0 | h0
    · have := Int.mul_le_mul_of_nonneg_left q7 h0
      omega
    · have := Int.mul_le_mul_of_nonneg_left q6 (c := -n) (by omega)
      grind
  have dl : ∀ x y : Int, s'.lo ≤ x → x ≤ s'.hi → t'.lo ≤ y → y ≤ t'.hi → m ≤ ovr x y := fun x y q1 q2 q3 q4 => key m s'.lo y x f1 f2 a1 a2 q1 q3 q4
  have ul : ∀ x y : Int, s'.lo ≤ x → x ≤ s'.hi → t'.lo ≤ y → y ≤ t'.hi → ovu x y ≤ M := fun x y q1 q2 q3 q4 => by
    have := key (-M) (-s'.hi) y (-x) (by omega) (by omega) (by unfold ovu at b3; omega) (by unfold ovu at b4; omega) (by omega) q3 q4
    unfold ovu; omega
  have q := ovr_le_ovu (a := s.lo) (b := t.lo) (by omega)
  refine span_mono hb (min4_le.2 ⟨dl _ _ h1 (by omega) k1 (by omega), dl _ _ h1 (by omega) (by omega) k2, dl _ _ (by omega) h2 k1 (by omega), dl _ _ (by omega) h2 (by omega) k2⟩)
    (le_max4.2 ⟨ul _ _ h1 (by omega) k1 (by omega), ul _ _ h1 (by omega) (by omega) k2, ul _ _ (by omega) h2 k1 (by omega), ul _ _ (by omega) h2 (by omega) k2⟩) (by omega)

/-- x lies in y. -/
structure SubR (x y : Rc) : Prop where
  re : Sub x.re y.re
  im : Sub x.im y.im
theorem plus_mono {x y p q b : Rc} (kx : x.ok = true) (ky : y.ok = true) (h : SubR x p) (k : SubR y q) (hb : plus p q = .ok b) : ∃ a, plus x y = .ok a ∧ SubR a b := by
  obtain ⟨kx1, kx2⟩ := ok_parts kx
  obtain ⟨ky1, ky2⟩ := ok_parts ky
  obtain ⟨u, hu, hb⟩ := bind_ok hb
  obtain ⟨v, hv, hb⟩ := bind_ok hb
  cases hb
  obtain ⟨u', e1, s1⟩ := add_mono (Sp.le_of_ok kx1) (Sp.le_of_ok ky1) h.re k.re hu
  obtain ⟨v', e2, s2⟩ := add_mono (Sp.le_of_ok kx2) (Sp.le_of_ok ky2) h.im k.im hv
  exact ⟨⟨u', v'⟩, by unfold plus; rw [e1, e2]; rfl, s1, s2⟩
theorem minus_mono {x y p q b : Rc} (kx : x.ok = true) (ky : y.ok = true) (h : SubR x p) (k : SubR y q) (hb : minus p q = .ok b) : ∃ a, minus x y = .ok a ∧ SubR a b := by
  obtain ⟨kx1, kx2⟩ := ok_parts kx
  obtain ⟨ky1, ky2⟩ := ok_parts ky
  obtain ⟨u, hu, hb⟩ := bind_ok hb
  obtain ⟨v, hv, hb⟩ := bind_ok hb
  cases hb
  obtain ⟨u', e1, s1⟩ := sub_mono (Sp.le_of_ok kx1) (Sp.le_of_ok ky1) h.re k.re hu
  obtain ⟨v', e2, s2⟩ := sub_mono (Sp.le_of_ok kx2) (Sp.le_of_ok ky2) h.im k.im hv
  exact ⟨⟨u', v'⟩, by unfold minus; rw [e1, e2]; rfl, s1, s2⟩
theorem times_mono {x y p q b : Rc} (kx : x.ok = true) (ky : y.ok = true) (kp : p.ok = true) (kq : q.ok = true) (h : SubR x p) (k : SubR y q) (hb : times p q = .ok b) : ∃ a, times x y = .ok a ∧ SubR a b := by
  obtain ⟨kx1, kx2⟩ := ok_parts kx
  obtain ⟨ky1, ky2⟩ := ok_parts ky
  obtain ⟨kp1, kp2⟩ := ok_parts kp
  obtain ⟨kq1, kq2⟩ := ok_parts kq
  obtain ⟨a1, h1, hb⟩ := bind_ok hb
  obtain ⟨a2, h2, hb⟩ := bind_ok hb
  obtain ⟨a3, h3, hb⟩ := bind_ok hb
  obtain ⟨a4, h4, hb⟩ := bind_ok hb
  obtain ⟨a5, h5, hb⟩ := bind_ok hb
  obtain ⟨a6, h6, hb⟩ := bind_ok hb
  cases hb
  obtain ⟨b1, e1, s1⟩ := mul_mono kx1 ky1 kp1 kq1 h.re k.re h1
  obtain ⟨b2, e2, s2⟩ := mul_mono kx2 ky2 kp2 kq2 h.im k.im h2
  obtain ⟨b3, e3, s3⟩ := sub_mono (Sp.le_of_ok (mul_ok e1)) (Sp.le_of_ok (mul_ok e2)) s1 s2 h3
  obtain ⟨b4, e4, s4⟩ := mul_mono kx1 ky2 kp1 kq2 h.re k.im h4
  obtain ⟨b5, e5, s5⟩ := mul_mono kx2 ky1 kp2 kq1 h.im k.re h5
  obtain ⟨b6, e6, s6⟩ := add_mono (Sp.le_of_ok (mul_ok e4)) (Sp.le_of_ok (mul_ok e5)) s4 s5 h6
  refine ⟨⟨b3, b6⟩, ?_, s3, s6⟩
  show (mul x.re y.re >>= fun a => mul x.im y.im >>= fun b => sub a b >>= fun re => mul x.re y.im >>= fun c => mul x.im y.re >>= fun d => add c d >>= fun im => (pure ⟨re, im⟩ : R Rc)) = _
  rw [e1]; show (mul x.im y.im >>= fun b => sub b1 b >>= fun re => mul x.re y.im >>= fun c => mul x.im y.re >>= fun d => add c d >>= fun im => (pure ⟨re, im⟩ : R Rc)) = _
  rw [e2]; show (sub b1 b2 >>= fun re => mul x.re y.im >>= fun c => mul x.im y.re >>= fun d => add c d >>= fun im => (pure ⟨re, im⟩ : R Rc)) = _
  rw [e3]; show (mul x.re y.im >>= fun c => mul x.im y.re >>= fun d => add c d >>= fun im => (pure ⟨b3, im⟩ : R Rc)) = _
  rw [e4]; show (mul x.im y.re >>= fun d => add b4 d >>= fun im => (pure ⟨b3, im⟩ : R Rc)) = _
  rw [e5]; show (add b4 b5 >>= fun im => (pure ⟨b3, im⟩ : R Rc)) = _
  rw [e6]; rfl
theorem conj_sub {x y : Rc} (h : SubR x y) : SubR (conj x) (conj y) := by
  obtain ⟨h1, h2, h3⟩ := h
  exact ⟨h1, by show -y.im.hi ≤ -x.im.hi; omega, by show -x.im.lo ≤ -y.im.lo; omega⟩
theorem power_mono {x p : Rc} {b : Sp} (kx : x.ok = true) (kp : p.ok = true) (h : SubR x p) (hb : power p = .ok b) : ∃ a, power x = .ok a ∧ Sub a b := by
  obtain ⟨kx1, kx2⟩ := ok_parts kx
  obtain ⟨kp1, kp2⟩ := ok_parts kp
  obtain ⟨u, hu, hb⟩ := bind_ok hb
  obtain ⟨v, hv, hb⟩ := bind_ok hb
  obtain ⟨u', e1, s1⟩ := square_mono kx1 kp1 h.re hu
  obtain ⟨v', e2, s2⟩ := square_mono kx2 kp2 h.im hv
  obtain ⟨w', e3, s3⟩ := add_mono (Sp.le_of_ok (square_ok e1)) (Sp.le_of_ok (square_ok e2)) s1 s2 hb
  refine ⟨w', ?_, s3⟩
  show (square x.re >>= fun a => square x.im >>= fun b => add a b) = _
  rw [e1]; show (square x.im >>= fun b => add u' b) = _
  rw [e2]; exact e3
theorem quotient_mono {x y p q b : Rc} (kx : x.ok = true) (ky : y.ok = true) (kp : p.ok = true) (kq : q.ok = true) (h : SubR x p) (k : SubR y q) (hb : quotient p q = .ok b) : ∃ a, quotient x y = .ok a ∧ SubR a b := by
  obtain ⟨s, hs, hb⟩ := bind_ok hb
  split at hb
  · cases hb
  · next h0 =>
    obtain ⟨u, hu, hb⟩ := bind_ok hb
    obtain ⟨v1, hv1, hb⟩ := bind_ok hb
    obtain ⟨v2, hv2, hb⟩ := bind_ok hb
    cases hb
    obtain ⟨s', e1, s1⟩ := power_mono ky kq k hs
    obtain ⟨u', e2, s2⟩ := times_mono kx (conj_okS ky) kp (conj_okS kq) h (conj_sub k) hu
    have ku := times_ok e2
    obtain ⟨ku1, ku2⟩ := ok_parts ku
    obtain ⟨w1, e3, s3⟩ := div_mono (Sp.le_of_ok ku1) (Sp.le_of_ok (power_ok e1)) s2.re s1 (by omega) hv1
    obtain ⟨w2, e4, s4⟩ := div_mono (Sp.le_of_ok ku2) (Sp.le_of_ok (power_ok e1)) s2.im s1 (by omega) hv2
    refine ⟨⟨w1, w2⟩, ?_, s3, s4⟩
    show (power y >>= fun p => if p.lo ≤ 0 then .error 51 else times x (conj y) >>= fun z => div z.re p >>= fun a => div z.im p >>= fun b => (pure ⟨a, b⟩ : R Rc)) = _
    rw [e1]; show (if s'.lo ≤ 0 then .error 51 else times x (conj y) >>= fun z => div z.re s' >>= fun a => div z.im s' >>= fun b => (pure ⟨a, b⟩ : R Rc)) = _
    rw [if_neg (by have := s1.1; omega), e2]; show (div u'.re s' >>= fun a => div u'.im s' >>= fun b => (pure ⟨a, b⟩ : R Rc)) = _
    rw [e3]; show (div u'.im s' >>= fun b => (pure ⟨w1, b⟩ : R Rc)) = _
    rw [e4]; rfl
end Go.Proofs.Ytpbbbfglecbceaa.En
