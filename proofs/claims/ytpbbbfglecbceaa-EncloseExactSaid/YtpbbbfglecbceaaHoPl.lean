/- Plain: wider rectangles have wider powers, wider spans wider roots. -/
import Derived.Test.YtpbbbfglecbceaaRePl
import Derived.Test.YtpbbbfglecbceaaPl3
namespace Go.Proofs.Ytpbbbfglecbceaa.En
set_option linter.all false

/-- s lies in t. -/
def Sub (s t : Sp) : Prop := t.lo ≤ s.lo ∧ s.hi ≤ t.hi

theorem sq_abs {a b : Int} (h1 : -b ≤ a) (h2 : a ≤ b) : a * a ≤ b * b := by
  have hb : 0 ≤ b := by omega
  have h := abs_mul_le h1 h2 h1 h2
  rw [abs_mul_abs] at h
  exact (le_of_abs h).2
theorem up_mono {a b c d : Int} (h : a * b ≤ c * d) : up a b ≤ up c d := by unfold up; omega
theorem dn_mono {a b c d : Int} (h : a * b ≤ c * d) : dn a b ≤ dn c d := by unfold dn; omega
theorem neg_sq (a : Int) : (-a) * (-a) = a * a := Int.neg_mul_neg a a

theorem up_sq_le {a l h : Int} (h1 : l ≤ a) (h2 : a ≤ h) : up a a ≤ max (up l l) (up h h) := by
  rcases Int.le_total 0 a with h0 | h0
  · have := up_mono (sq_abs (a := a) (b := h) (by omega) h2)
    omega
  · have := up_mono (sq_abs (a := a) (b := -l) (by omega) (by omega))
    have e : up (-l) (-l) = up l l := by unfold up; rw [neg_sq]
    omega

theorem square_in {s t a b : Sp} (hs : s.ok = true) (ht : t.ok = true) (h : Sub s t) (ha : square s = .ok a) (hb : square t = .ok b) : Sub a b := by
  have fs := Sp.fit_of_ok hs
  have ft := Sp.fit_of_ok ht
  have ls := Sp.le_of_ok hs
  have lt := Sp.le_of_ok ht
  obtain ⟨h1, h2⟩ := h
  have u1 := up_sq_le (a := s.lo) h1 (by omega : s.lo ≤ t.hi)
  have u2 := up_sq_le (a := s.hi) (by omega : t.lo ≤ s.hi) h2
  have n1 := dn_self_nonneg s.lo
  have n2 := dn_self_nonneg s.hi
  rw [square_eq fs] at ha
  rw [square_eq ft] at hb
  by_cases hz : t.lo ≤ 0 ∧ 0 ≤ t.hi
  · rw [if_pos hz] at hb
    obtain ⟨rfl, -⟩ := span_eq hb
    split at ha
    · obtain ⟨rfl, -⟩ := span_eq ha
      exact ⟨Int.le_refl _, by dsimp only; omega⟩
    · obtain ⟨rfl, -⟩ := span_eq ha
      exact ⟨by dsimp only; omega, by dsimp only; omega⟩
  · rw [if_neg hz] at hb
    rw [if_neg (by omega)] at ha
    obtain ⟨rfl, -⟩ := span_eq hb
    obtain ⟨rfl, -⟩ := span_eq ha
    refine ⟨?_, by dsimp only; omega⟩
    dsimp only
    rcases Int.lt_or_le 0 t.lo with hp | hp
    · have m1 := dn_mono (sq_abs (a := t.lo) (b := s.lo) (by omega) h1)
      have m2 := dn_mono (sq_abs (a := t.lo) (b := s.hi) (by omega) (by omega))
      omega
    · have m1 := dn_mono (sq_abs (a := -t.hi) (b := -s.lo) (by omega) (by omega))
      have m2 := dn_mono (sq_abs (a := -t.hi) (b := -s.hi) (by omega) (by omega))
      have e : ∀ x : Int, dn (-x) (-x) = dn x x := fun x => by unfold dn; rw [neg_sq]
      rw [e, e] at m1 m2
      omega
theorem add_in {s t s' t' a b : Sp} (h : Sub s s') (k : Sub t t') (ha : add s t = .ok a) (hb : add s' t' = .ok b) : Sub a b := by
  obtain ⟨rfl, -⟩ := span_eq ha
  obtain ⟨rfl, -⟩ := span_eq hb
  obtain ⟨h1, h2⟩ := h
  obtain ⟨k1, k2⟩ := k
  exact ⟨by dsimp only; omega, by dsimp only; omega⟩
theorem ok_parts {x : Rc} (h : x.ok = true) : x.re.ok = true ∧ x.im.ok = true := by
  simp only [Rc.ok, Bool.and_eq_true] at h
  exact h
theorem power_in {x y : Rc} {a b : Sp} (hx : x.ok = true) (hy : y.ok = true) (h1 : Sub x.re y.re) (h2 : Sub x.im y.im) (ha : power x = .ok a) (hb : power y = .ok b) : Sub a b := by
  obtain ⟨p, hp, ha⟩ := bind_ok ha
  obtain ⟨q, hq, ha⟩ := bind_ok ha
  obtain ⟨r, hr, hb⟩ := bind_ok hb
  obtain ⟨s, hs, hb⟩ := bind_ok hb
  exact add_in (square_in (ok_parts hx).1 (ok_parts hy).1 h1 hp hr) (square_in (ok_parts hx).2 (ok_parts hy).2 h2 hq hs) ha hb
theorem roots_in {s t a b : Sp} (hs : s.ok = true) (ht : t.ok = true) (h0 : 0 ≤ t.lo) (h : Sub s t) (ha : roots s = .ok a) (hb : roots t = .ok b) : Sub a b := by
  obtain ⟨h1, h2⟩ := h
  have ls := Sp.le_of_ok hs
  have ft := Sp.fit_of_ok ht
  obtain ⟨rfl, -⟩ := span_eq ha
  obtain ⟨rfl, -⟩ := span_eq hb
  refine ⟨root_le h0 h1 (by have := ft.d; omega), ?_⟩
  dsimp only
  have m := root_le (m := s.hi) (n := t.hi) (by omega) h2 ft.d
  obtain ⟨r0, r1, r2, r3⟩ := root_spec (n := s.hi) (by omega) (by have := ft.d; omega)
  obtain ⟨q0, q1, q2, q3⟩ := root_spec (n := t.hi) (by omega) ft.d
  split
  · split <;> omega
  · next hne =>
    split
    · next he =>
      by_cases hlt : root s.hi < root t.hi
      · omega
      · have e : root s.hi = root t.hi := by omega
        rw [e] at r2 hne
        omega
    · omega
end Go.Proofs.Ytpbbbfglecbceaa.En
