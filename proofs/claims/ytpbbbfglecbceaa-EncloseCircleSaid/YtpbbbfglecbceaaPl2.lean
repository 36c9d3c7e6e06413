/- Roots, points of the unit circle, in plain words. -/
import Derived.Test.YtpbbbfglecbceaaPl
namespace Go.Proofs.Ytpbbbfglecbceaa.En
set_option linter.all false

/-- The greatest r of k bits above lo whose square is at most N. -/
def bis (N : Int) : Nat → Int → Int
  | 0, lo => lo
  | k + 1, lo => if (lo + 2 ^ k) * (lo + 2 ^ k) ≤ N then bis N k (lo + 2 ^ k) else bis N k lo

theorem bis_spec (N : Int) : ∀ (k : Nat) (lo : Int), 0 ≤ lo → lo * lo ≤ N → N < (lo + 2 ^ k) * (lo + 2 ^ k) →
    lo ≤ bis N k lo ∧ bis N k lo < lo + 2 ^ k ∧ bis N k lo * bis N k lo ≤ N ∧ N < (bis N k lo + 1) * (bis N k lo + 1)
  | 0, lo, h0, h1, h2 => ⟨Int.le_refl _, by simp [bis]; omega, h1, by simpa [bis] using h2⟩
  | k + 1, lo, h0, h1, h2 => by
    have hp : (0 : Int) < 2 ^ k := Int.pow_pos (by omega)
    have hd : (2 : Int) ^ (k + 1) = 2 ^ k + 2 ^ k := by rw [Int.pow_succ]; omega
    unfold bis
    split
    · next h =>
      have := bis_spec N k (lo + 2 ^ k) (by omega) h (by rw [hd] at h2; rw [Int.add_assoc]; exact h2)
      omega
    · next h =>
      have := bis_spec N k lo h0 h1 (by omega)
      omega

def root (n : Int) : Int := bis (n * 1073741824) 36 0

theorem root_spec {n : Int} (h0 : 0 ≤ n) (h1 : n ≤ 1099511627776) :
    0 ≤ root n ∧ root n < 68719476736 ∧ root n * root n ≤ n * 1073741824 ∧ n * 1073741824 < (root n + 1) * (root n + 1) := by
  have := bis_spec (n * 1073741824) 36 0 (by omega) (by omega) (by
    show _ < (0 + (68719476736 : Int)) * (0 + 68719476736)
    omega)
  simpa [root] using this

/-- The root of a span that is not negative. -/
def roots (s : Sp) : R Sp := span (root s.lo) (if root s.hi * root s.hi = s.hi * 1073741824 then root s.hi else root s.hi + 1)

theorem roots_ok {s u : Sp} (h : roots s = .ok u) : u.ok = true := (span_eq h).2

theorem bind_ok {α β : Type} {r : R α} {f : α → R β} {b : β} (h : (r >>= f) = .ok b) : ∃ a, r = .ok a ∧ f a = .ok b := by
  cases r with
  | error c => cases h
  | ok a => exact ⟨a, rfl, h⟩
theorem Rc.ok_mk {a b : Sp} (ha : a.ok = true) (hb : b.ok = true) : (⟨a, b⟩ : Rc).ok = true := by simp [Rc.ok, ha, hb]
theorem plus_ok {x y z : Rc} (h : plus x y = .ok z) : z.ok = true := by
  obtain ⟨a, ha, h⟩ := bind_ok h
  obtain ⟨b, hb, h⟩ := bind_ok h
  cases h
  exact Rc.ok_mk (add_ok ha) (add_ok hb)
theorem minus_ok {x y z : Rc} (h : minus x y = .ok z) : z.ok = true := by
  obtain ⟨a, ha, h⟩ := bind_ok h
  obtain ⟨b, hb, h⟩ := bind_ok h
  cases h
  exact Rc.ok_mk (sub_ok ha) (sub_ok hb)
theorem times_ok {x y z : Rc} (h : times x y = .ok z) : z.ok = true := by
  obtain ⟨a, -, h⟩ := bind_ok h
  obtain ⟨b, -, h⟩ := bind_ok h
  obtain ⟨c, hc, h⟩ := bind_ok h
  obtain ⟨d, -, h⟩ := bind_ok h
  obtain ⟨e, -, h⟩ := bind_ok h
  obtain ⟨f, hf, h⟩ := bind_ok h
  cases h
  exact Rc.ok_mk (sub_ok hc) (add_ok hf)
theorem power_ok {x : Rc} {s : Sp} (h : power x = .ok s) : s.ok = true := by
  obtain ⟨a, -, h⟩ := bind_ok h
  obtain ⟨b, -, h⟩ := bind_ok h
  exact add_ok h
theorem point_ok {a b : Int} {z : Rc} (h : point a b = .ok z) : z.ok = true := by
  obtain ⟨a, ha, h⟩ := bind_ok h
  obtain ⟨b, hb, h⟩ := bind_ok h
  cases h
  exact Rc.ok_mk (span_eq ha).2 (span_eq hb).2
theorem quotient_ok {x y z : Rc} (h : quotient x y = .ok z) : z.ok = true := by
  obtain ⟨p, -, h⟩ := bind_ok h
  split at h
  · cases h
  · obtain ⟨u, -, h⟩ := bind_ok h
    obtain ⟨a, ha, h⟩ := bind_ok h
    obtain ⟨b, hb, h⟩ := bind_ok h
    cases h
    exact Rc.ok_mk (div_ok ha) (div_ok hb)
theorem conj_fit {x : Rc} (h : x.fit) : (conj x).fit := by
  obtain ⟨h1, ⟨h2, h3, h4, h5⟩⟩ := h
  exact ⟨h1, ⟨by simp [conj]; omega, by simp [conj]; omega, by simp [conj]; omega, by simp [conj]; omega⟩⟩

end Go.Proofs.Ytpbbbfglecbceaa.En
