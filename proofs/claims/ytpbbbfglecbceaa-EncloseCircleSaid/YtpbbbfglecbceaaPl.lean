/- What the functions of package enclose compute, in plain words. -/
import Derived.KernelRfl
namespace Go.Proofs.Ytpbbbfglecbceaa.En
set_option linter.all false

structure Sp where
  lo : Int
  hi : Int
deriving DecidableEq, Inhabited
structure Rc where
  re : Sp
  im : Sp
deriving DecidableEq, Inhabited
structure Pt where
  s00 : Rc
  s01 : Rc
  s10 : Rc
  s11 : Rc
deriving DecidableEq, Inhabited
/-- A fraction: its sign, the two words of the numerator, the divisor. -/
structure Fr where
  neg : Bool
  hi : Int
  lo : Int
  c : Int
deriving DecidableEq, Inhabited

def okS (lo hi : Int) : Bool := decide (-1099511627776 ≤ lo) && decide (lo ≤ hi) && decide (hi ≤ 1099511627776)
def Sp.ok (s : Sp) : Bool := okS s.lo s.hi
def Rc.ok (x : Rc) : Bool := x.re.ok && x.im.ok

/-- A result, or the error's number. -/
abbrev R (α : Type) := Except Int α

def span (lo hi : Int) : R Sp := if okS lo hi then .ok ⟨lo, hi⟩ else .error 4

def Fr.q (f : Fr) : Int := if f.c ≤ f.hi then 4611686018427387904 else min ((f.hi * 18446744073709551616 + f.lo) / f.c) 4611686018427387904
def Fr.exact (f : Fr) : Bool := if f.c ≤ f.hi then true else decide ((f.hi * 18446744073709551616 + f.lo) % f.c = 0)
def Fr.floor (f : Fr) : Int := if f.neg then (if f.exact then -f.q else -f.q - 1) else f.q
def Fr.ceil (f : Fr) : Int := -({ f with neg := !f.neg } : Fr).floor

def abs (n : Int) : Int := if n < 0 then -n else n
def over (a b c : Int) : Fr :=
  { neg := ((decide (a < 0) != decide (b < 0)) != decide (c < 0)) && decide (abs a * abs b ≠ 0)
    hi := abs a * abs b / 18446744073709551616
    lo := abs a * abs b % 18446744073709551616
    c := abs c }

theorem abs_pos (n : Int) (h : n ≠ 0) : 0 < abs n := by unfold abs; split <;> omega
theorem abs_nonneg (n : Int) : 0 ≤ abs n := by unfold abs; split <;> omega

structure Fr.wf (f : Fr) : Prop where
  h0 : 0 ≤ f.hi
  h1 : f.hi ≤ 18446744073709551615
  l0 : 0 ≤ f.lo
  l1 : f.lo ≤ 18446744073709551615
  c0 : 0 < f.c
  c1 : f.c ≤ 18446744073709551615

theorem Fr.q_range {f : Fr} (h : f.wf) : 0 ≤ f.q ∧ f.q ≤ 4611686018427387904 := by
  unfold Fr.q
  have := h.h0; have := h.l0; have := h.c0
  split
  · omega
  · have : 0 ≤ (f.hi * 18446744073709551616 + f.lo) / f.c := Int.ediv_nonneg (by omega) (by omega)
    omega

theorem Fr.floor_range {f : Fr} (h : f.wf) : -4611686018427387905 ≤ f.floor ∧ f.floor ≤ 4611686018427387904 := by
  have := Fr.q_range h
  unfold Fr.floor
  split
  · split <;> omega
  · omega

theorem Fr.ceil_range {f : Fr} (h : f.wf) : -4611686018427387904 ≤ f.ceil ∧ f.ceil ≤ 4611686018427387905 := by
  have := Fr.floor_range (f := { f with neg := !f.neg }) ⟨h.h0, h.h1, h.l0, h.l1, h.c0, h.c1⟩
  unfold Fr.ceil
  omega

theorem over_wf (a b c : Int) (ha : -9223372036854775807 ≤ a) (ha' : a ≤ 9223372036854775807) (hb : -9223372036854775807 ≤ b) (hb' : b ≤ 9223372036854775807)
    (hc : c ≠ 0) (hc1 : -9223372036854775807 ≤ c) (hc2 : c ≤ 9223372036854775807) : (over a b c).wf := by
  have h1 : abs a ≤ 9223372036854775807 := by unfold abs; split <;> omega
  have h2 : abs b ≤ 9223372036854775807 := by unfold abs; split <;> omega
  have h3 := abs_nonneg a
  have h4 := abs_nonneg b
  have h5 : abs a * abs b ≤ 9223372036854775807 * 9223372036854775807 := Int.mul_le_mul h1 h2 h4 (by omega)
  have h6 : 0 ≤ abs a * abs b := Int.mul_nonneg h3 h4
  have h7 := abs_pos c hc
  have h8 : abs c ≤ 9223372036854775807 := by unfold abs; split <;> omega
  unfold over
  constructor <;> dsimp only <;> omega

/-- The least floor of f 0 .. f k, the greatest ceiling. -/
def lowF (f : Nat → Fr) : Nat → Int
  | 0 => (f 0).floor
  | k + 1 => min (lowF f k) (f (k + 1)).floor
def highF (f : Nat → Fr) : Nat → Int
  | 0 => (f 0).ceil
  | k + 1 => max (highF f k) (f (k + 1)).ceil

def fr4 (a b c d : Fr) : Nat → Fr
  | 0 => a
  | 1 => b
  | 2 => c
  | _ => d
def fr2 (a b : Fr) : Nat → Fr
  | 0 => a
  | _ => b

def One : Int := 1073741824
def add (s t : Sp) : R Sp := span (s.lo + t.lo) (s.hi + t.hi)
def sub (s t : Sp) : R Sp := span (s.lo - t.hi) (s.hi - t.lo)
def around4 (a b c d : Fr) : R Sp := span (lowF (fr4 a b c d) 3) (highF (fr4 a b c d) 3)
def mul (s t : Sp) : R Sp := around4 (over s.lo t.lo 1073741824) (over s.lo t.hi 1073741824) (over s.hi t.lo 1073741824) (over s.hi t.hi 1073741824)
def squareOut (s : Sp) : R Sp := span (lowF (fr2 (over s.lo s.lo 1073741824) (over s.hi s.hi 1073741824)) 1) (highF (fr2 (over s.lo s.lo 1073741824) (over s.hi s.hi 1073741824)) 1)
def square (s : Sp) : R Sp := do
  let out ← squareOut s
  pure (if s.lo ≤ 0 ∧ 0 ≤ s.hi then ⟨0, out.hi⟩ else out)
def div (s t : Sp) : R Sp :=
  if t.lo ≤ 0 ∧ 0 ≤ t.hi then .error 51
  else around4 (over s.lo 1073741824 t.lo) (over s.lo 1073741824 t.hi) (over s.hi 1073741824 t.lo) (over s.hi 1073741824 t.hi)
def half (s : Sp) : R Sp := span (s.lo / 2) (-(-s.hi / 2))

/-- Bounds of at most 2^40. -/
structure Sp.fit (s : Sp) : Prop where
  a : -1099511627776 ≤ s.lo
  b : s.lo ≤ 1099511627776
  c : -1099511627776 ≤ s.hi
  d : s.hi ≤ 1099511627776

theorem Sp.fit_of_ok {s : Sp} (h : s.ok = true) : s.fit := by
  simp only [Sp.ok, okS, Bool.and_eq_true, decide_eq_true_eq] at h
  obtain ⟨⟨h1, h2⟩, h3⟩ := h
  exact ⟨by omega, by omega, by omega, by omega⟩
theorem Sp.le_of_ok {s : Sp} (h : s.ok = true) : s.lo ≤ s.hi := by
  simp only [Sp.ok, okS, Bool.and_eq_true, decide_eq_true_eq] at h
  omega
theorem span_eq {lo hi : Int} {s : Sp} (h : span lo hi = .ok s) : s = ⟨lo, hi⟩ ∧ s.ok = true := by
  unfold span at h
  split at h
  · injection h with h
    subst h
    exact ⟨rfl, by assumption⟩
  · cases h

theorem add_ok {s t u : Sp} (h : add s t = .ok u) : u.ok = true := (span_eq h).2
theorem sub_ok {s t u : Sp} (h : sub s t = .ok u) : u.ok = true := (span_eq h).2
theorem half_ok {s u : Sp} (h : half s = .ok u) : u.ok = true := (span_eq h).2
theorem mul_ok {s t u : Sp} (h : mul s t = .ok u) : u.ok = true := (span_eq h).2
theorem div_ok {s t u : Sp} (h : div s t = .ok u) : u.ok = true := by
  unfold div at h
  split at h
  · cases h
  · exact (span_eq h).2
theorem over_self_floor (a : Int) : 0 ≤ (over a a 1073741824).floor := by
  have h1 : (over a a 1073741824).neg = false := by simp [over]
  have h2 := abs_nonneg a
  have h3 : 0 ≤ abs a * abs a := Int.mul_nonneg h2 h2
  unfold Fr.floor
  rw [h1]
  have h5 : 0 ≤ (over a a 1073741824).q := by
    have e : (over a a 1073741824).c = 1073741824 := rfl
    unfold Fr.q
    split
    · omega
    · have h4 : 0 ≤ ((over a a 1073741824).hi * 18446744073709551616 + (over a a 1073741824).lo) / (over a a 1073741824).c := by
        apply Int.ediv_nonneg
        · show 0 ≤ abs a * abs a / 18446744073709551616 * 18446744073709551616 + abs a * abs a % 18446744073709551616
          omega
        · rw [e]; omega
      omega
  simpa using h5
theorem square_ok {s u : Sp} (h : square s = .ok u) : u.ok = true := by
  unfold square at h
  cases ho : squareOut s with
  | error c => rw [ho] at h; cases h
  | ok o =>
    rw [ho] at h
    have h' : (if s.lo ≤ 0 ∧ 0 ≤ s.hi then (⟨0, o.hi⟩ : Sp) else o) = u := by injection h
    have e := span_eq ho
    by_cases hc : s.lo ≤ 0 ∧ 0 ≤ s.hi
    · rw [if_pos hc] at h'
      have h1 := over_self_floor s.lo
      have h2 := over_self_floor s.hi
      have h3 : 0 ≤ o.lo := by
        rw [e.1]
        show 0 ≤ min (over s.lo s.lo 1073741824).floor (over s.hi s.hi 1073741824).floor
        omega
      have h4 := e.2
      subst h'
      simp only [Sp.ok, okS, Bool.and_eq_true, decide_eq_true_eq] at h4 ⊢
      omega
    · rw [if_neg hc] at h'
      exact h' ▸ e.2

/-- Both parts' bounds at most 2^40. -/
structure Rc.fit (x : Rc) : Prop where
  re : x.re.fit
  im : x.im.fit
theorem Rc.fit_of_ok {x : Rc} (h : x.ok = true) : x.fit := by
  simp only [Rc.ok, Bool.and_eq_true] at h
  exact ⟨Sp.fit_of_ok h.1, Sp.fit_of_ok h.2⟩

def plus (x y : Rc) : R Rc := do
  let a ← add x.re y.re
  let b ← add x.im y.im
  pure ⟨a, b⟩
def minus (x y : Rc) : R Rc := do
  let a ← sub x.re y.re
  let b ← sub x.im y.im
  pure ⟨a, b⟩
def times (x y : Rc) : R Rc := do
  let a ← mul x.re y.re
  let b ← mul x.im y.im
  let re ← sub a b
  let c ← mul x.re y.im
  let d ← mul x.im y.re
  let im ← add c d
  pure ⟨re, im⟩
def conj (x : Rc) : Rc := ⟨x.re, ⟨-x.im.hi, -x.im.lo⟩⟩
def power (x : Rc) : R Sp := do
  let a ← square x.re
  let b ← square x.im
  add a b
def quotient (x y : Rc) : R Rc := do
  let p ← power y
  if p.lo ≤ 0 then .error 51
  else do
    let z ← times x (conj y)
    let a ← div z.re p
    let b ← div z.im p
    pure ⟨a, b⟩
def point (re im : Int) : R Rc := do
  let a ← span (re * 1073741824) (re * 1073741824)
  let b ← span (im * 1073741824) (im * 1073741824)
  pure ⟨a, b⟩
def part (n d : Int) : R Sp := span (over n 1073741824 d).floor (over n 1073741824 d).ceil

end Go.Proofs.Ytpbbbfglecbceaa.En
