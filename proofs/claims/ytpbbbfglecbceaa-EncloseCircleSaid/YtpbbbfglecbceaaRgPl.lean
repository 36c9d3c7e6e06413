/- Plain: what a ring lets through. -/
import Derived.Test.YtpbbbfglecbceaaRePl
import Derived.Test.YtpbbbfglecbceaaUnPl
import Derived.Test.YtpbbbfglecbceaaPl2
namespace Go.Proofs.Ytpbbbfglecbceaa.En
set_option linter.all false

/-- The least span for so many millionths. -/
def pmS (n : Int) : Sp := ⟨n * 1073741824 / 1000000, -(-(n * 1073741824) / 1000000)⟩
theorem pmS_ok {n : Int} (h0 : 0 ≤ n) (h1 : n ≤ 1000000) : (pmS n).ok = true := by
  have h2 := h0
  show okS (n * 1073741824 / 1000000) (-(-(n * 1073741824) / 1000000)) = true
  simp only [okS, Bool.and_eq_true, decide_eq_true_eq]
  omega
theorem part_pm {n : Int} (h0 : 0 ≤ n) (h1 : n ≤ 1000000) : part n 1000000 = .ok (pmS n) := by
  have hb : abs n * abs 1073741824 / 1000000 ≤ 4611686018427387904 := by
    have e : abs n = n := by unfold abs; rw [if_neg (by omega)]
    rw [e, show abs 1073741824 = 1073741824 from rfl]
    omega
  unfold part
  rw [over_floor n 1073741824 1000000 (by omega) hb, over_ceil n 1073741824 1000000 (by omega) hb]
  exact if_pos (pmS_ok h0 h1)
/-- A ring: its coupling c, what it keeps a, the turn u. -/
def ringCore (c a u : Rc) : R Rc := do
  let v ← times a u
  let up ← minus c v
  let cv ← times c v
  let dn ← minus ⟨⟨1073741824, 1073741824⟩, ⟨0, 0⟩⟩ cv
  quotient up dn
theorem unit_ok {n : Int} : ∃ u, unit n = .ok u := (unit_good n).imp fun _ h => h.1
theorem unitFrom_ok {m : Nat} : ∀ {t : Nat} {x z : Rc}, x.ok = true → unitFrom m t x = .ok z → z.ok = true
  | 0, x, z, hx, h => by
    have : x = z := by injection h
    exact this ▸ hx
  | t + 1, x, z, hx, h => by
    unfold unitFrom at h
    split at h
    · obtain ⟨y, hy, hz⟩ := bind_ok h
      exact unitFrom_ok (times_ok hy) hz
    · exact unitFrom_ok hx h
theorem unit_okR {n : Int} {u : Rc} (h : unit n = .ok u) : u.ok = true := unitFrom_ok (by decide) h
end Go.Proofs.Ytpbbbfglecbceaa.En
