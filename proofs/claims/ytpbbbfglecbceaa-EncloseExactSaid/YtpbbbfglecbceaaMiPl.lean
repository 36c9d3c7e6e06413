/- Plain: what rectangles and two-ports enclose; two-ports that are joined either way round have something in common. -/
import Derived.Test.YtpbbbfglecbceaaOvPl
import Derived.Test.YtpbbbfglecbceaaHoPl
namespace Go.Proofs.Ytpbbbfglecbceaa.En
set_option linter.all false

/-- A number that a span encloses. -/
def Sp.has (s : Sp) (x : Rat) : Prop := (s.lo : Rat) ≤ x * 1073741824 ∧ x * 1073741824 ≤ (s.hi : Rat)
def Rc.has (r : Rc) (x y : Rat) : Prop := r.re.has x ∧ r.im.has y

theorem rat_le {a b : Int} (h : a ≤ b) : (a : Rat) ≤ (b : Rat) := Rat.intCast_le_intCast.2 h
theorem c30 : ((1073741824 : Int) : Rat) = 1073741824 := rfl
theorem corner_le {a b c d x y m : Rat} (h : a ≤ x) (h' : x ≤ b) (h2 : c ≤ y) (h3 : y ≤ d) (h4 : m ≤ a*c) (h5 : m ≤ a*d) (h6 : m ≤ b*c) (h7 : m ≤ b*d) : m ≤ x*y := by
  rcases Rat.le_total (a:=0) (b:=y) with hy | hy
  · have := Rat.mul_le_mul_of_nonneg_right h hy
    rcases Rat.le_total (a:=0) (b:=a) with ha | ha
    · have := Rat.mul_le_mul_of_nonneg_left h2 ha
      grind
    · have := Rat.mul_le_mul_of_nonneg_left h3 (c := -a) (by grind)
      grind
  · have := Rat.mul_le_mul_of_nonneg_right h' (c := -y) (by grind)
    rcases Rat.le_total (a:=0) (b:=b) with ha | ha
    · have := Rat.mul_le_mul_of_nonneg_left h2 ha
      grind
    · have := Rat.mul_le_mul_of_nonneg_left h3 (c := -b) (by grind)
      grind
theorem corner_ge {a b c d x y m : Rat} (h : a ≤ x) (h' : x ≤ b) (h2 : c ≤ y) (h3 : y ≤ d) (h4 : a*c ≤ m) (h5 : a*d ≤ m) (h6 : b*c ≤ m) (h7 : b*d ≤ m) : x*y ≤ m := by
  have := corner_le (a := a) (b := b) (c := -d) (d := -c) (x := x) (y := -y) (m := -m) h h' (by grind) (by grind) (by grind) (by grind) (by grind) (by grind)
  grind
theorem dn_rat {m a b : Int} (h : m ≤ dn a b) : (m : Rat) * 1073741824 ≤ (a : Rat) * (b : Rat) := by
  have : m * 1073741824 ≤ a * b := by unfold dn at h; omega
  have := rat_le this
  rw [Rat.intCast_mul, Rat.intCast_mul, c30] at this
  exact this
theorem up_rat {m a b : Int} (h : up a b ≤ m) : (a : Rat) * (b : Rat) ≤ (m : Rat) * 1073741824 := by
  have : a * b ≤ m * 1073741824 := by unfold up at h; omega
  have := rat_le this
  rw [Rat.intCast_mul, Rat.intCast_mul, c30] at this
  exact this

theorem add_has {s t u : Sp} {x y : Rat} (h : add s t = .ok u) (hx : s.has x) (hy : t.has y) : u.has (x + y) := by
  obtain ⟨rfl, -⟩ := span_eq h
  obtain ⟨a, b⟩ := hx
  obtain ⟨c, d⟩ := hy
  constructor
  · show ((s.lo + t.lo : Int) : Rat) ≤ _
    rw [Rat.intCast_add]; grind
  · show _ ≤ ((s.hi + t.hi : Int) : Rat)
    rw [Rat.intCast_add]; grind
theorem sub_has {s t u : Sp} {x y : Rat} (h : sub s t = .ok u) (hx : s.has x) (hy : t.has y) : u.has (x - y) := by
  obtain ⟨rfl, -⟩ := span_eq h
  obtain ⟨a, b⟩ := hx
  obtain ⟨c, d⟩ := hy
  constructor
  · show ((s.lo - t.hi : Int) : Rat) ≤ _
    rw [Rat.intCast_sub]; grind
  · show _ ≤ ((s.hi - t.lo : Int) : Rat)
    rw [Rat.intCast_sub]; grind
theorem mul_has {s t u : Sp} {x y : Rat} (hs : s.ok = true) (ht : t.ok = true) (h : mul s t = .ok u) (hx : s.has x) (hy : t.has y) : u.has (x * y) := by
  rw [mul_eq (Sp.fit_of_ok hs) (Sp.fit_of_ok ht)] at h
  obtain ⟨rfl, -⟩ := span_eq h
  obtain ⟨a, b⟩ := hx
  obtain ⟨c, d⟩ := hy
  constructor
  · have := corner_le a b c d (dn_rat (m := min (min (min (dn s.lo t.lo) (dn s.lo t.hi)) (dn s.hi t.lo)) (dn s.hi t.hi)) (by omega)) (dn_rat (by omega)) (dn_rat (by omega)) (dn_rat (by omega))
    dsimp only
    grind
  · have := corner_ge a b c d (up_rat (m := max (max (max (up s.lo t.lo) (up s.lo t.hi)) (up s.hi t.lo)) (up s.hi t.hi)) (by omega)) (up_rat (by omega)) (up_rat (by omega)) (up_rat (by omega))
    dsimp only
    grind
theorem sq_nonneg (x : Rat) : 0 ≤ x * x := by
  rcases Rat.le_total (a:=0) (b:=x) with h | h
  · exact Rat.mul_nonneg h h
  · have := Rat.mul_nonneg (a := -x) (b := -x) (by grind) (by grind)
    grind
theorem square_has {s u : Sp} {x : Rat} (hs : s.ok = true) (h : square s = .ok u) (hx : s.has x) : u.has (x * x) := by
  have hle := Sp.le_of_ok hs
  rw [square_eq (Sp.fit_of_ok hs)] at h
  obtain ⟨a, b⟩ := hx
  have hup : ∀ m : Int, up s.lo s.lo ≤ m → up s.hi s.hi ≤ m → x * 1073741824 * (x * 1073741824) ≤ (m : Rat) * 1073741824 := by
    intro m h1 h2
    have h3 := up_rat h1
    have h4 := up_rat h2
    rcases Rat.le_total (a:=0) (b:=x) with h0 | h0
    · have := Rat.mul_le_mul_of_nonneg_right b (c := x * 1073741824) (by grind)
      have := Rat.mul_le_mul_of_nonneg_left b (c := (s.hi : Rat)) (by grind)
      grind
    · have := Rat.mul_le_mul_of_nonneg_right a (c := -(x * 1073741824)) (by grind)
      have := Rat.mul_le_mul_of_nonneg_left a (c := -(s.lo : Rat)) (by grind)
      grind
  have hdn : ∀ m : Int, ¬ (s.lo ≤ 0 ∧ 0 ≤ s.hi) → m ≤ dn s.lo s.lo → m ≤ dn s.hi s.hi → (m : Rat) * 1073741824 ≤ x * 1073741824 * (x * 1073741824) := by
    intro m h0 h1 h2
    have h3 := dn_rat h1
    have h4 := dn_rat h2
    rcases Int.lt_or_le 0 s.lo with hp | hp
    · have hp' : (0 : Rat) ≤ (s.lo : Rat) := rat_le (a := 0) (by omega)
      have := Rat.mul_le_mul_of_nonneg_right a (c := x * 1073741824) (by grind)
      have := Rat.mul_le_mul_of_nonneg_left a (c := (s.lo : Rat)) (by grind)
      grind
    · have hp' : (s.hi : Rat) ≤ (0 : Rat) := rat_le (b := 0) (by omega)
      have := Rat.mul_le_mul_of_nonneg_right b (c := -(x * 1073741824)) (by grind)
      have := Rat.mul_le_mul_of_nonneg_left b (c := -(s.hi : Rat)) (by grind)
      grind
  split at h
  · obtain ⟨rfl, -⟩ := span_eq h
    have h1 := hup (max (up s.lo s.lo) (up s.hi s.hi)) (by omega) (by omega)
    have h2 := sq_nonneg x
    constructor
    · show ((0 : Int) : Rat) ≤ _
      have : ((0 : Int) : Rat) = 0 := rfl
      rw [this]
      grind
    · dsimp only
      grind
  · next hz =>
    obtain ⟨rfl, -⟩ := span_eq h
    have h1 := hup (max (up s.lo s.lo) (up s.hi s.hi)) (by omega) (by omega)
    have h2 := hdn (min (dn s.lo s.lo) (dn s.hi s.hi)) hz (by omega) (by omega)
    constructor
    · dsimp only
      grind
    · dsimp only
      grind

theorem ovr_iff {m a b : Int} (hb : 0 < b) (h1 : -1099511627776 ≤ m) (h2 : m ≤ 1099511627776) : m ≤ ovr a b ↔ m * b ≤ a * 1073741824 := by
  unfold ovr
  have hm1 : m * b ≤ 1099511627776 * b := Int.mul_le_mul_of_nonneg_right h2 (by omega)
  have hm2 : -1099511627776 * b ≤ m * b := Int.mul_le_mul_of_nonneg_right h1 (by omega)
  by_cases k1 : 2048 < a / b
  · rw [if_pos k1]
    have : 2049 * b ≤ a := (Int.le_ediv_iff_mul_le hb).1 (by omega)
    exact ⟨fun _ => by omega, fun _ => by omega⟩
  · rw [if_neg k1]
    by_cases k2 : a / b < -2048
    · rw [if_pos k2]
      have : a < -2048 * b := (Int.ediv_lt_iff_lt_mul hb).1 k2
      exact ⟨fun _ => by omega, fun _ => by omega⟩
    · rw [if_neg k2]
      exact Int.le_ediv_iff_mul_le hb
theorem div_has {s t u : Sp} {x y : Rat} (ht : 0 < t.lo) (htt : t.lo ≤ t.hi) (h : div s t = .ok u) (hx : s.has x) (hy : t.has y) : u.has (x / y) := by
  rw [div_eq ht htt] at h
  obtain ⟨rfl, hu⟩ := span_eq h
  have hf := Sp.fit_of_ok hu
  have hl := Sp.le_of_ok hu
  obtain ⟨f1, f2, f3, f4⟩ := hf
  dsimp only at f1 f2 f3 f4 hl
  obtain ⟨a, b⟩ := hx
  obtain ⟨c, d⟩ := hy
  have hc0 : (0 : Rat) < (t.lo : Rat) := by exact_mod_cast ht
  have hy0 : 0 < y := by grind
  generalize hm : min (min (min (ovr s.lo t.lo) (ovr s.lo t.hi)) (ovr s.hi t.lo)) (ovr s.hi t.hi) = m at *
  generalize hM : max (max (max (ovu s.lo t.lo) (ovu s.lo t.hi)) (ovu s.hi t.lo)) (ovu s.hi t.hi) = M at *
  have e1 : m * t.lo ≤ s.lo * 1073741824 := (ovr_iff ht f1 (by omega)).1 (by omega)
  have e2 : m * t.hi ≤ s.lo * 1073741824 := (ovr_iff (by omega) f1 (by omega)).1 (by omega)
  have e3 : -M * t.lo ≤ -s.hi * 1073741824 := (ovr_iff ht (by omega) (by omega)).1 (by unfold ovu at hM; omega)
  have e4 : -M * t.hi ≤ -s.hi * 1073741824 := (ovr_iff (by omega) (by omega) (by omega)).1 (by unfold ovu at hM; omega)
  have r1 : (m : Rat) * (t.lo : Rat) ≤ (s.lo : Rat) * 1073741824 := by have := rat_le e1; rw [Rat.intCast_mul, Rat.intCast_mul, c30] at this; exact this
  have r2 : (m : Rat) * (t.hi : Rat) ≤ (s.lo : Rat) * 1073741824 := by have := rat_le e2; rw [Rat.intCast_mul, Rat.intCast_mul, c30] at this; exact this
  have r3 : -(M : Rat) * (t.lo : Rat) ≤ -(s.hi : Rat) * 1073741824 := by have := rat_le e3; rw [Rat.intCast_mul, Rat.intCast_mul, Rat.intCast_neg, Rat.intCast_neg, c30] at this; exact this
  have r4 : -(M : Rat) * (t.hi : Rat) ≤ -(s.hi : Rat) * 1073741824 := by have := rat_le e4; rw [Rat.intCast_mul, Rat.intCast_mul, Rat.intCast_neg, Rat.intCast_neg, c30] at this; exact this
  have key : ∀ n q : Rat, n * (t.lo : Rat) ≤ q → n * (t.hi : Rat) ≤ q → n * (y * 1073741824) ≤ q := by
    intro n q h1 h2
    rcases Rat.le_total (a:=0) (b:=n) with h0 | h0
    · have := Rat.mul_le_mul_of_nonneg_left d h0
      grind
    · have := Rat.mul_le_mul_of_nonneg_left c (c := -n) (by grind)
      grind
  have k1 := key (m : Rat) _ r1 r2
  have k2 := key (-(M : Rat)) _ r3 r4
  have hxy : x / y * y = x := by grind
  have div_le : ∀ n q : Rat, n * y ≤ q * y → n ≤ q := by
    intro n q hh
    rcases Rat.le_total (a := n) (b := q) with h | h
    · exact h
    · have h5 := Rat.mul_le_mul_of_nonneg_right h (c := y) (by grind)
      have h6 : (n - q) * y = 0 := by grind
      have : n - q = 0 := by grind
      grind
  constructor
  · refine div_le _ _ ?_
    show (m : Rat) * y ≤ _
    grind
  · refine div_le _ _ ?_
    show _ ≤ (M : Rat) * y
    grind

/-- A complex number. -/
structure Cx where
  re : Rat
  im : Rat
def Cx.add (x y : Cx) : Cx := ⟨x.re + y.re, x.im + y.im⟩
def Cx.sub (x y : Cx) : Cx := ⟨x.re - y.re, x.im - y.im⟩
def Cx.mul (x y : Cx) : Cx := ⟨x.re * y.re - x.im * y.im, x.re * y.im + x.im * y.re⟩
def Cx.div (x y : Cx) : Cx := ⟨(x.re * y.re + x.im * y.im) / (y.re * y.re + y.im * y.im), (x.im * y.re - x.re * y.im) / (y.re * y.re + y.im * y.im)⟩
def Rc.enc (r : Rc) (x : Cx) : Prop := r.re.has x.re ∧ r.im.has x.im

theorem plus_enc {x y z : Rc} {p q : Cx} (h : plus x y = .ok z) (hx : x.enc p) (hy : y.enc q) : z.enc (p.add q) := by
  obtain ⟨a, ha, h⟩ := bind_ok h
  obtain ⟨b, hb, h⟩ := bind_ok h
  cases h
  exact ⟨add_has ha hx.1 hy.1, add_has hb hx.2 hy.2⟩
theorem minus_enc {x y z : Rc} {p q : Cx} (h : minus x y = .ok z) (hx : x.enc p) (hy : y.enc q) : z.enc (p.sub q) := by
  obtain ⟨a, ha, h⟩ := bind_ok h
  obtain ⟨b, hb, h⟩ := bind_ok h
  cases h
  exact ⟨sub_has ha hx.1 hy.1, sub_has hb hx.2 hy.2⟩
theorem times_enc {x y z : Rc} {p q : Cx} (kx : x.ok = true) (ky : y.ok = true) (h : times x y = .ok z) (hx : x.enc p) (hy : y.enc q) : z.enc (p.mul q) := by
  obtain ⟨kx1, kx2⟩ := ok_parts kx
  obtain ⟨ky1, ky2⟩ := ok_parts ky
  obtain ⟨a, ha, h⟩ := bind_ok h
  obtain ⟨b, hb, h⟩ := bind_ok h
  obtain ⟨c, hc, h⟩ := bind_ok h
  obtain ⟨d, hd, h⟩ := bind_ok h
  obtain ⟨e, he, h⟩ := bind_ok h
  obtain ⟨f, hf, h⟩ := bind_ok h
  cases h
  exact ⟨sub_has hc (mul_has kx1 ky1 ha hx.1 hy.1) (mul_has kx2 ky2 hb hx.2 hy.2), add_has hf (mul_has kx1 ky2 hd hx.1 hy.2) (mul_has kx2 ky1 he hx.2 hy.1)⟩
theorem power_has {x : Rc} {s : Sp} {p : Cx} (kx : x.ok = true) (h : power x = .ok s) (hx : x.enc p) : s.has (p.re * p.re + p.im * p.im) := by
  obtain ⟨kx1, kx2⟩ := ok_parts kx
  obtain ⟨a, ha, h⟩ := bind_ok h
  obtain ⟨b, hb, h⟩ := bind_ok h
  exact add_has h (square_has kx1 ha hx.1) (square_has kx2 hb hx.2)
theorem conj_okS {x : Rc} (h : x.ok = true) : (conj x).ok = true := by
  obtain ⟨h1, h2⟩ := ok_parts h
  refine Rc.ok_mk h1 ?_
  simp only [Sp.ok, okS, Bool.and_eq_true, decide_eq_true_eq] at h2 ⊢
  omega
theorem quotient_enc {x y z : Rc} {p q : Cx} (kx : x.ok = true) (ky : y.ok = true) (h : quotient x y = .ok z) (hx : x.enc p) (hy : y.enc q) : z.enc (p.div q) := by
  obtain ⟨s, hs, h⟩ := bind_ok h
  split at h
  · cases h
  · next h0 =>
    obtain ⟨u, hu, h⟩ := bind_ok h
    obtain ⟨a, ha, h⟩ := bind_ok h
    obtain ⟨b, hb, h⟩ := bind_ok h
    cases h
    have hP := power_has ky hs hy
    have hc : (conj y).enc ⟨q.re, -q.im⟩ := by
      obtain ⟨h1, h2, h3⟩ := hy
      refine ⟨h1, ?_, ?_⟩
      · show ((-y.im.hi : Int) : Rat) ≤ _
        rw [Rat.intCast_neg]; dsimp only; grind
      · show _ ≤ ((-y.im.lo : Int) : Rat)
        rw [Rat.intCast_neg]; dsimp only; grind
    obtain ⟨z1, z2⟩ := times_enc kx (conj_okS ky) hu hx hc
    have hle := Sp.le_of_ok (power_ok hs)
    have w1 := div_has (by omega) hle ha z1 hP
    have w2 := div_has (by omega) hle hb z2 hP
    refine ⟨?_, ?_⟩
    · have e : (p.div q).re = (p.mul ⟨q.re, -q.im⟩).re / (q.re * q.re + q.im * q.im) := by
        show _ / _ = _ / _
        congr 1
        show _ = p.re * q.re - p.im * -q.im
        grind
      rw [e]; exact w1
    · have e : (p.div q).im = (p.mul ⟨q.re, -q.im⟩).im / (q.re * q.re + q.im * q.im) := by
        show _ / _ = _ / _
        congr 1
        show _ = p.re * -q.im + p.im * q.re
        grind
      rw [e]; exact w2

def oneR : Rc := ⟨one, ⟨0, 0⟩⟩
/-- Port 1 of p joined with port 0 of q. -/
def star (p q : Pt) : R Pt := do
  let m ← times p.s11 q.s00
  let d ← minus oneR m
  let a ← times p.s01 q.s00
  let b ← times a p.s10
  let r ← quotient b d
  let o00 ← plus p.s00 r
  let c ← times p.s01 q.s01
  let o01 ← quotient c d
  let e ← times q.s10 p.s10
  let o10 ← quotient e d
  let f ← times q.s10 p.s11
  let g ← times f q.s01
  let r' ← quotient g d
  let o11 ← plus q.s11 r'
  pure ⟨o00, o01, o10, o11⟩
def mir (p : Pt) : Pt := ⟨p.s11, p.s10, p.s01, p.s00⟩
/-- What a two-port encloses. -/
structure Cp where
  s00 : Cx
  s01 : Cx
  s10 : Cx
  s11 : Cx
structure Pt.enc (p : Pt) (c : Cp) : Prop where
  s00 : p.s00.enc c.s00
  s01 : p.s01.enc c.s01
  s10 : p.s10.enc c.s10
  s11 : p.s11.enc c.s11
def Cx.one : Cx := ⟨1, 0⟩
def Cp.star (p q : Cp) : Cp :=
  ⟨p.s00.add (((p.s01.mul q.s00).mul p.s10).div (Cx.one.sub (p.s11.mul q.s00))), (p.s01.mul q.s01).div (Cx.one.sub (p.s11.mul q.s00)),
   (q.s10.mul p.s10).div (Cx.one.sub (p.s11.mul q.s00)), q.s11.add (((q.s10.mul p.s11).mul q.s01).div (Cx.one.sub (p.s11.mul q.s00)))⟩
def Cp.mir (p : Cp) : Cp := ⟨p.s11, p.s10, p.s01, p.s00⟩
theorem c00 : ((0 : Int) : Rat) = 0 := rfl
theorem one_has : one.has 1 := by unfold Sp.has one; rw [c30]; grind
theorem zero_has : (⟨0, 0⟩ : Sp).has 0 := by unfold Sp.has; rw [c00]; grind
theorem oneR_enc : oneR.enc Cx.one := ⟨one_has, zero_has⟩
def ptOkB (p : Pt) : Bool := p.s00.ok && p.s01.ok && p.s10.ok && p.s11.ok
structure Pt.Ok (p : Pt) : Prop where
  s00 : p.s00.ok = true
  s01 : p.s01.ok = true
  s10 : p.s10.ok = true
  s11 : p.s11.ok = true
theorem star_enc {p q o : Pt} {u v : Cp} (kp : p.Ok) (kq : q.Ok) (h : star p q = .ok o) (hp : p.enc u) (hq : q.enc v) : o.enc (u.star v) := by
  obtain ⟨m, hm, h⟩ := bind_ok h
  obtain ⟨d, hd, h⟩ := bind_ok h
  obtain ⟨a, ha, h⟩ := bind_ok h
  obtain ⟨b, hb, h⟩ := bind_ok h
  obtain ⟨r, hr, h⟩ := bind_ok h
  obtain ⟨o0, h0, h⟩ := bind_ok h
  obtain ⟨c, hc, h⟩ := bind_ok h
  obtain ⟨o1, h1, h⟩ := bind_ok h
  obtain ⟨e, he, h⟩ := bind_ok h
  obtain ⟨o2, h2, h⟩ := bind_ok h
  obtain ⟨f, hf, h⟩ := bind_ok h
  obtain ⟨g, hg, h⟩ := bind_ok h
  obtain ⟨r', hr', h⟩ := bind_ok h
  obtain ⟨o3, h3, h⟩ := bind_ok h
  cases h
  have em := times_enc kp.s11 kq.s00 hm hp.s11 hq.s00
  have ed := minus_enc hd oneR_enc em
  have kd := minus_ok hd
  have ea := times_enc kp.s01 kq.s00 ha hp.s01 hq.s00
  have eb := times_enc (times_ok ha) kp.s10 hb ea hp.s10
  have er := quotient_enc (times_ok hb) kd hr eb ed
  have e0 := plus_enc h0 hp.s00 er
  have ec := times_enc kp.s01 kq.s01 hc hp.s01 hq.s01
  have e1 := quotient_enc (times_ok hc) kd h1 ec ed
  have ee := times_enc kq.s10 kp.s10 he hq.s10 hp.s10
  have e2 := quotient_enc (times_ok he) kd h2 ee ed
  have ef := times_enc kq.s10 kp.s11 hf hq.s10 hp.s11
  have eg := times_enc (times_ok hf) kq.s01 hg ef hq.s01
  have er' := quotient_enc (times_ok hg) kd hr' eg ed
  have e3 := plus_enc h3 hq.s11 er'
  exact ⟨e0, e1, e2, e3⟩
theorem star_ok {p q o : Pt} (h : star p q = .ok o) : o.Ok := by
  obtain ⟨m, hm, h⟩ := bind_ok h
  obtain ⟨d, hd, h⟩ := bind_ok h
  obtain ⟨a, ha, h⟩ := bind_ok h
  obtain ⟨b, hb, h⟩ := bind_ok h
  obtain ⟨r, hr, h⟩ := bind_ok h
  obtain ⟨o0, h0, h⟩ := bind_ok h
  obtain ⟨c, hc, h⟩ := bind_ok h
  obtain ⟨o1, h1, h⟩ := bind_ok h
  obtain ⟨e, he, h⟩ := bind_ok h
  obtain ⟨o2, h2, h⟩ := bind_ok h
  obtain ⟨f, hf, h⟩ := bind_ok h
  obtain ⟨g, hg, h⟩ := bind_ok h
  obtain ⟨r', hr', h⟩ := bind_ok h
  obtain ⟨o3, h3, h⟩ := bind_ok h
  cases h
  exact ⟨plus_ok h0, quotient_ok h1, quotient_ok h2, plus_ok h3⟩

theorem Cx.mul_comm (x y : Cx) : x.mul y = y.mul x := by
  unfold Cx.mul; congr 1 <;> grind
theorem Cx.mul_assoc (x y z : Cx) : (x.mul y).mul z = x.mul (y.mul z) := by
  unfold Cx.mul; dsimp only; congr 1 <;> grind
theorem Cp.star_mir (u v : Cp) : (v.mir.star u.mir).mir = u.star v := by
  unfold Cp.star Cp.mir
  dsimp only
  rw [Cx.mul_comm v.s00 u.s11]

/-- A number that both enclose. -/
theorem sp_meet {s t : Sp} {x : Rat} (hs : s.ok = true) (ht : t.ok = true) (h1 : s.has x) (h2 : t.has x) : (⟨max s.lo t.lo, min s.hi t.hi⟩ : Sp).ok = true := by
  have a := Sp.fit_of_ok hs
  have b := Sp.fit_of_ok ht
  have c := Sp.le_of_ok hs
  have d := Sp.le_of_ok ht
  have e : s.lo ≤ t.hi := by
    have : (s.lo : Rat) ≤ (t.hi : Rat) := by obtain ⟨p, -⟩ := h1; obtain ⟨-, q⟩ := h2; grind
    exact_mod_cast this
  have f : t.lo ≤ s.hi := by
    have : (t.lo : Rat) ≤ (s.hi : Rat) := by obtain ⟨-, p⟩ := h1; obtain ⟨q, -⟩ := h2; grind
    exact_mod_cast this
  obtain ⟨a1, a2, a3, a4⟩ := a
  obtain ⟨b1, b2, b3, b4⟩ := b
  simp only [Sp.ok, okS, Bool.and_eq_true, decide_eq_true_eq]
  omega
def capRc (x y : Rc) : Rc := ⟨⟨max x.re.lo y.re.lo, min x.re.hi y.re.hi⟩, ⟨max x.im.lo y.im.lo, min x.im.hi y.im.hi⟩⟩
theorem rc_meet {x y : Rc} {p : Cx} (hx : x.ok = true) (hy : y.ok = true) (h1 : x.enc p) (h2 : y.enc p) : (capRc x y).ok = true :=
  Rc.ok_mk (sp_meet (ok_parts hx).1 (ok_parts hy).1 h1.1 h2.1) (sp_meet (ok_parts hx).2 (ok_parts hy).2 h1.2 h2.2)

theorem sp_lo {s : Sp} (h : s.ok = true) : s.has ((s.lo : Rat) / 1073741824) := by
  have := rat_le (Sp.le_of_ok h)
  unfold Sp.has
  grind
theorem sp_hi {s : Sp} (h : s.ok = true) : s.has ((s.hi : Rat) / 1073741824) := by
  have := rat_le (Sp.le_of_ok h)
  unfold Sp.has
  grind
def Rc.c0 (r : Rc) : Cx := ⟨(r.re.lo : Rat) / 1073741824, (r.im.lo : Rat) / 1073741824⟩
def Rc.c1 (r : Rc) : Cx := ⟨(r.re.hi : Rat) / 1073741824, (r.im.hi : Rat) / 1073741824⟩
def Pt.c0 (p : Pt) : Cp := ⟨p.s00.c0, p.s01.c0, p.s10.c0, p.s11.c0⟩
def Pt.c1 (p : Pt) : Cp := ⟨p.s00.c1, p.s01.c1, p.s10.c1, p.s11.c1⟩
theorem rc_c0 {r : Rc} (h : r.ok = true) : r.enc r.c0 := ⟨sp_lo (ok_parts h).1, sp_lo (ok_parts h).2⟩
theorem rc_c1 {r : Rc} (h : r.ok = true) : r.enc r.c1 := ⟨sp_hi (ok_parts h).1, sp_hi (ok_parts h).2⟩
theorem pt_c0 {p : Pt} (h : p.Ok) : p.enc p.c0 := ⟨rc_c0 h.s00, rc_c0 h.s01, rc_c0 h.s10, rc_c0 h.s11⟩
theorem pt_c1 {p : Pt} (h : p.Ok) : p.enc p.c1 := ⟨rc_c1 h.s00, rc_c1 h.s01, rc_c1 h.s10, rc_c1 h.s11⟩

/-- Joined either way round, two-ports have something in common. -/
theorem stars_meet {p q j t : Pt} (kp : p.Ok) (kq : q.Ok) (hj : star p q = .ok j) (ht : star (mir q) (mir p) = .ok t) :
    (capRc j.s00 t.s11).ok = true ∧ (capRc j.s01 t.s10).ok = true ∧ (capRc j.s10 t.s01).ok = true ∧ (capRc j.s11 t.s00).ok = true := by
  have e1 := star_enc kp kq hj (pt_c0 kp) (pt_c0 kq)
  have e2 := star_enc (p := mir q) (q := mir p) (u := q.c0.mir) (v := p.c0.mir) ⟨kq.s11, kq.s10, kq.s01, kq.s00⟩ ⟨kp.s11, kp.s10, kp.s01, kp.s00⟩ ht
    ⟨rc_c0 kq.s11, rc_c0 kq.s10, rc_c0 kq.s01, rc_c0 kq.s00⟩ ⟨rc_c0 kp.s11, rc_c0 kp.s10, rc_c0 kp.s01, rc_c0 kp.s00⟩
  have e3 := Cp.star_mir p.c0 q.c0
  rw [← e3] at e1
  have k1 := star_ok hj
  have k2 := star_ok ht
  exact ⟨rc_meet k1.s00 k2.s11 e1.s00 e2.s11, rc_meet k1.s01 k2.s10 e1.s01 e2.s10, rc_meet k1.s10 k2.s01 e1.s10 e2.s01, rc_meet k1.s11 k2.s00 e1.s11 e2.s00⟩

def zeroR : Rc := ⟨⟨0, 0⟩, ⟨0, 0⟩⟩
def thru : Pt := ⟨zeroR, oneR, oneR, zeroR⟩
def Cx.zero : Cx := ⟨0, 0⟩
theorem zeroR_enc : zeroR.enc Cx.zero := ⟨zero_has, zero_has⟩
theorem thru_ok : thru.Ok := ⟨by decide, by decide, by decide, by decide⟩
theorem star_thru (u : Cp) : u.star ⟨Cx.zero, Cx.one, Cx.one, Cx.zero⟩ = u := by
  have e : ∀ x : Cx, x.div (Cx.one.sub (u.s11.mul Cx.zero)) = x := by
    intro x
    obtain ⟨a, b⟩ := x
    unfold Cx.div Cx.sub Cx.mul Cx.one Cx.zero
    dsimp only
    congr 1 <;> grind
  unfold Cp.star
  dsimp only
  rw [e, e, e, e]
  obtain ⟨⟨a, b⟩, ⟨c, d⟩, ⟨f, g⟩, ⟨h, i⟩⟩ := u
  unfold Cx.add Cx.mul Cx.one Cx.zero
  dsimp only
  congr 1 <;> congr 1 <;> grind
theorem sp_within {s t : Sp} (h1 : t.has ((s.lo : Rat) / 1073741824)) (h2 : t.has ((s.hi : Rat) / 1073741824)) : Sub s t := by
  obtain ⟨a, -⟩ := h1
  obtain ⟨-, b⟩ := h2
  have a' : (t.lo : Rat) ≤ (s.lo : Rat) := by grind
  have b' : (s.hi : Rat) ≤ (t.hi : Rat) := by grind
  exact ⟨by exact_mod_cast a', by exact_mod_cast b'⟩
/-- A two-port that lets all through widens at most. -/
theorem star_thru_in {p o : Pt} (kp : p.Ok) (h : star p thru = .ok o) :
    (Sub p.s00.re o.s00.re ∧ Sub p.s00.im o.s00.im) ∧ (Sub p.s01.re o.s01.re ∧ Sub p.s01.im o.s01.im) ∧ (Sub p.s10.re o.s10.re ∧ Sub p.s10.im o.s10.im) ∧ (Sub p.s11.re o.s11.re ∧ Sub p.s11.im o.s11.im) := by
  have ht : thru.enc ⟨Cx.zero, Cx.one, Cx.one, Cx.zero⟩ := ⟨zeroR_enc, oneR_enc, oneR_enc, zeroR_enc⟩
  have e1 := star_enc kp thru_ok h (pt_c0 kp) ht
  have e2 := star_enc kp thru_ok h (pt_c1 kp) ht
  rw [star_thru] at e1 e2
  exact ⟨⟨sp_within e1.s00.1 e2.s00.1, sp_within e1.s00.2 e2.s00.2⟩, ⟨sp_within e1.s01.1 e2.s01.1, sp_within e1.s01.2 e2.s01.2⟩, ⟨sp_within e1.s10.1 e2.s10.1, sp_within e1.s10.2 e2.s10.2⟩, ⟨sp_within e1.s11.1 e2.s11.1, sp_within e1.s11.2 e2.s11.2⟩⟩
end Go.Proofs.Ytpbbbfglecbceaa.En
