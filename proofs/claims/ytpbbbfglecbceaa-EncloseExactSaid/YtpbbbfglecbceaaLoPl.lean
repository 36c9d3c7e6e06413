/- Plain: a ring that loses all; a ring that loses, or couples, a tenth. -/
import Derived.Test.YtpbbbfglecbceaaRgPl
import Derived.Test.YtpbbbfglecbceaaOvPl
namespace Go.Proofs.Ytpbbbfglecbceaa.En
set_option linter.all false

/-- No error but that of the range. -/
def o4 {α : Type} (r : R α) : Prop := ∀ c, r = .error c → c = 4
theorem o4_span (l h : Int) : o4 (span l h) := by
  intro c hc
  unfold span at hc
  split at hc
  · cases hc
  · injection hc with hc; exact hc.symm
theorem o4_pure {α : Type} (v : α) : o4 (Pure.pure v : R α) := by intro c hc; cases hc
theorem o4_bind {α β : Type} {r : R α} {f : α → R β} (hr : o4 r) (hf : ∀ v, r = .ok v → o4 (f v)) : o4 (r >>= f) := by
  intro c hc
  cases h : r with
  | error d => rw [h] at hc; have : d = c := by injection hc
               exact this ▸ hr d h
  | ok v => rw [h] at hc; exact hf v h c hc
theorem o4_times (x y : Rc) : o4 (times x y) :=
  o4_bind (o4_span _ _) fun _ _ => o4_bind (o4_span _ _) fun _ _ => o4_bind (o4_span _ _) fun _ _ => o4_bind (o4_span _ _) fun _ _ => o4_bind (o4_span _ _) fun _ _ => o4_bind (o4_span _ _) fun _ _ => o4_pure _
theorem o4_minus (x y : Rc) : o4 (minus x y) := o4_bind (o4_span _ _) fun _ _ => o4_bind (o4_span _ _) fun _ _ => o4_pure _
theorem o4_square (s : Sp) : o4 (square s) := o4_bind (o4_span _ _) fun _ _ => o4_pure _
theorem o4_power (x : Rc) : o4 (power x) := o4_bind (o4_square _) fun _ _ => o4_bind (o4_square _) fun _ _ => o4_span _ _
theorem o4_div (s t : Sp) (h : 0 < t.lo) : o4 (div s t) := by
  unfold div
  rw [if_neg (by omega)]
  exact o4_span _ _
theorem o4_quotient (x y : Rc) (h : ∀ p, power y = .ok p → 0 < p.lo) : o4 (quotient x y) := by
  refine o4_bind (o4_power y) fun p hp => ?_
  have hp0 := h p hp
  rw [if_neg (by omega)]
  exact o4_bind (o4_times _ _) fun z _ => o4_bind (o4_div _ _ hp0) fun _ _ => o4_bind (o4_div _ _ hp0) fun _ _ => o4_pure _

theorem up_le_of {a b m n : Int} (h1 : -m ≤ a) (h2 : a ≤ m) (h3 : -n ≤ b) (h4 : b ≤ n) : -(m * n / 1073741824) - 1 ≤ dn a b ∧ up a b ≤ m * n / 1073741824 + 1 := by
  have h := abs_mul_le h1 h2 h3 h4
  rw [abs_mul_abs] at h
  obtain ⟨k1, k2⟩ := le_of_abs h
  unfold dn up
  omega
/-- Bounds of a product. -/
theorem mul_bound {s t r : Sp} {m n : Int} (hs : s.fit) (ht : t.fit) (h1 : -m ≤ s.lo) (h2 : s.lo ≤ m) (h3 : -m ≤ s.hi) (h4 : s.hi ≤ m) (k1 : -n ≤ t.lo) (k2 : t.lo ≤ n) (k3 : -n ≤ t.hi) (k4 : t.hi ≤ n)
    (h : mul s t = .ok r) : -(m * n / 1073741824) - 1 ≤ r.lo ∧ r.hi ≤ m * n / 1073741824 + 1 := by
  rw [mul_eq hs ht] at h
  obtain ⟨rfl, -⟩ := span_eq h
  have a := up_le_of h1 h2 k1 k2
  have b := up_le_of h1 h2 k3 k4
  have c := up_le_of h3 h4 k1 k2
  have d := up_le_of h3 h4 k3 k4
  dsimp only
  omega
theorem mul_zero_l {t : Sp} (ht : t.fit) : mul ⟨0, 0⟩ t = .ok ⟨0, 0⟩ := by
  rw [mul_eq ⟨by decide, by decide, by decide, by decide⟩ ht]
  simp only [dn, up, Int.zero_mul]
  rfl
theorem mul_zero_r {s : Sp} (hs : s.fit) : mul s ⟨0, 0⟩ = .ok ⟨0, 0⟩ := by
  rw [mul_eq hs ⟨by decide, by decide, by decide, by decide⟩]
  simp only [dn, up, Int.mul_zero]
  rfl
theorem sub_zero {s : Sp} (hs : s.ok = true) : sub s ⟨0, 0⟩ = .ok s := by
  unfold sub span
  simp only [Int.sub_zero]
  exact if_pos hs
abbrev oneS : Sp := ⟨1073741824, 1073741824⟩
abbrev zS : Sp := ⟨0, 0⟩
theorem zfit : zS.fit := ⟨by decide, by decide, by decide, by decide⟩
theorem ofit : oneS.fit := ⟨by decide, by decide, by decide, by decide⟩
theorem mul_one {s : Sp} (hs : s.ok = true) : mul s oneS = .ok s := by
  have hl := Sp.le_of_ok hs
  rw [mul_eq (Sp.fit_of_ok hs) ofit]
  have e1 : ∀ a : Int, dn a 1073741824 = a := fun a => by unfold dn; omega
  have e2 : ∀ a : Int, up a 1073741824 = a := fun a => by unfold up; omega
  simp only [e1, e2]
  rw [show min (min (min s.lo s.lo) s.hi) s.hi = s.lo by omega, show max (max (max s.lo s.lo) s.hi) s.hi = s.hi by omega]
  exact if_pos hs
theorem div_one {s : Sp} (hs : s.ok = true) : div s oneS = .ok s := by
  have hl := Sp.le_of_ok hs
  have hf := Sp.fit_of_ok hs
  have e1 : ∀ a : Int, -1099511627776 ≤ a → a ≤ 1099511627776 → ovr a 1073741824 = a := fun a h1 h2 => by
    unfold ovr
    rw [if_neg (by omega), if_neg (by omega)]
    omega
  rw [div_eq (by decide) (by decide)]
  simp only [ovu]
  rw [e1 _ hf.a hf.b, e1 _ hf.c hf.d, e1 _ (by have := hf.b; omega) (by have := hf.a; omega), e1 _ (by have := hf.d; omega) (by have := hf.c; omega)]
  rw [show min (min (min s.lo s.lo) s.hi) s.hi = s.lo by omega, show max (max (max (- -s.lo) (- -s.lo)) (- -s.hi)) (- -s.hi) = s.hi by omega]
  exact if_pos hs

/-- A ring that loses all lets its coupling through. -/
theorem ring_zero {s : Sp} {u : Rc} (hs : s.ok = true) (hu : u.ok = true) : ringCore ⟨s, zS⟩ ⟨zS, zS⟩ u = .ok ⟨s, zS⟩ := by
  have fs := Sp.fit_of_ok hs
  have fu := Rc.fit_of_ok hu
  have t1 : times ⟨zS, zS⟩ u = .ok ⟨zS, zS⟩ := by
    unfold times
    simp only [mul_zero_l fu.re, mul_zero_l fu.im]
    rfl
  have t2 : minus ⟨s, zS⟩ ⟨zS, zS⟩ = .ok ⟨s, zS⟩ := by
    unfold minus
    simp only [sub_zero hs]
    rfl
  have t3 : times ⟨s, zS⟩ ⟨zS, zS⟩ = .ok ⟨zS, zS⟩ := by
    unfold times
    simp only [mul_zero_r fs, mul_zero_r zfit]
    rfl
  have t4 : minus ⟨oneS, zS⟩ ⟨zS, zS⟩ = .ok ⟨oneS, zS⟩ := rfl
  have t5 : times ⟨s, zS⟩ ⟨oneS, zS⟩ = .ok ⟨s, zS⟩ := by
    unfold times
    simp only [mul_one hs, mul_zero_r zfit, mul_zero_r fs, mul_zero_l ofit]
    show (sub s zS >>= fun re => _) = _
    rw [sub_zero hs]
    rfl
  have t6 : quotient ⟨s, zS⟩ ⟨oneS, zS⟩ = .ok ⟨s, zS⟩ := by
    have hp : power ⟨oneS, zS⟩ = .ok oneS := by kernel_rfl
    unfold quotient
    rw [hp]
    show (if oneS.lo ≤ 0 then (Except.error 51 : R Rc) else times ⟨s, zS⟩ ⟨oneS, zS⟩ >>= fun z => div z.re oneS >>= fun a => div z.im oneS >>= fun b => Pure.pure ⟨a, b⟩) = _
    rw [if_neg (by decide), t5]
    show (div s oneS >>= fun a => div zS oneS >>= fun b => _) = _
    rw [div_one hs, div_one (by decide)]
    rfl
  unfold ringCore
  rw [t1]
  show (minus ⟨s, zS⟩ ⟨zS, zS⟩ >>= fun up => times ⟨s, zS⟩ ⟨zS, zS⟩ >>= fun cv => minus ⟨oneS, zS⟩ cv >>= fun dn => quotient up dn) = _
  rw [t2, t3]
  show (minus ⟨oneS, zS⟩ ⟨zS, zS⟩ >>= fun dn => quotient ⟨s, zS⟩ dn) = _
  rw [t4]
  exact t6


theorem sq_le' {a b : Int} (h0 : 0 ≤ a) (h : a ≤ b) : a * a ≤ b * b := Int.mul_le_mul h h h0 (by omega)
theorem power_pos {y : Rc} {p : Sp} (hy : y.ok = true) (h : 65536 ≤ y.re.lo) (hp : power y = .ok p) : 0 < p.lo := by
  have fy := Rc.fit_of_ok hy
  have hre : y.re.lo ≤ y.re.hi := by
    have := hy
    simp only [Rc.ok, Bool.and_eq_true] at this
    exact Sp.le_of_ok this.1
  obtain ⟨a, ha, hp⟩ := bind_ok hp
  obtain ⟨b, hb, hp⟩ := bind_ok hp
  obtain ⟨rfl, -⟩ := span_eq hp
  rw [square_eq fy.re, if_neg (by omega)] at ha
  obtain ⟨rfl, -⟩ := span_eq ha
  have hb0 : 0 ≤ b.lo := by
    rw [square_eq fy.im] at hb
    split at hb
    · obtain ⟨rfl, -⟩ := span_eq hb
      exact Int.le_refl 0
    · obtain ⟨rfl, -⟩ := span_eq hb
      have := dn_self_nonneg y.im.lo
      have := dn_self_nonneg y.im.hi
      dsimp only
      omega
  have s1 := sq_le' (a := 65536) (b := y.re.lo) (by omega) h
  have s2 := sq_le' (a := 65536) (b := y.re.hi) (by omega) (by omega)
  have d1 : 1 ≤ dn y.re.lo y.re.lo := by unfold dn; omega
  have d2 : 1 ≤ dn y.re.hi y.re.hi := by unfold dn; omega
  dsimp only
  omega

/-- A ring whose coupling times what it keeps is at most 0.9 and a little. -/
theorem ring_o4 {pc pa : Sp} {u : Rc} {C A : Int} (hc : pc.ok = true) (ha : pa.ok = true) (hu : u.ok = true) (c0 : 0 ≤ pc.lo) (c1 : pc.hi ≤ C) (a0 : 0 ≤ pa.lo) (a1 : pa.hi ≤ A)
    (u1 : -1073742824 ≤ u.re.lo) (u2 : u.re.hi ≤ 1073742824) (hCA : C * (A * 1073742824 / 1073741824 + 1) / 1073741824 ≤ 1000000000) (hC : 0 ≤ C) (hA : 0 ≤ A) : o4 (ringCore ⟨pc, zS⟩ ⟨pa, zS⟩ u) := by
  have fc := Sp.fit_of_ok hc
  have fa := Sp.fit_of_ok ha
  have fu := Rc.fit_of_ok hu
  have lc := Sp.le_of_ok hc
  have la := Sp.le_of_ok ha
  have lu : u.re.lo ≤ u.re.hi := by
    have := hu
    simp only [Rc.ok, Bool.and_eq_true] at this
    exact Sp.le_of_ok this.1
  refine o4_bind (o4_times _ _) fun v hv => ?_
  refine o4_bind (o4_minus _ _) fun up _ => ?_
  refine o4_bind (o4_times _ _) fun cv hcv => ?_
  refine o4_bind (o4_minus _ _) fun dn' hdn => ?_
  refine o4_quotient _ _ fun p hp => ?_
  refine power_pos (minus_ok hdn) ?_ hp
  have okv := times_ok hv
  have fv := Rc.fit_of_ok okv
  obtain ⟨m, hm, hv⟩ := bind_ok hv
  obtain ⟨m2, hm2, hv⟩ := bind_ok hv
  obtain ⟨re, hre, hv⟩ := bind_ok hv
  obtain ⟨x1, -, hv⟩ := bind_ok hv
  obtain ⟨x2, -, hv⟩ := bind_ok hv
  obtain ⟨x3, -, hv⟩ := bind_ok hv
  have e1 : v.re = re := by injection hv with hv; rw [← hv]
  rw [mul_zero_l fu.im] at hm2
  obtain rfl : zS = m2 := by injection hm2
  obtain ⟨rfl, -⟩ := span_eq hre
  have b1 := mul_bound (m := A) (n := 1073742824) fa fu.re (by omega) (by omega) (by omega) a1 u1 (by omega) (by omega) u2 hm
  obtain ⟨n, hn, hcv⟩ := bind_ok hcv
  obtain ⟨n2, hn2, hcv⟩ := bind_ok hcv
  obtain ⟨re2, hre2, hcv⟩ := bind_ok hcv
  obtain ⟨x4, -, hcv⟩ := bind_ok hcv
  obtain ⟨x5, -, hcv⟩ := bind_ok hcv
  obtain ⟨x6, -, hcv⟩ := bind_ok hcv
  have e2 : cv.re = re2 := by injection hcv with hcv; rw [← hcv]
  rw [mul_zero_l fv.im] at hn2
  obtain rfl : zS = n2 := by injection hn2
  obtain ⟨rfl, -⟩ := span_eq hre2
  rw [e1] at hn
  dsimp only at hn b1
  have okm := mul_ok hm
  have lm := Sp.le_of_ok okm
  have fre : (⟨m.lo - 0, m.hi - 0⟩ : Sp).fit := e1 ▸ fv.re
  have b2 := mul_bound (m := C) (n := A * 1073742824 / 1073741824 + 1) fc fre (by omega) (by omega) (by omega) c1 (by dsimp only; omega) (by dsimp only; omega) (by dsimp only; omega) (by dsimp only; omega) hn
  obtain ⟨d1, hd1, hdn⟩ := bind_ok hdn
  obtain ⟨d2, -, hdn⟩ := bind_ok hdn
  have e3 : dn'.re = d1 := by injection hdn with hdn; rw [← hdn]
  obtain ⟨rfl, -⟩ := span_eq hd1
  rw [e3, e2]
  dsimp only
  omega
end Go.Proofs.Ytpbbbfglecbceaa.En
