/- Plain: exact amplitudes as four whole numbers and an exponent; their form; their values. -/
namespace Go.Proofs.Ytccbinnlnkpplaa
set_option linter.all false

/-- (a + b w + c w^2 + d w^3) / r^k. -/
structure Nm where
  a : Int
  b : Int
  c : Int
  d : Int
  k : Int
deriving DecidableEq, Inhabited
structure Nm.Fit (n : Int) (z : Nm) : Prop where
  a0 : -n ≤ z.a
  a1 : z.a ≤ n
  b0 : -n ≤ z.b
  b1 : z.b ≤ n
  c0 : -n ≤ z.c
  c1 : z.c ≤ n
  d0 : -n ≤ z.d
  d1 : z.d ≤ n
def Nm.zero : Nm := ⟨0, 0, 0, 0, 0⟩
def Nm.one : Nm := ⟨1, 0, 0, 0, 0⟩
def Nm.conj (z : Nm) : Nm := ⟨z.a, -z.d, -z.c, -z.b, z.k⟩
def Nm.neg (z : Nm) : Nm := ⟨-z.a, -z.b, -z.c, -z.d, z.k⟩
/-- An eighth of a turn. -/
def Nm.rot (z : Nm) : Nm := ⟨-z.d, z.a, z.b, z.c, z.k⟩
def Nm.step (z : Nm) : Nm := ⟨(z.b - z.d) / 2, (z.a + z.c) / 2, (z.b + z.d) / 2, (z.c - z.a) / 2, z.k - 1⟩
/-- The same number with a greater exponent. -/
def Nm.tr (z : Nm) : Nm := ⟨z.b - z.d, z.a + z.c, z.b + z.d, z.c - z.a, z.k + 1⟩
def Nm.up : Nat → Nm → Nm
  | 0, z => z
  | n + 1, z => Nm.up n z.tr
def Nm.to (m : Int) (z : Nm) : Nm := Nm.up (m - z.k).toNat z
def Nm.even (z : Nm) : Prop := (z.a + z.c) % 2 = 0 ∧ (z.b + z.d) % 2 = 0
instance (z : Nm) : Decidable z.even := inferInstanceAs (Decidable ((z.a + z.c) % 2 = 0 ∧ (z.b + z.d) % 2 = 0))
/-- The form of a number, n steps at most. -/
def red : Nat → Nm → Nm
  | 0, z => z
  | n + 1, z => if 0 < z.k ∧ z.even then red n z.step else z
def Nm.nf (z : Nm) : Nm := red z.k.toNat z
/-- In range. -/
def Nm.small (z : Nm) : Bool := decide (z.k ≤ 40) && (decide (-1000000000 ≤ z.a) && decide (z.a ≤ 1000000000) && (decide (-1000000000 ≤ z.b) && decide (z.b ≤ 1000000000)) && (decide (-1000000000 ≤ z.c) && decide (z.c ≤ 1000000000)) && (decide (-1000000000 ≤ z.d) && decide (z.d ≤ 1000000000)))
theorem small_iff {z : Nm} : z.small = true ↔ z.k ≤ 40 ∧ z.Fit 1000000000 := by
  simp only [Nm.small, Bool.and_eq_true, decide_eq_true_eq]
  exact ⟨fun ⟨h0, ⟨⟨h1, h2⟩, h3⟩, h4⟩ => ⟨h0, h1.1, h1.2, h2.1, h2.2, h3.1, h3.2, h4.1, h4.2⟩, fun ⟨h0, h⟩ => ⟨h0, ⟨⟨⟨h.a0, h.a1⟩, h.b0, h.b1⟩, h.c0, h.c1⟩, h.d0, h.d1⟩⟩
theorem small_yes {z : Nm} (h1 : z.k ≤ 40) (h2 : z.Fit 1000000000) : z.small = true := small_iff.2 ⟨h1, h2⟩
theorem small_no {z : Nm} (h : ¬ (z.k ≤ 40 ∧ z.Fit 1000000000)) : z.small = false := by
  cases hs : z.small with
  | false => rfl
  | true => exact absurd (small_iff.1 hs) h
theorem small_dec {z : Nm} {b : Bool} (h : b = true ↔ z.k ≤ 40 ∧ z.Fit 1000000000) : z.small = b := by
  rw [Bool.eq_iff_iff, small_iff, h]
/-- A valid number. -/
structure Nm.Ok (z : Nm) : Prop where
  fit : z.Fit 1000000000
  k0 : 0 ≤ z.k
  k1 : z.k ≤ 40
  form : z.k = 0 ∨ ¬ z.even
def Nm.okB (z : Nm) : Bool := z.small && decide (0 ≤ z.k) && decide (z.k = 0 ∨ ¬ z.even)
theorem okB_iff {z : Nm} : z.okB = true ↔ z.Ok := by
  simp only [Nm.okB, Bool.and_eq_true, small_iff, decide_eq_true_eq]
  exact ⟨fun ⟨⟨⟨h0, h1⟩, h2⟩, h3⟩ => ⟨h1, h2, h0, h3⟩, fun h => ⟨⟨⟨h.k1, h.fit⟩, h.k0⟩, h.form⟩⟩
/-- A result, or an error's number. -/
abbrev NR := Except Int Nm
def Nm.mk' (z : Nm) : NR := if z.nf.small then .ok z.nf else .error 4

theorem Nm.even_tr (z : Nm) : z.tr.even := ⟨by simp only [Nm.tr]; omega, by simp only [Nm.tr]; omega⟩
theorem Nm.step_tr (z : Nm) : z.tr.step = z := by
  obtain ⟨a, b, c, d, k⟩ := z
  simp only [Nm.tr, Nm.step]
  congr 1 <;> omega
theorem Nm.tr_step {z : Nm} (h : z.even) : z.step.tr = z := by
  obtain ⟨a, b, c, d, k⟩ := z
  obtain ⟨h1, h2⟩ := h
  simp only [Nm.tr, Nm.step] at *
  congr 1 <;> omega
theorem Nm.tr_inj {x y : Nm} (h : x.tr = y.tr) : x = y := by rw [← Nm.step_tr x, h, Nm.step_tr]
theorem Nm.up_tr : ∀ (n : Nat) (z : Nm), Nm.up n z.tr = (Nm.up n z).tr
  | 0, _ => rfl
  | n + 1, z => Nm.up_tr n z.tr
theorem Nm.up_add : ∀ (i j : Nat) (z : Nm), Nm.up i (Nm.up j z) = Nm.up (j + i) z
  | i, 0, z => by rw [Nat.zero_add]; rfl
  | i, j + 1, z => by
    rw [show j + 1 + i = (j + i) + 1 by omega]
    exact Nm.up_add i j z.tr
theorem Nm.up_inj : ∀ (n : Nat) {x y : Nm}, Nm.up n x = Nm.up n y → x = y
  | 0, _, _, h => h
  | n + 1, _, _, h => Nm.tr_inj (Nm.up_inj n h)
theorem Nm.up_k : ∀ (n : Nat) (z : Nm), (Nm.up n z).k = z.k + n
  | 0, z => by simp [Nm.up]
  | n + 1, z => by
    have := Nm.up_k n z.tr
    simp only [Nm.up]
    rw [this]
    simp only [Nm.tr]
    omega
theorem Nm.to_k {m : Int} {z : Nm} (h : z.k ≤ m) : (z.to m).k = m := by unfold Nm.to; rw [Nm.up_k]; omega

/-- The same value. -/
def Eqv (x y : Nm) : Prop := ∃ i j : Nat, Nm.up i x = Nm.up j y
theorem Eqv.refl (x : Nm) : Eqv x x := ⟨0, 0, rfl⟩
theorem Eqv.symm {x y : Nm} (h : Eqv x y) : Eqv y x := let ⟨i, j, h⟩ := h; ⟨j, i, h.symm⟩
theorem Eqv.trans {x y z : Nm} (h : Eqv x y) (k : Eqv y z) : Eqv x z := by
  obtain ⟨i, j, h⟩ := h
  obtain ⟨k, l, k'⟩ := k
  refine ⟨i + k, l + j, ?_⟩
  rw [← Nm.up_add, ← Nm.up_add, h, ← k', Nm.up_add, Nm.up_add, Nat.add_comm]
theorem Eqv.up (n : Nat) (z : Nm) : Eqv (Nm.up n z) z := ⟨0, n, rfl⟩
theorem Eqv.tr (z : Nm) : Eqv z.tr z := ⟨0, 1, rfl⟩
theorem Eqv.to (m : Int) (z : Nm) : Eqv (z.to m) z := Eqv.up _ z
theorem red_eqv : ∀ (n : Nat) (z : Nm), Eqv (red n z) z
  | 0, z => Eqv.refl z
  | n + 1, z => by
    simp only [red]
    split
    · next h => exact (red_eqv n z.step).trans ⟨1, 0, Nm.tr_step h.2⟩
    · exact Eqv.refl z
theorem nf_eqv (z : Nm) : Eqv z.nf z := red_eqv _ z
/-- In form. -/
def Nm.Nf (z : Nm) : Prop := z.k ≤ 0 ∨ ¬ z.even
theorem Nm.Ok.nf {z : Nm} (h : z.Ok) : z.Nf := h.form.imp (by omega) id
theorem red_form : ∀ (n : Nat) (z : Nm), z.k ≤ n → (red n z).Nf
  | 0, z, h => .inl h
  | n + 1, z, h => by
    simp only [red]
    split
    · exact red_form n z.step (by simp only [Nm.step]; omega)
    · next hc =>
      by_cases h0 : 0 < z.k
      · exact .inr fun he => hc ⟨h0, he⟩
      · exact .inl (by omega)
theorem nf_form (z : Nm) : z.nf.Nf := red_form _ z (by omega)
theorem red_k : ∀ (n : Nat) (z : Nm), 0 ≤ z.k → 0 ≤ (red n z).k ∧ (red n z).k ≤ z.k
  | 0, z, h => ⟨h, Int.le_refl _⟩
  | n + 1, z, h => by
    simp only [red]
    split
    · next hc => have := red_k n z.step (by simp only [Nm.step]; omega); simp only [Nm.step] at this ⊢; omega
    · exact ⟨h, Int.le_refl _⟩
theorem nf_k {z : Nm} (h : 0 ≤ z.k) : 0 ≤ z.nf.k ∧ z.nf.k ≤ z.k := red_k _ z h
theorem red_stop {n : Nat} {z : Nm} (h : z.Nf) : red n z = z := by
  cases n with
  | zero => rfl
  | succ n => simp only [red]; rw [if_neg]; rintro ⟨h1, h2⟩; rcases h with h | h; omega; exact h h2
theorem nf_self {z : Nm} (h : z.Nf) : z.nf = z := red_stop h
/-- Forms of one value with exponents of at least 0 are one. -/
theorem form_unique {x y : Nm} (hx : x.Nf) (hy : y.Nf) (h0 : 0 ≤ x.k) (h1 : 0 ≤ y.k) (h : Eqv x y) : x = y := by
  obtain ⟨i, j, h⟩ := h
  have key : ∀ {x y : Nm} {i n : Nat}, x.Nf → 0 ≤ y.k → Nm.up i x = Nm.up (n + 1 + i) y → False := by
    intro x y i n hx hy h
    have e : x = (Nm.up n y).tr := by
      refine Nm.up_inj i ?_
      rw [h, ← Nm.up_tr, Nm.up_add, show n + 1 + i = (n + i) + 1 by omega]
      rfl
    have hk : x.k = y.k + n + 1 := by rw [e]; show (Nm.up n y).k + 1 = _; rw [Nm.up_k]
    rcases hx with hx | hx
    · omega
    · exact hx (by rw [e]; exact Nm.even_tr _)
  rcases Nat.lt_trichotomy i j with hlt | rfl | hlt
  · exact (key (n := j - i - 1) hx h1 (by rw [h]; congr 1; omega)).elim
  · exact Nm.up_inj i h
  · exact (key (n := i - j - 1) hy h0 (by rw [← h]; congr 1; omega)).elim
theorem nf_eq {x y : Nm} (h0 : 0 ≤ x.k) (h1 : 0 ≤ y.k) (h : Eqv x y) : x.nf = y.nf :=
  form_unique (nf_form x) (nf_form y) (nf_k h0).1 (nf_k h1).1 ((nf_eqv x).trans (h.trans (nf_eqv y).symm))
theorem mk_eq {x y : Nm} (h0 : 0 ≤ x.k) (h1 : 0 ≤ y.k) (h : Eqv x y) : x.mk' = y.mk' := by unfold Nm.mk'; rw [nf_eq h0 h1 h]
theorem mk_ok {z v : Nm} (h0 : 0 ≤ z.k) (h : z.mk' = .ok v) : v.Ok ∧ v = z.nf ∧ Eqv v z := by
  unfold Nm.mk' at h
  split at h
  · next hs =>
    injection h with h
    subst h
    obtain ⟨s1, s2⟩ := small_iff.1 hs
    have := nf_k h0
    exact ⟨⟨s2, this.1, s1, (nf_form z).imp (by omega) id⟩, rfl, nf_eqv z⟩
  · cases h
theorem mk_err {z : Nm} {c : Int} (h : z.mk' = .error c) : c = 4 := by
  unfold Nm.mk' at h
  split at h
  · cases h
  · injection h with h; exact h.symm
theorem Nm.step_fit {n : Int} {z : Nm} (h : z.Fit n) : z.step.Fit n := by
  obtain ⟨h1, h2, h3, h4, h5, h6, h7, h8⟩ := h
  exact ⟨by simp only [Nm.step]; omega, by simp only [Nm.step]; omega, by simp only [Nm.step]; omega, by simp only [Nm.step]; omega, by simp only [Nm.step]; omega, by simp only [Nm.step]; omega, by simp only [Nm.step]; omega, by simp only [Nm.step]; omega⟩
theorem red_fit {N : Int} : ∀ (n : Nat) {z : Nm}, z.Fit N → (red n z).Fit N
  | 0, z, h => h
  | n + 1, z, h => by
    simp only [red]; split
    · exact red_fit n (Nm.step_fit h)
    · exact h
theorem nf_step {z : Nm} (h : 0 < z.k) (he : z.even) : z.nf = z.step.nf := by
  obtain ⟨n, hn⟩ : ∃ n, z.k.toNat = n + 1 := ⟨z.k.toNat - 1, by omega⟩
  unfold Nm.nf
  have : z.step.k.toNat = n := by simp only [Nm.step]; omega
  rw [this, hn]
  simp only [red]
  rw [if_pos ⟨h, he⟩]
theorem nf_stop {z : Nm} (h : ¬ (0 < z.k ∧ z.even)) : z.nf = z := nf_self (by
  by_cases h0 : 0 < z.k
  · exact .inr fun he => h ⟨h0, he⟩
  · exact .inl (by omega))

/-- Sums, products. -/
def Nm.addR (x y : Nm) : Nm :=
  let u := x.to (max x.k y.k)
  let v := y.to (max x.k y.k)
  ⟨u.a + v.a, u.b + v.b, u.c + v.c, u.d + v.d, max x.k y.k⟩
def Nm.mulR (x y : Nm) : Nm :=
  ⟨x.a * y.a - x.b * y.d - x.c * y.c - x.d * y.b, x.a * y.b + x.b * y.a - x.c * y.d - x.d * y.c, x.a * y.c + x.b * y.b + x.c * y.a - x.d * y.d, x.a * y.d + x.b * y.c + x.c * y.b + x.d * y.a, x.k + y.k⟩
def Nm.add (x y : Nm) : NR := (x.addR y).mk'
def Nm.mul (x y : Nm) : NR := (x.mulR y).mk'
def Nm.sub (x y : Nm) : NR := (x.addR y.neg).mk'
def Nm.power (x : Nm) : NR := (x.mulR x.conj).mk'
def Nm.halve (x : Nm) (n : Int) : NR := (⟨x.a, x.b, x.c, x.d, x.k + n⟩ : Nm).mk'
theorem zero_ok : Nm.zero.Ok := okB_iff.1 (by decide)
theorem one_ok : Nm.one.Ok := okB_iff.1 (by decide)
theorem conj_ok {z : Nm} (h : z.Ok) : z.conj.Ok := by
  obtain ⟨⟨h1, h2, h3, h4, h5, h6, h7, h8⟩, h9, h10, h11⟩ := h
  refine ⟨⟨h1, h2, ?_, ?_, ?_, ?_, ?_, ?_⟩, h9, h10, h11.imp id fun hn he => hn ⟨?_, ?_⟩⟩ <;> simp only [Nm.conj, Nm.even] at * <;> omega
theorem neg_ok {z : Nm} (h : z.Ok) : z.neg.Ok := by
  obtain ⟨⟨h1, h2, h3, h4, h5, h6, h7, h8⟩, h9, h10, h11⟩ := h
  refine ⟨⟨?_, ?_, ?_, ?_, ?_, ?_, ?_, ?_⟩, h9, h10, h11.imp id fun hn he => hn ⟨?_, ?_⟩⟩ <;> simp only [Nm.neg, Nm.even] at * <;> omega
theorem rot_ok {z : Nm} (h : z.Ok) : z.rot.Ok := by
  obtain ⟨⟨h1, h2, h3, h4, h5, h6, h7, h8⟩, h9, h10, h11⟩ := h
  refine ⟨⟨?_, ?_, h1, h2, h3, h4, h5, h6⟩, h9, h10, h11.imp id fun hn he => hn ⟨?_, ?_⟩⟩ <;> simp only [Nm.rot, Nm.even] at * <;> omega
theorem addR_k {x y : Nm} (hx : 0 ≤ x.k) : 0 ≤ (x.addR y).k := by simp only [Nm.addR]; omega
theorem mulR_k {x y : Nm} (hx : 0 ≤ x.k) (hy : 0 ≤ y.k) : 0 ≤ (x.mulR y).k := by simp only [Nm.mulR]; omega

/-- Sizes: raising by n at most doubles by steps of 2. -/
theorem Nm.fit_mono {m n : Int} {z : Nm} (h : z.Fit m) (hmn : m ≤ n) : z.Fit n := by
  obtain ⟨h1, h2, h3, h4, h5, h6, h7, h8⟩ := h
  exact ⟨by omega, by omega, by omega, by omega, by omega, by omega, by omega, by omega⟩
theorem Nm.tr_fit {n : Int} {z : Nm} (h : z.Fit n) : z.tr.Fit (2 * n) := by
  obtain ⟨h1, h2, h3, h4, h5, h6, h7, h8⟩ := h
  exact ⟨by simp only [Nm.tr]; omega, by simp only [Nm.tr]; omega, by simp only [Nm.tr]; omega, by simp only [Nm.tr]; omega, by simp only [Nm.tr]; omega, by simp only [Nm.tr]; omega, by simp only [Nm.tr]; omega, by simp only [Nm.tr]; omega⟩
theorem Nm.tr2 (z : Nm) : z.tr.tr = ⟨2 * z.a, 2 * z.b, 2 * z.c, 2 * z.d, z.k + 2⟩ := by
  simp only [Nm.tr]
  congr 1 <;> omega
theorem Nm.tr2_fit {n : Int} {z : Nm} (h : z.Fit n) : z.tr.tr.Fit (2 * n) := by
  rw [Nm.tr2]
  obtain ⟨h1, h2, h3, h4, h5, h6, h7, h8⟩ := h
  exact ⟨by dsimp only; omega, by dsimp only; omega, by dsimp only; omega, by dsimp only; omega, by dsimp only; omega, by dsimp only; omega, by dsimp only; omega, by dsimp only; omega⟩
theorem Nm.up_fit : ∀ (m : Nat) {n : Int} {z : Nm}, z.Fit n → (Nm.up (2 * m) z).Fit (2 ^ m * n) ∧ (Nm.up (2 * m + 1) z).Fit (2 ^ (m + 1) * n)
  | 0, n, z, h => ⟨by simpa [Nm.up] using h, by simpa [Nm.up] using Nm.tr_fit h⟩
  | m + 1, n, z, h => by
    obtain ⟨h1, h2⟩ := Nm.up_fit m (Nm.tr2_fit h)
    refine ⟨?_, ?_⟩
    · rw [show 2 ^ (m + 1) * n = 2 ^ m * (2 * n) by rw [Int.pow_succ]; grind]
      exact h1
    · rw [show 2 ^ (m + 1 + 1) * n = 2 ^ (m + 1) * (2 * n) by rw [Int.pow_succ]; grind]
      exact h2
theorem pow2_le {m : Nat} (h : m ≤ 20) : (2 : Int) ^ m ≤ 1048576 := by
  have : m = 0 ∨ m = 1 ∨ m = 2 ∨ m = 3 ∨ m = 4 ∨ m = 5 ∨ m = 6 ∨ m = 7 ∨ m = 8 ∨ m = 9 ∨ m = 10 ∨ m = 11 ∨ m = 12 ∨ m = 13 ∨ m = 14 ∨ m = 15 ∨ m = 16 ∨ m = 17 ∨ m = 18 ∨ m = 19 ∨ m = 20 := by omega
  rcases this with rfl | rfl | rfl | rfl | rfl | rfl | rfl | rfl | rfl | rfl | rfl | rfl | rfl | rfl | rfl | rfl | rfl | rfl | rfl | rfl | rfl <;> decide
theorem Nm.up2_fit {m : Nat} {z : Nm} (h : z.Fit 1000000000) (hm : m ≤ 20) : (Nm.up (2 * m) z).Fit 1048576000000000 :=
  Nm.fit_mono (Nm.up_fit m h).1 (by have := pow2_le hm; omega)
theorem Nm.up40_fit {n : Nat} {z : Nm} (h : z.Fit 1000000000) (hn : n ≤ 40) : (Nm.up n z).Fit 1048576000000000 := by
  rcases (⟨n / 2, by omega⟩ : ∃ m, n = 2 * m ∧ m ≤ 20 ∨ n = 2 * m + 1 ∧ m ≤ 19) with ⟨m, ⟨rfl, hm⟩ | ⟨rfl, hm⟩⟩
  · exact Nm.up2_fit h hm
  · exact Nm.fit_mono (Nm.up_fit m h).2 (by have := pow2_le (m := m + 1) (by omega); omega)
theorem Nm.up_succ2 (m : Nat) (z : Nm) : Nm.up (2 * (m + 1)) z = ⟨(Nm.up (2 * m) z).a * 2, (Nm.up (2 * m) z).b * 2, (Nm.up (2 * m) z).c * 2, (Nm.up (2 * m) z).d * 2, (Nm.up (2 * m) z).k + 2⟩ := by
  rw [show 2 * (m + 1) = 2 * m + 1 + 1 by omega, Nm.up, Nm.up, Nm.up_tr, Nm.up_tr, Nm.tr2]
  congr 1 <;> omega
theorem Nm.up_succ1 (m : Nat) (z : Nm) : Nm.up (m + 1) z = (Nm.up m z).tr := by rw [Nm.up, Nm.up_tr]
theorem addR_ge {x y : Nm} (h : y.k ≤ x.k) : x.addR y = ⟨(y.to x.k).a + x.a, (y.to x.k).b + x.b, (y.to x.k).c + x.c, (y.to x.k).d + x.d, x.k⟩ := by
  have e : max x.k y.k = x.k := by omega
  have e2 : x.to x.k = x := by unfold Nm.to; rw [Int.sub_self]; rfl
  unfold Nm.addR
  dsimp only
  rw [e, e2]
  congr 1 <;> omega
theorem addR_lt {x y : Nm} (h : x.k < y.k) : x.addR y = ⟨(x.to y.k).a + y.a, (x.to y.k).b + y.b, (x.to y.k).c + y.c, (x.to y.k).d + y.d, y.k⟩ := by
  have e : max x.k y.k = y.k := by omega
  have e2 : y.to y.k = y := by unfold Nm.to; rw [Int.sub_self]; rfl
  unfold Nm.addR
  dsimp only
  rw [e, e2]
theorem addR_fit {x y : Nm} (hx : x.Ok) (hy : y.Ok) : (x.addR y).Fit 4611686018427387903 := by
  have h1 := Nm.up40_fit (n := (max x.k y.k - x.k).toNat) hx.fit (by have := hx.k0; have := hx.k1; have := hy.k1; omega)
  have h2 := Nm.up40_fit (n := (max x.k y.k - y.k).toNat) hy.fit (by have := hy.k0; have := hx.k1; have := hy.k1; omega)
  obtain ⟨a1, a2, a3, a4, a5, a6, a7, a8⟩ := h1
  obtain ⟨b1, b2, b3, b4, b5, b6, b7, b8⟩ := h2
  unfold Nm.addR Nm.to
  exact ⟨by dsimp only; omega, by dsimp only; omega, by dsimp only; omega, by dsimp only; omega, by dsimp only; omega, by dsimp only; omega, by dsimp only; omega, by dsimp only; omega⟩
theorem mul_le {a b : Int} (h1 : -1000000000 ≤ a) (h2 : a ≤ 1000000000) (h3 : -1000000000 ≤ b) (h4 : b ≤ 1000000000) : -1000000000000000000 ≤ a * b ∧ a * b ≤ 1000000000000000000 := by
  rcases Int.le_total 0 a with ha | ha
  · have e1 := Int.mul_le_mul_of_nonneg_left h3 ha
    have e2 := Int.mul_le_mul_of_nonneg_left h4 ha
    omega
  · have e1 := Int.mul_le_mul_of_nonneg_left h3 (c := -a) (by omega)
    have e2 := Int.mul_le_mul_of_nonneg_left h4 (c := -a) (by omega)
    rw [Int.neg_mul, Int.neg_mul] at e1 e2
    omega
structure Prods (x y : Nm) : Prop where
  aa : -1000000000000000000 ≤ x.a * y.a ∧ x.a * y.a ≤ 1000000000000000000
  ab : -1000000000000000000 ≤ x.a * y.b ∧ x.a * y.b ≤ 1000000000000000000
  ac : -1000000000000000000 ≤ x.a * y.c ∧ x.a * y.c ≤ 1000000000000000000
  ad : -1000000000000000000 ≤ x.a * y.d ∧ x.a * y.d ≤ 1000000000000000000
  ba : -1000000000000000000 ≤ x.b * y.a ∧ x.b * y.a ≤ 1000000000000000000
  bb : -1000000000000000000 ≤ x.b * y.b ∧ x.b * y.b ≤ 1000000000000000000
  bc : -1000000000000000000 ≤ x.b * y.c ∧ x.b * y.c ≤ 1000000000000000000
  bd : -1000000000000000000 ≤ x.b * y.d ∧ x.b * y.d ≤ 1000000000000000000
  ca : -1000000000000000000 ≤ x.c * y.a ∧ x.c * y.a ≤ 1000000000000000000
  cb : -1000000000000000000 ≤ x.c * y.b ∧ x.c * y.b ≤ 1000000000000000000
  cc : -1000000000000000000 ≤ x.c * y.c ∧ x.c * y.c ≤ 1000000000000000000
  cd : -1000000000000000000 ≤ x.c * y.d ∧ x.c * y.d ≤ 1000000000000000000
  da : -1000000000000000000 ≤ x.d * y.a ∧ x.d * y.a ≤ 1000000000000000000
  db : -1000000000000000000 ≤ x.d * y.b ∧ x.d * y.b ≤ 1000000000000000000
  dc : -1000000000000000000 ≤ x.d * y.c ∧ x.d * y.c ≤ 1000000000000000000
  dd : -1000000000000000000 ≤ x.d * y.d ∧ x.d * y.d ≤ 1000000000000000000
theorem prods {x y : Nm} (hx : x.Fit 1000000000) (hy : y.Fit 1000000000) : Prods x y := by
  obtain ⟨a1, a2, a3, a4, a5, a6, a7, a8⟩ := hx
  obtain ⟨b1, b2, b3, b4, b5, b6, b7, b8⟩ := hy
  exact ⟨mul_le a1 a2 b1 b2, mul_le a1 a2 b3 b4, mul_le a1 a2 b5 b6, mul_le a1 a2 b7 b8, mul_le a3 a4 b1 b2, mul_le a3 a4 b3 b4, mul_le a3 a4 b5 b6, mul_le a3 a4 b7 b8,
    mul_le a5 a6 b1 b2, mul_le a5 a6 b3 b4, mul_le a5 a6 b5 b6, mul_le a5 a6 b7 b8, mul_le a7 a8 b1 b2, mul_le a7 a8 b3 b4, mul_le a7 a8 b5 b6, mul_le a7 a8 b7 b8⟩
theorem mulR_fit {x y : Nm} (hx : x.Fit 1000000000) (hy : y.Fit 1000000000) : (x.mulR y).Fit 4611686018427387903 := by
  obtain ⟨aa, ab, ac, ad, ba, bb, bc, bd, ca, cb, cc, cd, da, db, dc, dd⟩ := prods hx hy
  unfold Nm.mulR
  exact ⟨by dsimp only; omega, by dsimp only; omega, by dsimp only; omega, by dsimp only; omega, by dsimp only; omega, by dsimp only; omega, by dsimp only; omega, by dsimp only; omega⟩
theorem nf_self_iff {z : Nm} (h : 0 ≤ z.k) : z.nf = z ↔ (z.k = 0 ∨ ¬ z.even) := by
  constructor
  · intro e
    have := nf_form z
    rw [e] at this
    exact this.imp (by omega) id
  · intro hh
    exact nf_self (hh.imp (by omega) id)
end Go.Proofs.Ytccbinnlnkpplaa
