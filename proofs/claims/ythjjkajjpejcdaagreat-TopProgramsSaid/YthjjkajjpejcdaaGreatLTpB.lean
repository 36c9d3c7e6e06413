/- Texts in one: NmPl, Sg, MtPl, Ro, Mg, Zs, Am1, Am2, Eq, Am3, Am4, Am5, Am6, Xt. -/
import Derived.Test.YthjjkajjpejcdaaGreatLTpA
import Derived.IntWalk
import Derived.Laws.BitsAllLaws
import Derived.DeepKeys
import Derived.Laws.Externs
import Derived.Laws.Bits64b
namespace Go.Proofs.YthjjkajjpejcdaaGreat
set_option linter.all false
set_option maxRecDepth 100000
set_option maxHeartbeats 1000000
structure Nm where
  a : Int
  b : Int
  c : Int
  d : Int
  k : Int
deriving DecidableEq, Inhabited
structure Nm.Fit (n : Int) (z : Nm) : Prop where
  a0 : -n ≤ z.a
  a1 : z.a ≤ n
  b0 : -n ≤ z.b
  b1 : z.b ≤ n
  c0 : -n ≤ z.c
  c1 : z.c ≤ n
  d0 : -n ≤ z.d
  d1 : z.d ≤ n
def Nm.zero : Nm := ⟨0, 0, 0, 0, 0⟩
def Nm.one : Nm := ⟨1, 0, 0, 0, 0⟩
def Nm.conj (z : Nm) : Nm := ⟨z.a, -z.d, -z.c, -z.b, z.k⟩
def Nm.neg (z : Nm) : Nm := ⟨-z.a, -z.b, -z.c, -z.d, z.k⟩
def Nm.rot (z : Nm) : Nm := ⟨-z.d, z.a, z.b, z.c, z.k⟩
def Nm.step (z : Nm) : Nm := ⟨(z.b - z.d) / 2, (z.a + z.c) / 2, (z.b + z.d) / 2, (z.c - z.a) / 2, z.k - 1⟩
def Nm.tr (z : Nm) : Nm := ⟨z.b - z.d, z.a + z.c, z.b + z.d, z.c - z.a, z.k + 1⟩
def Nm.up : Nat → Nm → Nm
  | 0, z => z
  | n + 1, z => Nm.up n z.tr
def Nm.to (m : Int) (z : Nm) : Nm := Nm.up (m - z.k).toNat z
def Nm.even (z : Nm) : Prop := (z.a + z.c) % 2 = 0 ∧ (z.b + z.d) % 2 = 0
instance (z : Nm) : Decidable z.even := inferInstanceAs (Decidable ((z.a + z.c) % 2 = 0 ∧ (z.b + z.d) % 2 = 0))
def red : Nat → Nm → Nm
  | 0, z => z
  | n + 1, z => if 0 < z.k ∧ z.even then red n z.step else z
def Nm.nf (z : Nm) : Nm := red z.k.toNat z
def Nm.small (z : Nm) : Bool := decide (z.k ≤ 40) && (decide (-1000000000 ≤ z.a) && decide (z.a ≤ 1000000000) && (decide (-1000000000 ≤ z.b) && decide (z.b ≤ 1000000000)) && (decide (-1000000000 ≤ z.c) && decide (z.c ≤ 1000000000)) && (decide (-1000000000 ≤ z.d) && decide (z.d ≤ 1000000000)))
theorem small_iff {z : Nm} : z.small = true ↔ z.k ≤ 40 ∧ z.Fit 1000000000 := by
 simp only [Nm.small, Bool.and_eq_true, decide_eq_true_eq]
 exact ⟨fun ⟨h0, ⟨⟨h1, h2⟩, h3⟩, h4⟩ => ⟨h0, h1.1, h1.2, h2.1, h2.2, h3.1, h3.2, h4.1, h4.2⟩, fun ⟨h0, h⟩ => ⟨h0, ⟨⟨⟨h.a0, h.a1⟩, h.b0, h.b1⟩, h.c0, h.c1⟩, h.d0, h.d1⟩⟩
theorem small_yes {z : Nm} (h1 : z.k ≤ 40) (h2 : z.Fit 1000000000) : z.small = true := small_iff.2 ⟨h1, h2⟩
theorem small_no {z : Nm} (h : ¬ (z.k ≤ 40 ∧ z.Fit 1000000000)) : z.small = false := by
 cases hs : z.small with
 | false => rfl
 | true => exact absurd (small_iff.1 hs) h
structure Nm.Ok (z : Nm) : Prop where
  fit : z.Fit 1000000000
  k0 : 0 ≤ z.k
  k1 : z.k ≤ 40
  form : z.k = 0 ∨ ¬ z.even
def Nm.okB (z : Nm) : Bool := z.small && decide (0 ≤ z.k) && decide (z.k = 0 ∨ ¬ z.even)
theorem okB_iff {z : Nm} : z.okB = true ↔ z.Ok := by
 simp only [Nm.okB, Bool.and_eq_true, small_iff, decide_eq_true_eq]
 exact ⟨fun ⟨⟨⟨h0, h1⟩, h2⟩, h3⟩ => ⟨h1, h2, h0, h3⟩, fun h => ⟨⟨⟨h.k1, h.fit⟩, h.k0⟩, h.form⟩⟩
abbrev NR := Except Int Nm
def Nm.mk' (z : Nm) : NR := if z.nf.small then .ok z.nf else .error 4
theorem Nm.even_tr (z : Nm) : z.tr.even := ⟨by simp only [Nm.tr]; omega, by simp only [Nm.tr]; omega⟩
theorem Nm.step_tr (z : Nm) : z.tr.step = z := by
 obtain ⟨a, b, c, d, k⟩ := z
 simp only [Nm.tr, Nm.step]
 congr 1 <;> omega
theorem Nm.tr_step {z : Nm} (h : z.even) : z.step.tr = z := by
 obtain ⟨a, b, c, d, k⟩ := z
 obtain ⟨h1, h2⟩ := h
 simp only [Nm.tr, Nm.step] at *
 congr 1 <;> omega
theorem Nm.tr_inj {x y : Nm} (h : x.tr = y.tr) : x = y := by rw [← Nm.step_tr x, h, Nm.step_tr]
theorem Nm.up_tr : ∀ (n : Nat) (z : Nm), Nm.up n z.tr = (Nm.up n z).tr
  | 0, _ => rfl
  | n + 1, z => Nm.up_tr n z.tr
theorem Nm.up_add : ∀ (i j : Nat) (z : Nm), Nm.up i (Nm.up j z) = Nm.up (j + i) z
  | i, 0, z => by rw [Nat.zero_add]; rfl
  | i, j + 1, z => by
    rw [show j + 1 + i = (j + i) + 1 by omega]
    exact Nm.up_add i j z.tr
theorem Nm.up_inj : ∀ (n : Nat) {x y : Nm}, Nm.up n x = Nm.up n y → x = y
  | 0, _, _, h => h
  | n + 1, _, _, h => Nm.tr_inj (Nm.up_inj n h)
theorem Nm.up_k : ∀ (n : Nat) (z : Nm), (Nm.up n z).k = z.k + n
  | 0, z => by simp [Nm.up]
  | n + 1, z => by
    have := Nm.up_k n z.tr
    simp only [Nm.up]; rw [this]; simp only [Nm.tr]
    omega
theorem Nm.to_k {m : Int} {z : Nm} (h : z.k ≤ m) : (z.to m).k = m := by unfold Nm.to; rw [Nm.up_k]; omega
def Eqv (x y : Nm) : Prop := ∃ i j : Nat, Nm.up i x = Nm.up j y
theorem Eqv.refl (x : Nm) : Eqv x x := ⟨0, 0, rfl⟩
theorem Eqv.symm {x y : Nm} (h : Eqv x y) : Eqv y x := let ⟨i, j, h⟩ := h; ⟨j, i, h.symm⟩
theorem Eqv.trans {x y z : Nm} (h : Eqv x y) (k : Eqv y z) : Eqv x z := by
 obtain ⟨i, j, h⟩ := h
 obtain ⟨k, l, k'⟩ := k
 refine ⟨i + k, l + j, ?_⟩
 rw [← Nm.up_add, ← Nm.up_add, h, ← k', Nm.up_add, Nm.up_add, Nat.add_comm]
theorem Eqv.up (n : Nat) (z : Nm) : Eqv (Nm.up n z) z := ⟨0, n, rfl⟩
theorem Eqv.tr (z : Nm) : Eqv z.tr z := ⟨0, 1, rfl⟩
theorem Eqv.to (m : Int) (z : Nm) : Eqv (z.to m) z := Eqv.up _ z
theorem red_eqv : ∀ (n : Nat) (z : Nm), Eqv (red n z) z
  | 0, z => Eqv.refl z
  | n + 1, z => by
    simp only [red]
    split
    · next h => exact (red_eqv n z.step).trans ⟨1, 0, Nm.tr_step h.2⟩
    · exact Eqv.refl z
theorem nf_eqv (z : Nm) : Eqv z.nf z := red_eqv _ z
def Nm.Nf (z : Nm) : Prop := z.k ≤ 0 ∨ ¬ z.even
theorem Nm.Ok.nf {z : Nm} (h : z.Ok) : z.Nf := h.form.imp Ox id
theorem red_form : ∀ (n : Nat) (z : Nm), z.k ≤ n → (red n z).Nf
  | 0, z, h => .inl h
  | n + 1, z, h => by
    simp only [red]
    split
    · exact red_form n z.step (by simp only [Nm.step]; omega)
    · next hc =>
      by_cases h0 : 0 < z.k
      · exact .inr fun he => hc ⟨h0, he⟩
      · exact .inl Ox
theorem nf_form (z : Nm) : z.nf.Nf := red_form _ z Ox
theorem red_k : ∀ (n : Nat) (z : Nm), 0 ≤ z.k → 0 ≤ (red n z).k ∧ (red n z).k ≤ z.k
  | 0, z, h => ⟨h, Int.le_refl _⟩
  | n + 1, z, h => by
    simp only [red]
    split
    · next hc => have := red_k n z.step (by simp only [Nm.step]; omega); simp only [Nm.step] at this ⊢; omega
    · exact ⟨h, Int.le_refl _⟩
theorem nf_k {z : Nm} (h : 0 ≤ z.k) : 0 ≤ z.nf.k ∧ z.nf.k ≤ z.k := red_k _ z h
theorem red_stop {n : Nat} {z : Nm} (h : z.Nf) : red n z = z := by
 cases n with
 | zero => rfl
 | succ n => simp only [red]; rw [if_neg]; rintro ⟨h1, h2⟩; rcases h with h | h; omega; exact h h2
theorem nf_self {z : Nm} (h : z.Nf) : z.nf = z := red_stop h
theorem form_unique {x y : Nm} (hx : x.Nf) (hy : y.Nf) (h0 : 0 ≤ x.k) (h1 : 0 ≤ y.k) (h : Eqv x y) : x = y := by
 obtain ⟨i, j, h⟩ := h
 have key : ∀ {x y : Nm} {i n : Nat}, x.Nf → 0 ≤ y.k → Nm.up i x = Nm.up (n + 1 + i) y → False := by
  intro x y i n hx hy h
  have e : x = (Nm.up n y).tr := by
   refine Nm.up_inj i ?_; rw [h, ← Nm.up_tr, Nm.up_add, show n + 1 + i = (n + i) + 1 by omega]
   rfl
  have hk : x.k = y.k + n + 1 := by rw [e]; show (Nm.up n y).k + 1 = _; rw [Nm.up_k]
  rcases hx with hx | hx
  ·omega
  ·exact hx (by rw [e]; exact Nm.even_tr _)
 rcases Nat.lt_trichotomy i j with hlt | rfl | hlt
 ·exact (key (n := j - i - 1) hx h1 (by rw [h]; congr 1; omega)).elim
 ·exact Nm.up_inj i h
 ·exact (key (n := i - j - 1) hy h0 (by rw [← h]; congr 1; omega)).elim
theorem nf_eq {x y : Nm} (h0 : 0 ≤ x.k) (h1 : 0 ≤ y.k) (h : Eqv x y) : x.nf = y.nf :=
  form_unique (nf_form x) (nf_form y) (nf_k h0).1 (nf_k h1).1 ((nf_eqv x).trans (h.trans (nf_eqv y).symm))
theorem mk_ok {z v : Nm} (h0 : 0 ≤ z.k) (h : z.mk' = .ok v) : v.Ok ∧ v = z.nf ∧ Eqv v z := by
 unfold Nm.mk' at h
 split at h
 ·next hs =>
  injection h with h
  subst h
  obtain ⟨s1, s2⟩ := small_iff.1 hs
  have := nf_k h0
  exact ⟨⟨s2, this.1, s1, (nf_form z).imp Ox id⟩, rfl, nf_eqv z⟩
 ·cases h
theorem mk_err {z : Nm} {c : Int} (h : z.mk' = .error c) : c = 4 := by
 unfold Nm.mk' at h
 split at h
 ·cases h
 ·injection h with h; exact h.symm
theorem Nm.step_fit {n : Int} {z : Nm} (h : z.Fit n) : z.step.Fit n := by
 obtain ⟨h1, h2, h3, h4, h5, h6, h7, h8⟩ := h
 exact ⟨by simp only [Nm.step]; omega, by simp only [Nm.step]; omega, by simp only [Nm.step]; omega, by simp only [Nm.step]; omega, by simp only [Nm.step]; omega, by simp only [Nm.step]; omega, by simp only [Nm.step]; omega, by simp only [Nm.step]; omega⟩
theorem nf_step {z : Nm} (h : 0 < z.k) (he : z.even) : z.nf = z.step.nf := by
 obtain ⟨n, hn⟩ : ∃ n, z.k.toNat = n + 1 := ⟨z.k.toNat - 1, by omega⟩
 unfold Nm.nf
 have : z.step.k.toNat = n := by simp only [Nm.step]; omega
 rw [this, hn]
 simp only [red]
 rw [if_pos ⟨h, he⟩]
theorem nf_stop {z : Nm} (h : ¬ (0 < z.k ∧ z.even)) : z.nf = z := nf_self (by
  by_cases h0 : 0 < z.k
  · exact .inr fun he => h ⟨h0, he⟩
  · exact .inl Ox)
def Nm.addR (x y : Nm) : Nm :=
  let u := x.to (max x.k y.k)
  let v := y.to (max x.k y.k)
  ⟨u.a + v.a, u.b + v.b, u.c + v.c, u.d + v.d, max x.k y.k⟩
def Nm.mulR (x y : Nm) : Nm :=
  ⟨x.a * y.a - x.b * y.d - x.c * y.c - x.d * y.b, x.a * y.b + x.b * y.a - x.c * y.d - x.d * y.c, x.a * y.c + x.b * y.b + x.c * y.a - x.d * y.d, x.a * y.d + x.b * y.c + x.c * y.b + x.d * y.a, x.k + y.k⟩
def Nm.add (x y : Nm) : NR := (x.addR y).mk'
def Nm.mul (x y : Nm) : NR := (x.mulR y).mk'
def Nm.sub (x y : Nm) : NR := (x.addR y.neg).mk'
def Nm.halve (x : Nm) (n : Int) : NR := (⟨x.a, x.b, x.c, x.d, x.k + n⟩ : Nm).mk'
theorem zero_ok : Nm.zero.Ok := okB_iff.1 (by decide)
theorem one_ok : Nm.one.Ok := okB_iff.1 (by decide)
theorem conj_ok {z : Nm} (h : z.Ok) : z.conj.Ok := by
 obtain ⟨⟨h1, h2, h3, h4, h5, h6, h7, h8⟩, h9, h10, h11⟩ := h
 refine ⟨⟨h1, h2, ?_, ?_, ?_, ?_, ?_, ?_⟩, h9, h10, h11.imp id fun hn he => hn ⟨?_, ?_⟩⟩ <;> simp only [Nm.conj, Nm.even] at * <;> omega
theorem rot_ok {z : Nm} (h : z.Ok) : z.rot.Ok := by
 obtain ⟨⟨h1, h2, h3, h4, h5, h6, h7, h8⟩, h9, h10, h11⟩ := h
 refine ⟨⟨?_, ?_, h1, h2, h3, h4, h5, h6⟩, h9, h10, h11.imp id fun hn he => hn ⟨?_, ?_⟩⟩ <;> simp only [Nm.rot, Nm.even] at * <;> omega
theorem addR_k {x y : Nm} (hx : 0 ≤ x.k) : 0 ≤ (x.addR y).k := by simp only [Nm.addR]; omega
theorem mulR_k {x y : Nm} (hx : 0 ≤ x.k) (hy : 0 ≤ y.k) : 0 ≤ (x.mulR y).k := by simp only [Nm.mulR]; omega
theorem Nm.fit_mono {m n : Int} {z : Nm} (h : z.Fit m) (hmn : m ≤ n) : z.Fit n := by
 obtain ⟨h1, h2, h3, h4, h5, h6, h7, h8⟩ := h
 exact ⟨by omega, by omega, by omega, by omega, by omega, by omega, by omega, by omega⟩
theorem Nm.tr_fit {n : Int} {z : Nm} (h : z.Fit n) : z.tr.Fit (2 * n) := by
 obtain ⟨h1, h2, h3, h4, h5, h6, h7, h8⟩ := h
 exact ⟨by simp only [Nm.tr]; omega, by simp only [Nm.tr]; omega, by simp only [Nm.tr]; omega, by simp only [Nm.tr]; omega, by simp only [Nm.tr]; omega, by simp only [Nm.tr]; omega, by simp only [Nm.tr]; omega, by simp only [Nm.tr]; omega⟩
theorem Nm.tr2 (z : Nm) : z.tr.tr = ⟨2 * z.a, 2 * z.b, 2 * z.c, 2 * z.d, z.k + 2⟩ := by
 simp only [Nm.tr]
 congr 1 <;> omega
theorem Nm.tr2_fit {n : Int} {z : Nm} (h : z.Fit n) : z.tr.tr.Fit (2 * n) := by
 rw [Nm.tr2]
 obtain ⟨h1, h2, h3, h4, h5, h6, h7, h8⟩ := h
 exact ⟨by dsimp only; omega, by dsimp only; omega, by dsimp only; omega, by dsimp only; omega, by dsimp only; omega, by dsimp only; omega, by dsimp only; omega, by dsimp only; omega⟩
theorem Nm.up_fit : ∀ (m : Nat) {n : Int} {z : Nm}, z.Fit n → (Nm.up (2 * m) z).Fit (2 ^ m * n) ∧ (Nm.up (2 * m + 1) z).Fit (2 ^ (m + 1) * n)
  | 0, n, z, h => ⟨by simpa [Nm.up] using h, by simpa [Nm.up] using Nm.tr_fit h⟩
  | m + 1, n, z, h => by
    obtain ⟨h1, h2⟩ := Nm.up_fit m (Nm.tr2_fit h)
    refine ⟨?_, ?_⟩
    · rw [show 2 ^ (m + 1) * n = 2 ^ m * (2 * n) by rw [Int.pow_succ]; grind]
      exact h1
    · rw [show 2 ^ (m + 1 + 1) * n = 2 ^ (m + 1) * (2 * n) by rw [Int.pow_succ]; grind]
      exact h2
theorem pow2_le {m : Nat} (h : m ≤ 20) : (2 : Int) ^ m ≤ 1048576 := by
 have : m = 0 ∨ m = 1 ∨ m = 2 ∨ m = 3 ∨ m = 4 ∨ m = 5 ∨ m = 6 ∨ m = 7 ∨ m = 8 ∨ m = 9 ∨ m = 10 ∨ m = 11 ∨ m = 12 ∨ m = 13 ∨ m = 14 ∨ m = 15 ∨ m = 16 ∨ m = 17 ∨ m = 18 ∨ m = 19 ∨ m = 20 := by omega
 rcases this with rfl | rfl | rfl | rfl | rfl | rfl | rfl | rfl | rfl | rfl | rfl | rfl | rfl | rfl | rfl | rfl | rfl | rfl | rfl | rfl | rfl <;> decide
theorem Nm.up2_fit {m : Nat} {z : Nm} (h : z.Fit 1000000000) (hm : m ≤ 20) : (Nm.up (2 * m) z).Fit 1048576000000000 :=
  Nm.fit_mono (Nm.up_fit m h).1 (by have := pow2_le hm; omega)
theorem Nm.up40_fit {n : Nat} {z : Nm} (h : z.Fit 1000000000) (hn : n ≤ 40) : (Nm.up n z).Fit 1048576000000000 := by
 rcases (⟨n / 2, by omega⟩ : ∃ m, n = 2 * m ∧ m ≤ 20 ∨ n = 2 * m + 1 ∧ m ≤ 19) with ⟨m, ⟨rfl, hm⟩ | ⟨rfl, hm⟩⟩
 ·exact Nm.up2_fit h hm
 ·exact Nm.fit_mono (Nm.up_fit m h).2 (by have := pow2_le (m := m + 1) Ox; omega)
theorem Nm.up_succ2 (m : Nat) (z : Nm) : Nm.up (2 * (m + 1)) z = ⟨(Nm.up (2 * m) z).a * 2, (Nm.up (2 * m) z).b * 2, (Nm.up (2 * m) z).c * 2, (Nm.up (2 * m) z).d * 2, (Nm.up (2 * m) z).k + 2⟩ := by
 rw [show 2 * (m + 1) = 2 * m + 1 + 1 by omega, Nm.up, Nm.up, Nm.up_tr, Nm.up_tr, Nm.tr2]
 congr 1 <;> omega
theorem Nm.up_succ1 (m : Nat) (z : Nm) : Nm.up (m + 1) z = (Nm.up m z).tr := by rw [Nm.up, Nm.up_tr]
theorem addR_ge {x y : Nm} (h : y.k ≤ x.k) : x.addR y = ⟨(y.to x.k).a + x.a, (y.to x.k).b + x.b, (y.to x.k).c + x.c, (y.to x.k).d + x.d, x.k⟩ := by
 have e : max x.k y.k = x.k := by omega
 have e2 : x.to x.k = x := by unfold Nm.to; rw [Int.sub_self]; rfl
 unfold Nm.addR
 dsimp only
 rw [e, e2]
 congr 1 <;> omega
theorem addR_lt {x y : Nm} (h : x.k < y.k) : x.addR y = ⟨(x.to y.k).a + y.a, (x.to y.k).b + y.b, (x.to y.k).c + y.c, (x.to y.k).d + y.d, y.k⟩ := by
 have e : max x.k y.k = y.k := by omega
 have e2 : y.to y.k = y := by unfold Nm.to; rw [Int.sub_self]; rfl
 unfold Nm.addR
 dsimp only
 rw [e, e2]
theorem addR_fit {x y : Nm} (hx : x.Ok) (hy : y.Ok) : (x.addR y).Fit 4611686018427387903 := by
 have h1 := Nm.up40_fit (n := (max x.k y.k - x.k).toNat) hx.fit (by have := hx.k0; have := hx.k1; have := hy.k1; omega)
 have h2 := Nm.up40_fit (n := (max x.k y.k - y.k).toNat) hy.fit (by have := hy.k0; have := hx.k1; have := hy.k1; omega)
 obtain ⟨a1, a2, a3, a4, a5, a6, a7, a8⟩ := h1
 obtain ⟨b1, b2, b3, b4, b5, b6, b7, b8⟩ := h2
 unfold Nm.addR Nm.to
 exact ⟨by dsimp only; omega, by dsimp only; omega, by dsimp only; omega, by dsimp only; omega, by dsimp only; omega, by dsimp only; omega, by dsimp only; omega, by dsimp only; omega⟩
theorem mul_le {a b : Int} (h1 : -1000000000 ≤ a) (h2 : a ≤ 1000000000) (h3 : -1000000000 ≤ b) (h4 : b ≤ 1000000000) : -1000000000000000000 ≤ a * b ∧ a * b ≤ 1000000000000000000 := by
 rcases Int.le_total 0 a with ha | ha
 ·have e1 := Int.mul_le_mul_of_nonneg_left h3 ha
  have e2 := Int.mul_le_mul_of_nonneg_left h4 ha
  omega
 ·have e1 := Int.mul_le_mul_of_nonneg_left h3 (c := -a) Ox
  have e2 := Int.mul_le_mul_of_nonneg_left h4 (c := -a) Ox
  rw [Int.neg_mul, Int.neg_mul] at e1 e2
  omega
structure Prods (x y : Nm) : Prop where
  aa : -1000000000000000000 ≤ x.a * y.a ∧ x.a * y.a ≤ 1000000000000000000
  ab : -1000000000000000000 ≤ x.a * y.b ∧ x.a * y.b ≤ 1000000000000000000
  ac : -1000000000000000000 ≤ x.a * y.c ∧ x.a * y.c ≤ 1000000000000000000
  ad : -1000000000000000000 ≤ x.a * y.d ∧ x.a * y.d ≤ 1000000000000000000
  ba : -1000000000000000000 ≤ x.b * y.a ∧ x.b * y.a ≤ 1000000000000000000
  bb : -1000000000000000000 ≤ x.b * y.b ∧ x.b * y.b ≤ 1000000000000000000
  bc : -1000000000000000000 ≤ x.b * y.c ∧ x.b * y.c ≤ 1000000000000000000
  bd : -1000000000000000000 ≤ x.b * y.d ∧ x.b * y.d ≤ 1000000000000000000
  ca : -1000000000000000000 ≤ x.c * y.a ∧ x.c * y.a ≤ 1000000000000000000
  cb : -1000000000000000000 ≤ x.c * y.b ∧ x.c * y.b ≤ 1000000000000000000
  cc : -1000000000000000000 ≤ x.c * y.c ∧ x.c * y.c ≤ 1000000000000000000
  cd : -1000000000000000000 ≤ x.c * y.d ∧ x.c * y.d ≤ 1000000000000000000
  da : -1000000000000000000 ≤ x.d * y.a ∧ x.d * y.a ≤ 1000000000000000000
  db : -1000000000000000000 ≤ x.d * y.b ∧ x.d * y.b ≤ 1000000000000000000
  dc : -1000000000000000000 ≤ x.d * y.c ∧ x.d * y.c ≤ 1000000000000000000
  dd : -1000000000000000000 ≤ x.d * y.d ∧ x.d * y.d ≤ 1000000000000000000
theorem prods {x y : Nm} (hx : x.Fit 1000000000) (hy : y.Fit 1000000000) : Prods x y := by
 obtain ⟨a1, a2, a3, a4, a5, a6, a7, a8⟩ := hx
 obtain ⟨b1, b2, b3, b4, b5, b6, b7, b8⟩ := hy
 exact ⟨mul_le a1 a2 b1 b2, mul_le a1 a2 b3 b4, mul_le a1 a2 b5 b6, mul_le a1 a2 b7 b8, mul_le a3 a4 b1 b2, mul_le a3 a4 b3 b4, mul_le a3 a4 b5 b6, mul_le a3 a4 b7 b8,
  mul_le a5 a6 b1 b2, mul_le a5 a6 b3 b4, mul_le a5 a6 b5 b6, mul_le a5 a6 b7 b8, mul_le a7 a8 b1 b2, mul_le a7 a8 b3 b4, mul_le a7 a8 b5 b6, mul_le a7 a8 b7 b8⟩
theorem mulR_fit {x y : Nm} (hx : x.Fit 1000000000) (hy : y.Fit 1000000000) : (x.mulR y).Fit 4611686018427387903 := by
 obtain ⟨aa, ab, ac, ad, ba, bb, bc, bd, ca, cb, cc, cd, da, db, dc, dd⟩ := prods hx hy
 unfold Nm.mulR
 exact ⟨by dsimp only; omega, by dsimp only; omega, by dsimp only; omega, by dsimp only; omega, by dsimp only; omega, by dsimp only; omega, by dsimp only; omega, by dsimp only; omega⟩
theorem nf_self_iff {z : Nm} (h : 0 ≤ z.k) : z.nf = z ↔ (z.k = 0 ∨ ¬ z.even) := by
 constructor
 ·intro e
  have := nf_form z
  rw [e] at this
  exact this.imp Ox id
 ·intro hh
  exact nf_self (hh.imp Ox id)
open Go.RowKit
structure El (α : Type) where
  sz : Nat
  ec : α → List Value
  dflt : α
  pos : 0 < sz
  len : ∀ x, (ec x).length = sz
  one : ∀ x, ∀ v ∈ ec x, v.oneCell' = true
section
variable {α : Type} (E : El α)
def El.flat (xs : List α) : List Value := xs.flatMap E.ec
def El.at (xs : List α) (k : Nat) : α := xs.getD k E.dflt
theorem El.flat_cons (x : α) (xs : List α) : E.flat (x :: xs) = E.ec x ++ E.flat xs := by simp [El.flat]
theorem El.flat_app (xs ys : List α) : E.flat (xs ++ ys) = E.flat xs ++ E.flat ys := by simp [El.flat]
theorem El.flat_one (x : α) : E.flat [x] = E.ec x := by simp [El.flat]
theorem El.flat_len : ∀ xs : List α, (E.flat xs).length = xs.length * E.sz
  | [] => by simp [El.flat]
  | x :: xs => by rw [E.flat_cons, List.length_append, E.len, El.flat_len xs, List.length_cons, Nat.add_mul]; omega
theorem El.at_mem {xs : List α} {k : Nat} (h : k < xs.length) : E.at xs k ∈ xs := by
 unfold El.at; rw [List.getD_eq_getElem?_getD, List.getElem?_eq_getElem h]; exact List.getElem_mem h
theorem El.at_app {xs : List α} {k : Nat} (ys : List α) (h : k < xs.length) : E.at (xs ++ ys) k = E.at xs k := by
 unfold El.at; rw [List.getD_eq_getElem?_getD, List.getD_eq_getElem?_getD, List.getElem?_append_left h]
theorem El.at_snoc (xs : List α) (y : α) : E.at (xs ++ [y]) xs.length = y := by
 unfold El.at; rw [List.getD_eq_getElem?_getD]; simp
theorem El.get : ∀ (l : List α) (k r : Nat), k < l.length → r < E.sz → (E.flat l)[k * E.sz + r]? = (E.ec (E.at l k))[r]?
  | [], k, r, hk, _ => by simp at hk
  | x :: l, 0, r, _, hr => by
    rw [E.flat_cons, Nat.zero_mul, Nat.zero_add, List.getElem?_append_left (by rw [E.len]; exact hr)]
    simp [El.at]
  | x :: l, k + 1, r, hk, hr => by
    have e2 : (k + 1) * E.sz + r - (E.ec x).length = k * E.sz + r := by rw [E.len, Nat.add_mul]; omega
    rw [E.flat_cons, List.getElem?_append_right (by rw [E.len, Nat.add_mul]; omega), e2, El.get l k r (by simpa using hk) hr]
    simp [El.at]
theorem El.flat_one' (xs : List α) : ∀ v ∈ E.flat xs, v.oneCell' = true := by
 intro v hv
 obtain ⟨x, _, hx⟩ := List.mem_flatMap.1 hv
 exact E.one x v hx
theorem El.ext_at {xs ys : List α} (hl : xs.length = ys.length) (h : ∀ k, k < xs.length → E.at xs k = E.at ys k) : xs = ys := by
 apply List.ext_getElem hl
 intro j h1 h2
 have := h j h1
 unfold El.at at this
 rw [List.getD_eq_getElem?_getD, List.getD_eq_getElem?_getD, List.getElem?_eq_getElem h1, List.getElem?_eq_getElem h2] at this
 simpa using this
def At (w : World) (b off : Nat) (x : α) : Prop := ∀ r, r < E.sz → w.cell? ⟨b, off + r, none⟩ = (E.ec x)[r]?
variable {E}
theorem AS.openG {w : World} {a : Option Addr} {xs : List α} (h : AS w a (E.flat xs)) (hn : 0 < xs.length) :
    ∃ b off, a = some ⟨b, off, none⟩ ∧ b < w.heap.size ∧ ∀ j, j < xs.length → At E w b (off + j * E.sz) (E.at xs j) := by
  have hl := E.flat_len xs
  have hp := E.pos
  have hne : E.flat xs ≠ [] := by
    intro e; rw [e, List.length_nil] at hl
    have := Nat.mul_pos hn hp
    omega
  obtain ⟨b, off, rfl, hlt, hc⟩ := h hne
  refine ⟨b, off, rfl, hlt, fun j hj r hr => ?_⟩; rw [Nat.add_assoc, hc (j * E.sz + r) (by rw [hl]; have := Nat.mul_le_mul_right E.sz (show j + 1 ≤ xs.length by omega); rw [Nat.add_mul] at this; omega)]
  exact E.get xs j r hj hr
theorem At.kn {B w : World} {F : List Nat} {s : List Blk} {b off : Nat} {x : α} (h : At E B b off x) (K : Kn B F s w) (hb : b < B.heap.size) (hF : b ∉ F) : At E w b off x :=
  fun r hr => (K.cellB hb hF _).trans (h r hr)
theorem At.below {w w' : World} {b off : Nat} {x : α} (h : At E w b off x) (hb : b < w.heap.size) (hB : Below w.heap.size w w') : At E w' b off x :=
  fun r hr => (hB.cell (p := ⟨b, off + r, none⟩) hb).trans (h r hr)
def OwnG (E : El α) (e : Nat) (u : List Blk) (v : Value) (xs : List α) : Prop := Own e E.sz u v xs.length (E.flat xs)
theorem OwnG.nil {e : Nat} : OwnG E e [] (.slice none 0 0) [] := Own.nil _ _
theorem OwnG.as {e : Nat} {u s : List Blk} {v : Value} {xs : List α} {B w : World} {F : List Nat} (h : OwnG E e u v xs) (K : Kn B F (u ++ s) w) : ∃ a cap, v = .slice a xs.length cap ∧ AS w a (E.flat xs) := Own.as h K
end
section
variable {R : Option Nat} {P : Program} {ops : Array Oper} {Q : Exit → Act → World → Prop} {B : World} {F : List Nat} {s0 : Option (List Blk × List Blk)}
variable {l : List (Oper × Nat)} {a : Act} {s S : List Blk} {d : Option Tmp} {op : Op} {t : TypeId} {p : String} {af : Array Edge} {v : Value}
variable {α : Type} {E : El α}
theorem rg_appendG {so xo : Operand} {ty e : Nat} {i : TypeInfo} {z : Value} {u : List Blk} {xs ys : List α} {ad : Addr} {c m : Nat} {gd : Option (Nat × Bool)} (hg : Region.wanted ⟨d, .call ⟨.builtin .append, #[so, xo], #[ty, ty]⟩, t, p, af, gd⟩ (yielded ops a.tmps) = true)
    (ht : P.underlying ty = some (.slice e)) (hi : P.info? e = some i) (hz : i.zero = some z) (hsize : i.size = E.sz) (hzs : z.cells.size = E.sz) (hby : i.bytes ≤ 1000)
    (hs : a.eval so = v) (hown : OwnG E e u v xs) (hx : a.eval xo = .slice (some ad) m c) (hm : m = ys.length) (hn : xs.length + ys.length ≤ 100000000) (hp : S.Perm (u ++ s))
    (hnews : ∀ w, Kn B F S w → ∀ j x, (E.flat ys)[j]? = some x → w.cell? (ad.add j) = some x)
    (hzz : ∀ z ∈ s0, z.1.Sublist s) (h : ∀ u' v', OwnG E e u' v' (xs ++ ys) → Rg R P ops Q B F s0 l (a.put d v') (u' ++ s)) :
    Rg R P ops Q B F s0 ((⟨d, .call ⟨.builtin .append, #[so, xo], #[ty, ty]⟩, t, p, af, gd⟩, 1) :: l) a S := by
  subst hm
  refine rg_append (u := u) (s := s) (i := i) (z := z) (size := E.sz) (bytes := i.bytes) (n := xs.length) (m := ys.length) (c := c) (xs := E.flat xs) (news := E.flat ys) (ad := ad) hg ht hi hz hsize rfl hzs E.pos hs hown hx
    (E.flat_len ys) hnews (E.flat_one' ys) (by simp only [maxLen]; omega) (by have := Nat.mul_le_mul hn hby; omega) hp hzz ?_
  intro u' v' hO _; refine h u' v' ?_
  unfold OwnG
  rw [E.flat_app, List.length_append]
  exact hO
theorem rg_append1 {so xo : Operand} {ty e : Nat} {i : TypeInfo} {z : Value} {u : List Blk} {xs : List α} {x : α} {g : Nat} {gd : Option (Nat × Bool)} (hg : Region.wanted ⟨d, .call ⟨.builtin .append, #[so, xo], #[ty, ty]⟩, t, p, af, gd⟩ (yielded ops a.tmps) = true)
    (ht : P.underlying ty = some (.slice e)) (hi : P.info? e = some i) (hz : i.zero = some z) (hsize : i.size = E.sz) (hzs : z.cells.size = E.sz) (hby : i.bytes ≤ 1000)
    (hs : a.eval so = v) (hown : OwnG E e u v xs) (hx : a.eval xo = .slice (some ⟨g, 0, none⟩) 1 1) (hn : xs.length ≤ 10000000) (hp : S.Perm (u ++ s))
    (hnews : ∀ w, Kn B F S w → Hd w g e (E.ec x).toArray)
    (hzz : ∀ z ∈ s0, z.1.Sublist s) (h : ∀ u' v', OwnG E e u' v' (xs ++ [x]) → Rg R P ops Q B F s0 l (a.put d v') (u' ++ s)) :
    Rg R P ops Q B F s0 ((⟨d, .call ⟨.builtin .append, #[so, xo], #[ty, ty]⟩, t, p, af, gd⟩, 1) :: l) a S :=
  rg_appendG (ys := [x]) hg ht hi hz hsize hzs hby hs hown hx rfl (by simp; omega) hp (fun w K j y hj => by
    have hd := (hnews w K).cell j
    have e1 : (⟨g, 0, none⟩ : Addr).add j = ⟨g, j, none⟩ := by unfold Addr.add; split <;> simp_all
    rw [E.flat_one] at hj; rw [e1, hd, ← hj]
    simp) hzz h
theorem rg_or {f : Nat} {cargs : Array Operand} {at_ : Array TypeId} {args : Array Value} {gd : Option (Nat × Bool)} {X : Value → Prop}
    (hg : Region.wanted ⟨d, .call ⟨.value (.func f), cargs, at_⟩, t, p, af, gd⟩ (yielded ops a.tmps) = true) (hgo : isGo P f = true)
    (h : ∀ w, Kn B F s w → Calls P f args w (fun e w' => ∃ v, e = .returned v ∧ X v ∧ Below w.heap.size w w')) (hargs : cargs.map a.eval = args)
    (hz : ∀ z ∈ s0, z.1.Sublist s) (k : ∀ v, X v → Rg R P ops Q B F s0 l (a.put d v) s) :
    Rg R P ops Q B F s0 ((⟨d, .call ⟨.value (.func f), cargs, at_⟩, t, p, af, gd⟩, 1) :: l) a s :=
  rg_call hg hgo hargs fun w K => (h w K).mono fun e w' ⟨v, he, hX, hb⟩ => ⟨v, s, he, K.call hb, hz, k v hX⟩
end
abbrev nmC (z : Nm) : List Value := [.int .i64 z.a, .int .i64 z.b, .int .i64 z.c, .int .i64 z.d, .int .i64 z.k]
abbrev nmV (z : Nm) : Value := .agg #[.int .i64 z.a, .int .i64 z.b, .int .i64 z.c, .int .i64 z.d, .int .i64 z.k]
abbrev NmE : El Nm := ⟨5, nmC, Nm.zero, by decide, fun _ => rfl, fun x v hv => by simp at hv; rcases hv with rfl | rfl | rfl | rfl | rfl <;> rfl⟩
abbrev nms (xs : List Nm) : List Value := NmE.flat xs
abbrev nm (xs : List Nm) (k : Nat) : Nm := NmE.at xs k
structure NmAt (w : World) (b off : Nat) (z : Nm) : Prop where
  c0 : w.cell? ⟨b, off, none⟩ = some (.int .i64 z.a)
  c1 : w.cell? ⟨b, off + 1, none⟩ = some (.int .i64 z.b)
  c2 : w.cell? ⟨b, off + 2, none⟩ = some (.int .i64 z.c)
  c3 : w.cell? ⟨b, off + 3, none⟩ = some (.int .i64 z.d)
  c4 : w.cell? ⟨b, off + 4, none⟩ = some (.int .i64 z.k)
theorem AS.openN {w : World} {a : Option Addr} {xs : List Nm} (h : AS w a (nms xs)) (hn : 0 < xs.length) :
    ∃ b off, a = some ⟨b, off, none⟩ ∧ b < w.heap.size ∧ ∀ j, j < xs.length → NmAt w b (off + j * 5) (nm xs j) := by
  obtain ⟨b, off, ha, hb, hc⟩ := h.openG hn
  exact ⟨b, off, ha, hb, fun j hj => ⟨hc j hj 0 (by decide), hc j hj 1 (by decide), hc j hj 2 (by decide), hc j hj 3 (by decide), hc j hj 4 (by decide)⟩⟩
theorem NmAt.kn {B w : World} {F : List Nat} {s : List Blk} {b off : Nat} {z : Nm} (h : NmAt B b off z) (K : Kn B F s w) (hb : b < B.heap.size) (hF : b ∉ F) : NmAt w b off z :=
  ⟨(K.cellB hb hF _).trans h.c0, (K.cellB hb hF _).trans h.c1, (K.cellB hb hF _).trans h.c2, (K.cellB hb hF _).trans h.c3, (K.cellB hb hF _).trans h.c4⟩
def numV (r : NR) : Value := match r with
  | .ok z => .tuple #[nmV z, .int .i64 0]
  | .error c => .tuple #[nmV Nm.zero, .int .i64 c]
section
variable {R : Option Nat} {P : Program} {ops : Array Oper} {Q : Exit → Act → World → Prop} {B : World} {F : List Nat} {s0 : Option (List Blk × List Blk)}
variable {l : List (Oper × Nat)} {a : Act} {s S : List Blk} {d : Option Tmp} {op : Op} {t : TypeId} {p : String} {af : Array Edge} {v : Value}
theorem rg_num {f : Nat} {cargs : Array Operand} {at_ : Array TypeId} {args : Array Value} {r : NR} {c0 : Int} {gd : Option (Nat × Bool)} (hg : Region.wanted ⟨d, .call ⟨.value (.func f), cargs, at_⟩, t, p, af, gd⟩ (yielded ops a.tmps) = true) (hgo : isGo P f = true)
    (h : ∀ w, Kn B F s w → Calls P f args w (fun e w' => e = .returned (numV r) ∧ Below w.heap.size w w')) (hargs : cargs.map a.eval = args)
    (hz : ∀ z ∈ s0, z.1.Sublist s) (hc : ∀ c, r = .error c → c = c0) (ke : r = .error c0 → Rg R P ops Q B F s0 l (a.put d (.tuple #[nmV Nm.zero, .int .i64 c0])) s)
    (k : ∀ z, r = .ok z → Rg R P ops Q B F s0 l (a.put d (.tuple #[nmV z, .int .i64 0])) s) :
    Rg R P ops Q B F s0 ((⟨d, .call ⟨.value (.func f), cargs, at_⟩, t, p, af, gd⟩, 1) :: l) a s := by
  refine rg_pure hg hgo h hargs hz ?_
  cases hr : r with
  | ok z => exact k z hr
  | error c => have := hc c hr; subst this; exact ke hr
end
abbrev LR := Except Int (List Nm)
def gather (f : Nat → NR) : Nat → LR
  | 0 => .ok []
  | t + 1 => match gather f t with
    | .error c => .error c
    | .ok l => match f t with
      | .ok z => .ok (l ++ [z])
      | .error c => .error c
theorem gather_ok {f : Nat → NR} {t : Nat} {l : List Nm} {z : Nm} (h : gather f t = .ok l) (hz : f t = .ok z) : gather f (t + 1) = .ok (l ++ [z]) := by
 simp only [gather, h, hz]
theorem gather_err {f : Nat → NR} {t : Nat} {l : List Nm} {c : Int} (h : gather f t = .ok l) (hz : f t = .error c) : ∀ m, t < m → gather f m = .error c := by
 intro m hm
 induction m with
 | zero => omega
 | succ m ih =>
  rcases (by omega : t = m ∨ t < m) with rfl | hm
  ·simp only [gather, h, hz]
  ·simp only [gather, ih hm]
theorem gather_len {f : Nat → NR} : ∀ {t : Nat} {l : List Nm}, gather f t = .ok l → l.length = t
  | 0, l, h => by cases h; rfl
  | t + 1, l, h => by
    simp only [gather] at h
    split at h
    · cases h
    · next l0 h0 =>
      split at h
      · cases h
        simp [gather_len h0]
      · cases h
theorem gather_get {f : Nat → NR} : ∀ {t : Nat} {l : List Nm}, gather f t = .ok l → ∀ i, i < t → f i = .ok (nm l i)
  | 0, _, _, i, hi => by omega
  | t + 1, l, h, i, hi => by
    simp only [gather] at h
    split at h
    · cases h
    · next l0 h0 =>
      split at h
      · next z hz =>
        cases h
        have hl := gather_len h0
        rcases (by omega : i < t ∨ i = t) with h1 | rfl
        · rw [gather_get h0 i h1]
          exact congrArg _ (NmE.at_app [z] Ox).symm
        · rw [hz, ← hl]
          exact congrArg _ (NmE.at_snoc l0 z).symm
      · cases h
theorem gather_congr {f g : Nat → NR} : ∀ t, (∀ i, i < t → f i = g i) → gather f t = gather g t
  | 0, _ => rfl
  | t + 1, h => by simp only [gather, gather_congr t fun i hi => h i Ox, h t Ox]
theorem gather_err_mem {f : Nat → NR} {c : Int} : ∀ {t : Nat}, gather f t = .error c → ∃ i, i < t ∧ f i = .error c
  | 0, h => by cases h
  | t + 1, h => by
    simp only [gather] at h
    split at h
    · next c' h0 =>
      cases h
      obtain ⟨i, hi, he⟩ := gather_err_mem h0
      exact ⟨i, by omega, he⟩
    · split at h
      · cases h
      · next c' he =>
        cases h
        exact ⟨t, by omega, he⟩
theorem gather_pure (f : Nat → Nm) : ∀ t, gather (fun i => .ok (f i)) t = .ok ((List.range t).map f)
  | 0 => rfl
  | t + 1 => by simp only [gather, gather_pure f t, List.range_succ, List.map_append, List.map_cons, List.map_nil]
def rN (N : Nat) (r : LR) : Int := match r with
  | .ok _ => N
  | .error _ => 0
def rL (r : LR) : List Nm := match r with
  | .ok l => l
  | .error _ => []
def rC (r : LR) : Int := match r with
  | .ok _ => 0
  | .error c => c
def madeR (N : Nat) (f : Nat → Nat → NR) : LR := gather (fun t => f (t / N) (t % N)) (N * N)
theorem ix_div {N i k : Nat} (hk : k < N) : (i * N + k) / N = i := by
 rw [Nat.mul_comm, Nat.mul_add_div Ox, Nat.div_eq_of_lt hk, Nat.add_zero]
theorem ix_mod {N i k : Nat} (hk : k < N) : (i * N + k) % N = k := by
 rw [Nat.mul_comm, Nat.mul_add_mod, Nat.mod_eq_of_lt hk]
theorem ix_lt {N i k : Nat} (hi : i < N) (hk : k < N) : i * N + k < N * N := by
 have := Nat.mul_le_mul_right N (show i + 1 ≤ N by omega)
 rw [Nat.add_mul, Nat.one_mul] at this
 omega
theorem made_congr {N : Nat} {f g : Nat → Nat → NR} (h : ∀ i k, i < N → k < N → f i k = g i k) : madeR N f = madeR N g := by
 refine gather_congr _ fun t ht => ?_
 have hN : 0 < N := by
  rcases Nat.eq_zero_or_pos N with rfl | h
  ·simp at ht
  ·exact h
 exact h _ _ (Nat.div_lt_of_lt_mul ht) (Nat.mod_lt _ hN)
theorem made_get {N : Nat} {f : Nat → Nat → NR} {l : List Nm} (h : madeR N f = .ok l) {i k : Nat} (hi : i < N) (hk : k < N) : f i k = .ok (nm l (i * N + k)) := by
 have := gather_get h (i * N + k) (ix_lt hi hk)
 rwa [ix_div hk, ix_mod hk] at this
theorem made_len {N : Nat} {f : Nat → Nat → NR} {l : List Nm} (h : madeR N f = .ok l) : l.length = N * N := gather_len h
theorem setMany_list : ∀ (vs l : List Value) (i : Nat), i + vs.length ≤ l.length → setMany l.toArray i vs = (l.take i ++ (vs ++ l.drop (i + vs.length))).toArray
  | [], l, i, _ => by
    show l.toArray = (l.take i ++ ([] ++ l.drop (i + 0))).toArray
    rw [List.nil_append, Nat.add_zero, List.take_append_drop]
  | v :: vs, l, i, h => by
    have hi : i < l.length := by simp at h; omega
    have e1 : l.toArray.setIfInBounds i v = (l.set i v).toArray := by simp
    rw [setMany, e1, setMany_list vs (l.set i v) (i + 1) (by simp at h ⊢; omega)]
    congr 1
    have e2 : (l.set i v).take (i + 1) = l.take i ++ [v] := by
      rw [List.take_add_one, List.take_set_of_le (Nat.le_refl i), List.getElem?_set_self hi]
      rfl
    have e3 : (l.set i v).drop (i + 1 + vs.length) = l.drop (i + (v :: vs).length) := by
      rw [List.drop_set_of_lt Ox]
      congr 1
      simp only [List.length_cons]; omega
    rw [e2, e3, List.append_assoc]
    rfl
section
variable {α : Type} {E : El α}
theorem El.flat_set : ∀ (xs : List α) (k : Nat) (y : α) (rest : List Value), k < xs.length → (E.flat xs ++ rest).take (k * E.sz) ++ (E.ec y ++ (E.flat xs ++ rest).drop (k * E.sz + E.sz)) = E.flat (xs.set k y) ++ rest
  | [], k, _, _, h => by simp at h
  | x :: t, 0, y, rest, _ => by
    have hx := E.len x
    rw [List.set_cons_zero, El.flat_cons, El.flat_cons, Nat.zero_mul, List.take_zero, List.nil_append, Nat.zero_add, List.append_assoc, List.append_assoc, ← hx, List.drop_left]
  | x :: t, k + 1, y, rest, h => by
    have hx := E.len x
    have e : (k + 1) * E.sz = (E.ec x).length + k * E.sz := by rw [hx, Nat.add_mul]; omega
    rw [List.set_cons_succ, El.flat_cons, El.flat_cons, List.append_assoc, List.append_assoc, e, List.take_length_add_append, List.append_assoc, Nat.add_assoc, List.drop_length_add_append, El.flat_set t k y rest (by simpa using h)]
theorem fl_set {xs : List α} {k : Nat} {y : α} {rest : List Value} (hk : k < xs.length) : setMany (E.flat xs ++ rest).toArray (0 + k * E.sz) (E.ec y) = (E.flat (xs.set k y) ++ rest).toArray := by
 have hl := E.flat_len xs
 have hb := Nat.mul_le_mul_right E.sz (show k + 1 ≤ xs.length by omega)
 rw [Nat.add_mul, Nat.one_mul] at hb
 rw [Nat.zero_add, setMany_list _ _ _ (by rw [E.len, List.length_append]; omega), E.len, El.flat_set xs k y rest hk]
theorem fl_size {xs : List α} {k : Nat} {rest : List Value} {y : α} (hk : k < xs.length) : 0 + k * E.sz + (E.ec y).length ≤ ((E.flat xs ++ rest).toArray).size := by
 have hl := E.flat_len xs
 have hb := Nat.mul_le_mul_right E.sz (show k + 1 ≤ xs.length by omega)
 rw [Nat.add_mul, Nat.one_mul] at hb
 rw [E.len]
 simp only [List.size_toArray, List.length_append]
 omega
theorem El.at_set (xs : List α) (k j : Nat) (y : α) (hk : k < xs.length) : E.at (xs.set k y) j = if j = k then y else E.at xs j := by
 unfold El.at
 rw [List.getD_eq_getElem?_getD, List.getElem?_set, List.getD_eq_getElem?_getD]
 by_cases h : k = j
 ·subst h; rw [if_pos rfl, if_pos hk, if_pos rfl]; rfl
 ·rw [if_neg h, if_neg (fun e => h e.symm)]
end
theorem numInfo : (Tryz.prog.info? 44).map (fun i => (i.zero, i.size, i.bytes)) = some (some (.agg #[.int .i64 0, .int .i64 0, .int .i64 0, .int .i64 0, .int .i64 0]), 5, 40) := by kernel_rfl
theorem info_partsN {α β γ : Type} {o : Option TypeInfo} {f : TypeInfo → α} {g : TypeInfo → β} {h : TypeInfo → γ} {x : α} {y : β} {z : γ} (e : o.map (fun i => (f i, g i, h i)) = some (x, y, z)) : ∃ i, o = some i ∧ f i = x ∧ g i = y ∧ h i = z := by
 cases o with
 | none => simp at e
 | some i => simp at e; exact ⟨i, rfl, e.1, e.2.1, e.2.2⟩
abbrev OwnN (u : List Blk) (v : Value) (xs : List Nm) : Prop := OwnG NmE 44 u v xs
def RetM (w : World) (n : Int) (zs : List Nm) (c : Int) (e : Ending) (w' : World) : Prop :=
  ∃ v u, e = .returned (.tuple #[.agg #[.int .i64 n, v], .int .i64 c]) ∧ OwnN u v zs ∧ Made w u w'
def RetM1 (w : World) (n : Int) (zs : List Nm) (e : Ending) (w' : World) : Prop :=
  ∃ v u, e = .returned (.agg #[.int .i64 n, v]) ∧ OwnN u v zs ∧ Made w u w'
abbrev RetR (w : World) (N : Nat) (r : LR) (e : Ending) (w' : World) : Prop := RetM w (rN N r) (rL r) (rC r) e w'
def FnV (w : World) (fv : Value) (D : Array Value → Value → Prop) : Prop :=
  ∃ fn pre caps, fv = .func (.func fn) pre caps ∧ isGo Tryz.prog fn = true ∧ ∀ w', Below w.heap.size w w' → ∀ vs r, D vs r → Calls Tryz.prog fn (pre ++ vs ++ caps) w' fun e w'' => e = .returned r ∧ Below w'.heap.size w' w''
theorem below_trans {w w' w'' : World} (h : Below w.heap.size w w') (h' : Below w'.heap.size w' w'') : Below w.heap.size w w'' := h.trans (h'.mono h.size)
theorem FnV.below {w w' : World} {fv : Value} {D : Array Value → Value → Prop} (h : FnV w fv D) (hb : Below w.heap.size w w') : FnV w' fv D := by
 obtain ⟨fn, pre, caps, rfl, hgo, h⟩ := h
 exact ⟨fn, pre, caps, rfl, hgo, fun w1 h1 => h w1 (below_trans hb h1)⟩
abbrev D2 (N M : Nat) (f : Nat → Nat → Value) : Array Value → Value → Prop := fun vs r => ∃ i k, i < N ∧ k < M ∧ vs = #[.int .i64 (i : Int), .int .i64 (k : Int)] ∧ r = f i k
abbrev D1 (N : Nat) (f : Nat → Value) : Array Value → Value → Prop := fun vs r => ∃ i, i < N ∧ vs = #[.int .i64 (i : Int)] ∧ r = f i
section
variable {R : Option Nat} {ops : Array Oper} {Q : Exit → Act → World → Prop} {B : World} {F : List Nat} {s0 : Option (List Blk × List Blk)}
variable {l : List (Oper × Nat)} {a : Act} {s S : List Blk} {d : Option Tmp} {op : Op} {t : TypeId} {p : String} {af : Array Edge} {v : Value}
theorem rg_callF {fo : Operand} {f : Nat} {cargs : Array Operand} {at_ : Array TypeId} {pre caps vs : Array Value} {P : Program} {gd : Option (Nat × Bool)} (hg : Region.wanted ⟨d, .call ⟨.value fo, cargs, at_⟩, t, p, af, gd⟩ (yielded ops a.tmps) = true)
    (hf : a.eval fo = .func (.func f) pre caps) (hgo : isGo P f = true) (hargs : cargs.map a.eval = vs)
    (h : ∀ w, Kn B F s w → Calls P f (pre ++ vs ++ caps) w (fun e w' => ∃ v s', e = .returned v ∧ Kn B F s' w' ∧ (∀ z ∈ s0, z.1.Sublist s') ∧ Rg R P ops Q B F s0 l (a.put d v) s')) :
    Rg R P ops Q B F s0 ((⟨d, .call ⟨.value fo, cargs, at_⟩, t, p, af, gd⟩, 1) :: l) a s := by
  refine .inl fun w K => ?_
  unfold hop
  rw [if_pos hg]
  unfold Oper.wp
  have hr : (execOp a.eval ⟨d, .call ⟨.value fo, cargs, at_⟩, t, p, af, gd⟩).run P w = .ok (.enter f (pre ++ vs ++ caps)) w := by
    have hx : execOp a.eval ⟨d, .call ⟨.value fo, cargs, at_⟩, t, p, af, gd⟩ = (do let d ← resolve a.eval ⟨.value fo, cargs, at_⟩ t; invoke d.target d.args) := rfl
    have hv : (resolve a.eval ⟨.value fo, cargs, at_⟩ t) = pure { target := .fn (.func f) caps, args := pre ++ vs } := by
      simp only [resolve, hf, hargs, Deferred.ofValue]
    rw [hx, hv]
    exact run_callFunc_go hgo _ w
  rw [hr]
  refine (h w K).mono fun e w' he => ?_
  obtain ⟨v, s', rfl, K', hz, h'⟩ := he
  exact ⟨s', K', hz, h'⟩
theorem rg_fnv {fo : Operand} {cargs : Array Operand} {at_ : Array TypeId} {vs : Array Value} {fv : Value} {D : Array Value → Value → Prop} {gd : Option (Nat × Bool)} (r : Value) (hg : Region.wanted ⟨d, .call ⟨.value fo, cargs, at_⟩, t, p, af, gd⟩ (yielded ops a.tmps) = true)
    (hF : FnV B fv D) (hf : a.eval fo = fv) (hargs : cargs.map a.eval = vs) (hD : D vs r)
    (hz : ∀ z ∈ s0, z.1.Sublist s) (k : Rg R Tryz.prog ops Q B [] s0 l (a.put d r) s) : Rg R Tryz.prog ops Q B [] s0 ((⟨d, .call ⟨.value fo, cargs, at_⟩, t, p, af, gd⟩, 1) :: l) a s := by
  obtain ⟨fn, pre, caps, rfl, hgo, h⟩ := hF
  exact rg_callF hg hf hgo hargs fun w K => (h w K.below vs r hD).mono fun e w' ⟨he, hb⟩ => ⟨r, s, he, K.call hb, hz, k⟩
theorem rg_appN {so xo : Operand} {u : List Blk} {xs : List Nm} {x : Nm} {g : Nat} {gd : Option (Nat × Bool)} (hg : Region.wanted ⟨d, .call ⟨.builtin .append, #[so, xo], #[26, 26]⟩, t, p, af, gd⟩ (yielded ops a.tmps) = true)
    (hs : a.eval so = v) (hown : OwnN u v xs) (hx : a.eval xo = .slice (some ⟨g, 0, none⟩) 1 1) (hn : xs.length ≤ 10000000) (hp : S.Perm (u ++ s))
    (hnews : ∀ w, Kn B F S w → Hd w g 44 (nmC x).toArray)
    (hzz : ∀ z ∈ s0, z.1.Sublist s) (h : ∀ u' a' c', OwnN u' (.slice a' (xs.length + 1) c') (xs ++ [x]) → Rg R Tryz.prog ops Q B F s0 l (a.put d (.slice a' (xs.length + 1) c')) (u' ++ s)) :
    Rg R Tryz.prog ops Q B F s0 ((⟨d, .call ⟨.builtin .append, #[so, xo], #[26, 26]⟩, t, p, af, gd⟩, 1) :: l) a S := by
  obtain ⟨i, hi, hz, hsz, hb⟩ := info_partsN numInfo
  refine rg_append1 (E := NmE) (u := u) (s := s) (i := i) hg UU26 hi hz hsz rfl Ox hs hown hx hn hp hnews hzz fun u' v' hO => ?_
  obtain ⟨a', c', rfl, -⟩ := Own.val hO
  have e : (xs ++ [x]).length = xs.length + 1 := by simp
  rw [e] at hO ⊢
  exact h u' a' c' hO
theorem rg_retM {f : Nat} {cargs : Array Operand} {at_ : Array TypeId} {args : Array Value} {n c : Int} {zs : List Nm} {P : Program} {gd : Option (Nat × Bool)} (hg : Region.wanted ⟨d, .call ⟨.value (.func f), cargs, at_⟩, t, p, af, gd⟩ (yielded ops a.tmps) = true) (hgo : isGo P f = true)
    (h : ∀ w, Kn B F s w → Calls P f args w (RetM w n zs c)) (hargs : cargs.map a.eval = args)
    (hz : ∀ z ∈ s0, z.1.Sublist s) (k : ∀ (va : Option Addr) (vc : Nat) (u : List Blk), OwnN u (.slice va zs.length vc) zs → Rg R P ops Q B F s0 l (a.put d (.tuple #[.agg #[.int .i64 n, .slice va zs.length vc], .int .i64 c])) (u ++ s)) :
    Rg R P ops Q B F s0 ((⟨d, .call ⟨.value (.func f), cargs, at_⟩, t, p, af, gd⟩, 1) :: l) a s :=
  rg_call hg hgo hargs fun w K => (h w K).mono fun e w' ⟨v, u, he, hO, hm⟩ => by
    obtain ⟨a', c', rfl, -⟩ := Own.val hO
    exact ⟨_, u ++ s, he, K.add hm, fun z hz' => (hz z hz').trans (Sr _ _), k a' c' u hO⟩
theorem rg_retM1 {f : Nat} {cargs : Array Operand} {at_ : Array TypeId} {args : Array Value} {n : Int} {zs : List Nm} {P : Program} {gd : Option (Nat × Bool)} (hg : Region.wanted ⟨d, .call ⟨.value (.func f), cargs, at_⟩, t, p, af, gd⟩ (yielded ops a.tmps) = true) (hgo : isGo P f = true)
    (h : ∀ w, Kn B F s w → Calls P f args w (RetM1 w n zs)) (hargs : cargs.map a.eval = args)
    (hz : ∀ z ∈ s0, z.1.Sublist s) (k : ∀ (va : Option Addr) (vc : Nat) (u : List Blk), OwnN u (.slice va zs.length vc) zs → Rg R P ops Q B F s0 l (a.put d (.agg #[.int .i64 n, .slice va zs.length vc])) (u ++ s)) :
    Rg R P ops Q B F s0 ((⟨d, .call ⟨.value (.func f), cargs, at_⟩, t, p, af, gd⟩, 1) :: l) a s :=
  rg_call hg hgo hargs fun w K => (h w K).mono fun e w' ⟨v, u, he, hO, hm⟩ => by
    obtain ⟨a', c', rfl, -⟩ := Own.val hO
    exact ⟨_, u ++ s, he, K.add hm, fun z hz' => (hz z hz').trans (Sr _ _), k a' c' u hO⟩
end
theorem FnV.lit {fn : Nat} {D : Array Value → Value → Prop} {w : World} (hgo : isGo Tryz.prog fn = true) (h : ∀ w' vs r, D vs r → Calls Tryz.prog fn vs w' fun e w'' => e = .returned r ∧ Below w'.heap.size w' w'') : FnV w (.func (.func fn) #[] #[]) D :=
  ⟨fn, #[], #[], rfl, hgo, fun w' _ vs r hD => by simpa using h w' vs r hD⟩
abbrev zs (xs : List Int) : List Value := xs.map (.int .i64 ·)
theorem zInfo : (Tryz.prog.info? 3).map (fun i => (i.zero, i.size, i.bytes)) = some (some (.int .i64 0), 1, 8) := by kernel_rfl
def OwnZ (u : List Blk) (v : Value) (xs : List Int) : Prop := Own 3 1 u v xs.length (zs xs)
theorem OwnZ.one {g : Nat} (x : Int) : OwnZ [(g, .cells #[.int .i64 x] 3)] (.slice (some ⟨g, 0, none⟩) 1 1) [x] :=
  Own.whole (cur := #[.int .i64 x]) rfl (by simp only [maxLen]; omega)
theorem Own.open1 {e n : Nat} {u : List Blk} {v : Value} {xs : List Value} (h : Own e 1 u v n xs) (hn : 0 < n) : ∃ g cap rest, u = [(g, .cells (xs ++ rest).toArray e)] ∧ v = .slice (some ⟨g, 0, none⟩) n cap ∧ xs.length = n := by
 obtain ⟨hl, ⟨rfl, rfl, h0⟩ | ⟨g, cap, cur, rfl, rfl, hc, hm, hs, ht⟩⟩ := h
 ·omega
 ·refine ⟨g, cap, cur.toList.drop (n * 1), ?_, rfl, by omega⟩
  rw [← ht, List.take_append_drop]
theorem amconj_any (z : Nm) (h : z.Fit 4611686018427387903) (w : World) : Calls Tryz.prog 81 #[nmV z] w fun e w' => e = .returned (nmV z.conj) ∧ Below w.heap.size w w' := by
 obtain ⟨fa0, fa1, fb0, fb1, fc0, fc1, fd0, fd1⟩ := h
 go_enter Tryz.func81, Tryz.ntmps81
 refine wk_start ?_
 refine wk_seq ?_
 refine Wr [1, 1] ?_
 refine Rgn fun g1 => ?_
 simp only [qz]
 refine Rgn fun g2 => ?_
 simp only [qz]
 refine Zr ?_
 refine Wr [0, 0, 0, 0, 0, 0, 0, 0, 0, 0, 0, 0, 0, 0, 0, 0, 0, 0, 0, 1] ?_
 refine Fd 3 0 UU44 ?_
 refine Ia 0 1 0 UU42 ?_
 refine rf_load rfl rfl rfl UU3 rfl (fun w hw => (Kn.hd0 (Kn.tl hw)).at rfl) (Nq ?_)
 refine Fd 3 0 UU44 ?_
 refine Ia 3 1 3 UU42 ?_
 refine rf_load rfl rfl rfl UU3 rfl (fun w hw => (Kn.hd0 (Kn.tl hw)).at rfl) (Nq ?_)
 refine rf_neg rfl rfl rfl (wrap_ok Ox Ox) (Nq ?_)
 refine Fd 3 0 UU44 ?_
 refine Ia 2 1 2 UU42 ?_
 refine rf_load rfl rfl rfl UU3 rfl (fun w hw => (Kn.hd0 (Kn.tl hw)).at rfl) (Nq ?_)
 refine rf_neg rfl rfl rfl (wrap_ok Ox Ox) (Nq ?_)
 refine Fd 3 0 UU44 ?_
 refine Ia 1 1 1 UU42 ?_
 refine rf_load rfl rfl rfl UU3 rfl (fun w hw => (Kn.hd0 (Kn.tl hw)).at rfl) (Nq ?_)
 refine rf_neg rfl rfl rfl (wrap_ok Ox Ox) (Nq ?_)
 refine rf_build (cs := fun a => #[a.eval (.tmp 5), a.eval (.tmp 9), a.eval (.tmp 13), a.eval (.tmp 17)]) rfl rfl Kx (Nq ?_)
 refine Fd 0 4 UU44 ?_
 refine rf_load rfl rfl rfl UU3 rfl (fun w hw => (Kn.hd0 (Kn.tl hw)).at rfl) (Nq ?_)
 refine rf_build (cs := fun a => #[cellAt (a.eval (.tmp 18)) 0, cellAt (a.eval (.tmp 18)) 1, cellAt (a.eval (.tmp 18)) 2, cellAt (a.eval (.tmp 18)) 3, a.eval (.tmp 20)]) rfl rfl Kx (Nq ?_)
 refine rf_storeR (n := 5) rfl rfl Kx rfl rfl (UpdR.here _ _ _ Nl) Nz (Nw ?_)
 refine Zr ?_
 refine ek_ret (fun w hw => ⟨rfl, _, run_results1 rfl rfl (Kn.hd0 hw) UU44 rfl Kx, ?_⟩)
 (try simp only [qz])
 first | exact ⟨rfl, hw.below⟩ | exact ⟨trivial, hw.below⟩ | exact hw.below
theorem and1 (x : Int) : bits .and .i64 x 1 = x % 2 := by
 show IntKind.i64.wrap ((BitVec.ofInt 64 x &&& BitVec.ofInt 64 1).toNat : Int) = _
 have h1 : (BitVec.ofInt 64 (1 : Int)).toNat = 1 := by decide
 rw [BitVec.toNat_and, h1, Nat.and_one_is_mod, BitVec.toNat_ofInt, IntKind.wrap_i64]
 omega
theorem tdiv2 {x : Int} (h : x % 2 = 0) : x.tdiv 2 = x / 2 := Int.tdiv_eq_ediv_of_dvd (Int.dvd_of_emod_eq_zero h)
set_option maxHeartbeats 4000000 in
theorem reduced_any (z : Nm) (hz : z.Fit 4611686018427387903) (hk : z.k ≤ 1000000) (w : World) : Calls Tryz.prog 95 #[nmV z] w fun e w' => e = .returned (.tuple #[nmV z.nf, .bool z.nf.small]) ∧ Below w.heap.size w w' := by
 go_enter Tryz.func95, Tryz.ntmps95
 refine wk_start ?_
 refine wk_seq ?_
 refine Wr [1, 1, 0] ?_
 refine Rgn fun g1 => ?_
 simp only [qz]
 refine Rgn fun g2 => ?_
 refine Zx ?_
 refine rg_nil (ek_next ?_)
 refine wk_cutF [4, 8, 9, 10, 11, 12, 13, 14, 15, 16, 17, 18, 19, 20, 21, 22, 23, 24, 25, 26, 27, 28, 29, 30, 31, 32, 33, 34, 35, 36, 37, 38, 39, 40, 41, 42, 43, 44, 45, 46, 47, 48, 49, 50, 51, 52, 53, 54, 55, 56, 57, 58, 59, 60, 61, 62, 63, 64] (fun f s => ∃ (y : Nm), s = ((g2, .cells #[.int .i64 0, .int .i64 0, .int .i64 0, .int .i64 0, .int .i64 0] 44) :: ((g1, .cells #[.int .i64 y.a, .int .i64 y.b, .int .i64 y.c, .int .i64 y.d, .int .i64 y.k] 135) :: [])) ∧ y.Fit 4611686018427387903 ∧ y = z.nf) ?_ ?_
 ·refine wk_block ?_
  refine wk_loopF [4, 8, 9, 10, 11, 12, 13, 14, 15, 16, 17, 18, 19, 20, 21, 22, 23, 24, 25, 26, 27, 28, 29, 30, 31, 32, 33, 34, 35, 36, 37, 38, 39, 40, 41, 42, 43, 44, 45, 46, 47, 48, 49, 50, 51, 52, 53, 54, 55, 56, 57, 58, 59, 60, 61, 62, 63, 64] (fun mz f s => ∃ (y : Nm), s = ((g2, .cells #[.int .i64 0, .int .i64 0, .int .i64 0, .int .i64 0, .int .i64 0] 44) :: ((g1, .cells #[.int .i64 y.a, .int .i64 y.b, .int .i64 y.c, .int .i64 y.d, .int .i64 y.k] 135) :: [])) ∧ mz = y.k.toNat ∧ y.Fit 4611686018427387903 ∧ y.nf = z.nf ∧ y.k ≤ 1000000) ((fun (y : Nm) => y.k.toNat) (z)) ?_ Kx ?_
  ·exact ⟨z, rfl, rfl, hz, rfl, hk⟩
  rintro mz f1 s ⟨y, rfl, hn, hc1, hc2, hc3⟩
  simp only [Act.putF, List.foldl_cons, List.foldl_nil, Act.put, Act.eval, qW, Nat.reduceAdd, Bool.not_true, Bool.not_false]
  have hF := hc1
  have hr := Lib.hid hc2
  clear hc2
  obtain ⟨fa0, fa1, fb0, fb1, fc0, fc1, fd0, fd1⟩ := hc1
  refine wk_seq (wk_seq ?_); refine Wr [0, 0, 0, 0, 0, 0, 0, 0, 0, 0, 0, 0, 0, 0, 0, 0, 0, 0, 0, 0, 0, 0, 0, 0, 0] ?_; refine Fd 0 4 UU135 ?_; refine rf_load rfl rfl rfl UU3 rfl (fun w hw => (Kn.hd0 (Kn.tl hw)).at rfl) (Nq ?_); refine rfb_gtr rfl rfl rfl rfl ?_
  rintro (_ | _) h1 <;> try simp only [qd, ne_eq] at h1
  ·refine Zx ?_
   refine rg_nil (ek_next (wk_cond_f rfl (wk_exit (ek_then_exit (ek_then_exit (ek_block_exit ?_)))))); refine ek_midF Kx ?_
   exact ⟨y, by rfl, hF, (by rw [← hr.out, nf_stop (fun ⟨h1, h2, h3⟩ => by omega)])⟩
  refine Zx ?_; refine Fd 3 0 UU135 ?_; refine Ia 0 1 0 UU42 ?_; refine rf_load rfl rfl rfl UU3 rfl (fun w hw => (Kn.hd0 (Kn.tl hw)).at rfl) (Nq ?_); refine Fd 3 0 UU135 ?_; refine Ia 2 1 2 UU42 ?_; refine rf_load rfl rfl rfl UU3 rfl (fun w hw => (Kn.hd0 (Kn.tl hw)).at rfl) (Nq ?_); refine rf_add rfl rfl rfl rfl (wrap_ok Ox Ox) (Nq ?_); apply rg_soft_g
  case hg => rfl
  case hy => (intro w hw; have hand := and1; exact Gy)
  simp only [qz]; refine rfb_eql rfl rfl rfl rfl ?_
  rintro (_ | _) h2 <;> try simp only [qd, ne_eq] at h2
  ·refine Zx ?_
   refine rg_nil (ek_next (wk_cond_f rfl (wk_exit (ek_then_exit (ek_then_exit (ek_block_exit ?_)))))); refine ek_midF Kx ?_
   exact ⟨y, by rfl, hF, (by rw [← hr.out, nf_stop (fun ⟨h1, h2, h3⟩ => by omega)])⟩
  refine Zx ?_; refine Fd 3 0 UU135 ?_; refine Ia 1 1 1 UU42 ?_; refine rf_load rfl rfl rfl UU3 rfl (fun w hw => (Kn.hd0 (Kn.tl hw)).at rfl) (Nq ?_); refine Fd 3 0 UU135 ?_; refine Ia 3 1 3 UU42 ?_; refine rf_load rfl rfl rfl UU3 rfl (fun w hw => (Kn.hd0 (Kn.tl hw)).at rfl) (Nq ?_); refine rf_add rfl rfl rfl rfl (wrap_ok Ox Ox) (Nq ?_); apply rg_soft_g
  case hg => rfl
  case hy => (intro w hw; have hand := and1; exact Gy)
  simp only [qz]; refine rfb_eql rfl rfl rfl rfl ?_
  rintro (_ | _) h3 <;> try simp only [qd, ne_eq] at h3
  ·refine Zx ?_
   refine rg_nil (ek_next (wk_cond_f rfl (wk_exit (ek_then_exit (ek_then_exit (ek_block_exit ?_)))))); refine ek_midF Kx ?_
   exact ⟨y, by rfl, hF, (by rw [← hr.out, nf_stop (fun ⟨h1, h2, h3⟩ => by omega)])⟩
  refine Zx ?_; refine Zr ?_; refine Wr [0, 0, 1, 1] ?_; refine Fd 3 0 UU135 ?_; refine rf_loadR (n := 4) rfl rfl rfl UU42 rfl Kx (fun w hw => Kn.hd0 (Kn.tl hw)) rfl rfl (Nq ?_)
  refine Rgn fun g3 => ?_
  simp only [qz]; refine rf_storeR (n := 4) rfl rfl Kx rfl rfl (UpdR.here _ _ _ Nl) Nz (Nw ?_); refine Zr ?_; refine Wr [0, 0, 0, 0, 0, 0, 0, 0, 0, 0, 0, 0, 0, 0, 0, 0, 0, 0, 0, 0, 0, 0, 0, 0, 0, 0, 1] ?_; refine Ia 1 1 1 UU42 ?_; refine rf_load rfl rfl rfl UU3 rfl (fun w hw => (Kn.hd0 hw).at rfl) (Nq ?_); refine Ia 3 1 3 UU42 ?_; refine rf_load rfl rfl rfl UU3 rfl (fun w hw => (Kn.hd0 hw).at rfl) (Nq ?_)
  refine rf_sub rfl rfl rfl rfl (wrap_ok Ox Ox) (Nq ?_); apply rg_soft
  case hy => (intro w hw; have hand := and1; exact Gy)
  simp only [qz]; refine Ia 0 1 0 UU42 ?_; refine rf_load rfl rfl rfl UU3 rfl (fun w hw => (Kn.hd0 hw).at rfl) (Nq ?_); refine Ia 2 1 2 UU42 ?_; refine rf_load rfl rfl rfl UU3 rfl (fun w hw => (Kn.hd0 hw).at rfl) (Nq ?_); refine rf_add rfl rfl rfl rfl (wrap_ok Ox Ox) (Nq ?_); apply rg_soft
  case hy => (intro w hw; have hand := and1; exact Gy)
  simp only [qz]; refine Ia 1 1 1 UU42 ?_; refine rf_load rfl rfl rfl UU3 rfl (fun w hw => (Kn.hd0 hw).at rfl) (Nq ?_); refine Ia 3 1 3 UU42 ?_; refine rf_load rfl rfl rfl UU3 rfl (fun w hw => (Kn.hd0 hw).at rfl) (Nq ?_); refine rf_add rfl rfl rfl rfl (wrap_ok Ox Ox) (Nq ?_); apply rg_soft
  case hy => (intro w hw; have hand := and1; exact Gy)
  simp only [qz]; refine Ia 2 1 2 UU42 ?_; refine rf_load rfl rfl rfl UU3 rfl (fun w hw => (Kn.hd0 hw).at rfl) (Nq ?_); refine Ia 0 1 0 UU42 ?_; refine rf_load rfl rfl rfl UU3 rfl (fun w hw => (Kn.hd0 hw).at rfl) (Nq ?_); refine rf_sub rfl rfl rfl rfl (wrap_ok Ox Ox) (Nq ?_); apply rg_soft
  case hy => (intro w hw; have hand := and1; exact Gy)
  simp only [qz]; refine rf_build (cs := fun a => #[a.eval (.tmp 40), a.eval (.tmp 46), a.eval (.tmp 52), a.eval (.tmp 58)]) rfl rfl Kx (Nq ?_); refine Fd 3 0 UU135 ?_; refine rf_storeR (n := 4) rfl rfl Kx rfl rfl (UpdR.there _ (UpdR.there _ (UpdR.here _ _ _ Nl))) Nz (Nw ?_); refine rg_nil (ek_next ?_); refine Wr [0, 0, 0, 0, 1] ?_; refine Fd 0 4 UU135 ?_; refine rf_load rfl rfl rfl UU3 rfl (fun w hw => (Kn.hd0 (Kn.tl (Kn.tl hw))).at rfl) (Nq ?_)
  refine rf_sub rfl rfl rfl rfl (wrap_ok Ox Ox) (Nq ?_); refine Fd 0 4 UU135 ?_; refine rf_store rfl rfl Kx rfl rfl (UpdR.there _ (UpdR.there _ (UpdR.here _ _ _ Nl))) Nz (Nq ?_); refine rg_nil (ek_block ?_)
  have hcond : 0 < y.k ∧ (y.a + y.c) % 2 = 0 ∧ (y.b + y.d) % 2 = 0 := ⟨by omega, by omega, by omega⟩
  refine ek_sub (sk _ (sc _ (sc _ sn))) ?_; refine ek_roundF (y.step.k.toNat) ((by simp only [Nm.step]; omega)) Kx ?_
  exact ⟨y.step, (by rw [tdiv2 (show (y.b - y.d) % 2 = 0 by omega), tdiv2 (show (y.a + y.c) % 2 = 0 by omega), tdiv2 (show (y.b + y.d) % 2 = 0 by omega), tdiv2 (show (y.c - y.a) % 2 = 0 by omega)]; rfl), by rfl, Nm.step_fit hF, (by rw [← hr.out]; exact (nf_step hcond.1 hcond.2).symm), (by simp only [Nm.step]; omega)⟩
 rintro f1 s ⟨y, rfl, hmF, hmr⟩
 simp only [Act.putF, List.foldl_cons, List.foldl_nil, Act.put, Act.eval, qW, Nat.reduceAdd, Bool.not_true, Bool.not_false]
 obtain ⟨fa0, fa1, fb0, fb1, fc0, fc1, fd0, fd1⟩ := hmF
 replace hmr := Lib.hid hmr
 refine wk_seq ?_
 refine Wr [0, 0, 0, 0] ?_
 refine Fd 0 4 UU135 ?_
 refine rf_load rfl rfl rfl UU3 rfl (fun w hw => (Kn.hd0 (Kn.tl hw)).at rfl) (Nq ?_)
 refine rfb_leq rfl rfl rfl rfl ?_
 rintro (_ | _) h4 <;> try simp only [qd, ne_eq] at h4
 ·refine Zx ?_
  refine Zr ?_; refine Wr [0, 0, 0] ?_; refine Fd 3 0 UU135 ?_; refine rf_loadR (n := 4) rfl rfl rfl UU42 rfl Kx (fun w hw => Kn.hd0 (Kn.tl hw)) rfl rfl (Zx ?_); refine rg_nil (ek_next (wk_block ?_)); refine wk_unroll 4 ?_; refine wk_seq ?_; refine Wr [0] ?_; refine rf_lss (b := true) rfl rfl rfl rfl (by decide) (Nq ?_); refine Zr ?_; refine Wr [0, 0] ?_; apply rg_soft
  case hy => (intro w hw; have hand := and1; exact Gy)
  refine Zx ?_; refine rg_nil (ek_next ?_); refine Wx [0, 0, 0, 0, 0, 0, 0, 0, 0, 0] ?_; refine Zr ?_; refine Wr [0, 0] ?_; refine rf_add (r := 1) rfl rfl rfl rfl (by decide) (Zx ?_); refine Zr ?_; refine Wr [0] ?_; refine rf_lss (b := true) rfl rfl rfl rfl (by decide) (Nq ?_); refine Zr ?_; refine Wr [0, 0] ?_; apply rg_soft
  case hy => (intro w hw; have hand := and1; exact Gy)
  refine Zx ?_; refine rg_nil (ek_next ?_); refine Wx [0, 0, 0, 0, 0, 0, 0, 0, 0, 0] ?_; refine Zr ?_; refine Wr [0, 0] ?_; refine rf_add (r := 2) rfl rfl rfl rfl (by decide) (Zx ?_); refine Zr ?_; refine Wr [0] ?_; refine rf_lss (b := true) rfl rfl rfl rfl (by decide) (Nq ?_); refine Zr ?_; refine Wr [0, 0] ?_; apply rg_soft
  case hy => (intro w hw; have hand := and1; exact Gy)
  refine Zx ?_; refine rg_nil (ek_next ?_); refine Wx [0, 0, 0, 0, 0, 0, 0, 0, 0, 0] ?_; refine Zr ?_; refine Wr [0, 0] ?_; refine rf_add (r := 3) rfl rfl rfl rfl (by decide) (Zx ?_); refine Zr ?_; refine Wr [0] ?_; refine rf_lss (b := true) rfl rfl rfl rfl (by decide) (Nq ?_); refine Zr ?_; refine Wr [0, 0] ?_; apply rg_soft
  case hy => (intro w hw; have hand := and1; exact Gy)
  refine Zx ?_; refine rg_nil (ek_next ?_); refine Wx [0, 0, 0, 0, 0, 0, 0, 0, 0, 0] ?_; refine Zr ?_; refine Wr [0, 0] ?_; refine rf_add (r := 4) rfl rfl rfl rfl (by decide) (Zx ?_); refine Zr ?_; refine Wr [0] ?_; refine rf_lss (b := false) rfl rfl rfl rfl (by decide) (Nq ?_); refine Zr ?_; refine Wr [0, 0, 1, 0] ?_; refine rf_loadR (n := 5) rfl rfl rfl UU135 rfl Kx (fun w hw => Kn.hd0 (Kn.tl hw)) rfl rfl (Zx ?_)
  refine rf_storeR (n := 5) rfl rfl Kx rfl rfl (UpdR.here _ _ _ Nl) Nz (Nw ?_); refine Zx ?_; refine Zr ?_; refine ek_ret (fun w hw => ⟨rfl, _, run_results2 rfl rfl (Kn.hd0 hw) UU44 rfl Kx, ?_⟩); (try simp only [qz]); refine ⟨?_, hw.below⟩; rw [← hmr.out, small_no (z := y) (fun h => by obtain ⟨hk, h0, h1, h2, h3, h4, h5, h6, h7⟩ := h; omega)]
 refine Zx ?_
 refine Zr ?_
 refine Wr [0, 0, 0] ?_
 refine Fd 3 0 UU135 ?_
 refine rf_loadR (n := 4) rfl rfl rfl UU42 rfl Kx (fun w hw => Kn.hd0 (Kn.tl hw)) rfl rfl (Zx ?_)
 refine rg_nil (ek_next (wk_block ?_))
 refine wk_unroll 4 ?_
 refine wk_seq ?_
 refine Wr [0] ?_
 refine rf_lss (b := true) rfl rfl rfl rfl (by decide) (Nq ?_)
 refine Zr ?_
 refine Wr [0, 0] ?_
 apply rg_soft
 case hy => (intro w hw; have hand := and1; exact Gy)
 refine Zx ?_
 refine rg_nil (ek_next ?_)
 refine Wx [0, 0, 0, 0, 0, 0, 0, 0, 0, 0] ?_
 apply rg_soft_g
 case hg => rfl
 case hy => (intro w hw; have hand := and1; exact Gy)
 simp only [qz]
 refine rfb_leq rfl rfl rfl rfl ?_
 rintro (_ | _) h5 <;> try simp only [qd, ne_eq] at h5
 ·refine Zx ?_
  refine Zr ?_; refine Wr [0, 0] ?_; refine rf_add (r := 1) rfl rfl rfl rfl (by decide) (Zx ?_); refine Zr ?_; refine Wr [0] ?_; refine rf_lss (b := true) rfl rfl rfl rfl (by decide) (Nq ?_); refine Zr ?_; refine Wr [0, 0] ?_; apply rg_soft
  case hy => (intro w hw; have hand := and1; exact Gy)
  refine Zx ?_; refine rg_nil (ek_next ?_); refine Wx [0, 0, 0, 0, 0, 0, 0, 0, 0, 0] ?_; refine Zr ?_; refine Wr [0, 0] ?_; refine rf_add (r := 2) rfl rfl rfl rfl (by decide) (Zx ?_); refine Zr ?_; refine Wr [0] ?_; refine rf_lss (b := true) rfl rfl rfl rfl (by decide) (Nq ?_); refine Zr ?_; refine Wr [0, 0] ?_; apply rg_soft
  case hy => (intro w hw; have hand := and1; exact Gy)
  refine Zx ?_; refine rg_nil (ek_next ?_); refine Wx [0, 0, 0, 0, 0, 0, 0, 0, 0, 0] ?_; refine Zr ?_; refine Wr [0, 0] ?_; refine rf_add (r := 3) rfl rfl rfl rfl (by decide) (Zx ?_); refine Zr ?_; refine Wr [0] ?_; refine rf_lss (b := true) rfl rfl rfl rfl (by decide) (Nq ?_); refine Zr ?_; refine Wr [0, 0] ?_; apply rg_soft
  case hy => (intro w hw; have hand := and1; exact Gy)
  refine Zx ?_; refine rg_nil (ek_next ?_); refine Wx [0, 0, 0, 0, 0, 0, 0, 0, 0, 0] ?_; refine Zr ?_; refine Wr [0, 0] ?_; refine rf_add (r := 4) rfl rfl rfl rfl (by decide) (Zx ?_); refine Zr ?_; refine Wr [0] ?_; refine rf_lss (b := false) rfl rfl rfl rfl (by decide) (Nq ?_); refine Zr ?_; refine Wr [0, 0, 1, 0] ?_; refine rf_loadR (n := 5) rfl rfl rfl UU135 rfl Kx (fun w hw => Kn.hd0 (Kn.tl hw)) rfl rfl (Zx ?_)
  refine rf_storeR (n := 5) rfl rfl Kx rfl rfl (UpdR.here _ _ _ Nl) Nz (Nw ?_); refine Zx ?_; refine Zr ?_; refine ek_ret (fun w hw => ⟨rfl, _, run_results2 rfl rfl (Kn.hd0 hw) UU44 rfl Kx, ?_⟩); (try simp only [qz]); refine ⟨?_, hw.below⟩; rw [← hmr.out, small_no (z := y) (fun h => by obtain ⟨hk, h0, h1, h2, h3, h4, h5, h6, h7⟩ := h; omega)]
 refine Zx ?_
 apply rg_soft_g
 case hg => rfl
 case hy => (intro w hw; have hand := and1; exact Gy)
 simp only [qz]
 refine rfb_leq rfl rfl rfl rfl ?_
 rintro (_ | _) h6 <;> try simp only [qd, ne_eq] at h6
 ·refine Zx ?_
  refine Zr ?_; refine Wr [0, 0] ?_; refine rf_add (r := 1) rfl rfl rfl rfl (by decide) (Zx ?_); refine Zr ?_; refine Wr [0] ?_; refine rf_lss (b := true) rfl rfl rfl rfl (by decide) (Nq ?_); refine Zr ?_; refine Wr [0, 0] ?_; apply rg_soft
  case hy => (intro w hw; have hand := and1; exact Gy)
  refine Zx ?_; refine rg_nil (ek_next ?_); refine Wx [0, 0, 0, 0, 0, 0, 0, 0, 0, 0] ?_; refine Zr ?_; refine Wr [0, 0] ?_; refine rf_add (r := 2) rfl rfl rfl rfl (by decide) (Zx ?_); refine Zr ?_; refine Wr [0] ?_; refine rf_lss (b := true) rfl rfl rfl rfl (by decide) (Nq ?_); refine Zr ?_; refine Wr [0, 0] ?_; apply rg_soft
  case hy => (intro w hw; have hand := and1; exact Gy)
  refine Zx ?_; refine rg_nil (ek_next ?_); refine Wx [0, 0, 0, 0, 0, 0, 0, 0, 0, 0] ?_; refine Zr ?_; refine Wr [0, 0] ?_; refine rf_add (r := 3) rfl rfl rfl rfl (by decide) (Zx ?_); refine Zr ?_; refine Wr [0] ?_; refine rf_lss (b := true) rfl rfl rfl rfl (by decide) (Nq ?_); refine Zr ?_; refine Wr [0, 0] ?_; apply rg_soft
  case hy => (intro w hw; have hand := and1; exact Gy)
  refine Zx ?_; refine rg_nil (ek_next ?_); refine Wx [0, 0, 0, 0, 0, 0, 0, 0, 0, 0] ?_; refine Zr ?_; refine Wr [0, 0] ?_; refine rf_add (r := 4) rfl rfl rfl rfl (by decide) (Zx ?_); refine Zr ?_; refine Wr [0] ?_; refine rf_lss (b := false) rfl rfl rfl rfl (by decide) (Nq ?_); refine Zr ?_; refine Wr [0, 0, 1, 0] ?_; refine rf_loadR (n := 5) rfl rfl rfl UU135 rfl Kx (fun w hw => Kn.hd0 (Kn.tl hw)) rfl rfl (Zx ?_)
  refine rf_storeR (n := 5) rfl rfl Kx rfl rfl (UpdR.here _ _ _ Nl) Nz (Nw ?_); refine Zx ?_; refine Zr ?_; refine ek_ret (fun w hw => ⟨rfl, _, run_results2 rfl rfl (Kn.hd0 hw) UU44 rfl Kx, ?_⟩); (try simp only [qz]); refine ⟨?_, hw.below⟩; rw [← hmr.out, small_no (z := y) (fun h => by obtain ⟨hk, h0, h1, h2, h3, h4, h5, h6, h7⟩ := h; omega)]
 refine Zx ?_
 refine Zr ?_
 refine Wr [0, 0] ?_
 refine rf_add (r := 1) rfl rfl rfl rfl (by decide) (Zx ?_)
 refine Zr ?_
 refine Wr [0] ?_
 refine rf_lss (b := true) rfl rfl rfl rfl (by decide) (Nq ?_)
 refine Zr ?_
 refine Wr [0, 0] ?_
 apply rg_soft
 case hy => (intro w hw; have hand := and1; exact Gy)
 refine Zx ?_
 refine rg_nil (ek_next ?_)
 refine Wx [0, 0, 0, 0, 0, 0, 0, 0, 0, 0] ?_
 apply rg_soft_g
 case hg => rfl
 case hy => (intro w hw; have hand := and1; exact Gy)
 simp only [qz]
 refine rfb_leq rfl rfl rfl rfl ?_
 rintro (_ | _) h7 <;> try simp only [qd, ne_eq] at h7
 ·refine Zx ?_
  refine Zr ?_; refine Wr [0, 0] ?_; refine rf_add (r := 2) rfl rfl rfl rfl (by decide) (Zx ?_); refine Zr ?_; refine Wr [0] ?_; refine rf_lss (b := true) rfl rfl rfl rfl (by decide) (Nq ?_); refine Zr ?_; refine Wr [0, 0] ?_; apply rg_soft
  case hy => (intro w hw; have hand := and1; exact Gy)
  refine Zx ?_; refine rg_nil (ek_next ?_); refine Wx [0, 0, 0, 0, 0, 0, 0, 0, 0, 0] ?_; refine Zr ?_; refine Wr [0, 0] ?_; refine rf_add (r := 3) rfl rfl rfl rfl (by decide) (Zx ?_); refine Zr ?_; refine Wr [0] ?_; refine rf_lss (b := true) rfl rfl rfl rfl (by decide) (Nq ?_); refine Zr ?_; refine Wr [0, 0] ?_; apply rg_soft
  case hy => (intro w hw; have hand := and1; exact Gy)
  refine Zx ?_; refine rg_nil (ek_next ?_); refine Wx [0, 0, 0, 0, 0, 0, 0, 0, 0, 0] ?_; refine Zr ?_; refine Wr [0, 0] ?_; refine rf_add (r := 4) rfl rfl rfl rfl (by decide) (Zx ?_); refine Zr ?_; refine Wr [0] ?_; refine rf_lss (b := false) rfl rfl rfl rfl (by decide) (Nq ?_); refine Zr ?_; refine Wr [0, 0, 1, 0] ?_; refine rf_loadR (n := 5) rfl rfl rfl UU135 rfl Kx (fun w hw => Kn.hd0 (Kn.tl hw)) rfl rfl (Zx ?_)
  refine rf_storeR (n := 5) rfl rfl Kx rfl rfl (UpdR.here _ _ _ Nl) Nz (Nw ?_); refine Zx ?_; refine Zr ?_; refine ek_ret (fun w hw => ⟨rfl, _, run_results2 rfl rfl (Kn.hd0 hw) UU44 rfl Kx, ?_⟩); (try simp only [qz]); refine ⟨?_, hw.below⟩; rw [← hmr.out, small_no (z := y) (fun h => by obtain ⟨hk, h0, h1, h2, h3, h4, h5, h6, h7⟩ := h; omega)]
 refine Zx ?_
 apply rg_soft_g
 case hg => rfl
 case hy => (intro w hw; have hand := and1; exact Gy)
 simp only [qz]
 refine rfb_leq rfl rfl rfl rfl ?_
 rintro (_ | _) h8 <;> try simp only [qd, ne_eq] at h8
 ·refine Zx ?_
  refine Zr ?_; refine Wr [0, 0] ?_; refine rf_add (r := 2) rfl rfl rfl rfl (by decide) (Zx ?_); refine Zr ?_; refine Wr [0] ?_; refine rf_lss (b := true) rfl rfl rfl rfl (by decide) (Nq ?_); refine Zr ?_; refine Wr [0, 0] ?_; apply rg_soft
  case hy => (intro w hw; have hand := and1; exact Gy)
  refine Zx ?_; refine rg_nil (ek_next ?_); refine Wx [0, 0, 0, 0, 0, 0, 0, 0, 0, 0] ?_; refine Zr ?_; refine Wr [0, 0] ?_; refine rf_add (r := 3) rfl rfl rfl rfl (by decide) (Zx ?_); refine Zr ?_; refine Wr [0] ?_; refine rf_lss (b := true) rfl rfl rfl rfl (by decide) (Nq ?_); refine Zr ?_; refine Wr [0, 0] ?_; apply rg_soft
  case hy => (intro w hw; have hand := and1; exact Gy)
  refine Zx ?_; refine rg_nil (ek_next ?_); refine Wx [0, 0, 0, 0, 0, 0, 0, 0, 0, 0] ?_; refine Zr ?_; refine Wr [0, 0] ?_; refine rf_add (r := 4) rfl rfl rfl rfl (by decide) (Zx ?_); refine Zr ?_; refine Wr [0] ?_; refine rf_lss (b := false) rfl rfl rfl rfl (by decide) (Nq ?_); refine Zr ?_; refine Wr [0, 0, 1, 0] ?_; refine rf_loadR (n := 5) rfl rfl rfl UU135 rfl Kx (fun w hw => Kn.hd0 (Kn.tl hw)) rfl rfl (Zx ?_)
  refine rf_storeR (n := 5) rfl rfl Kx rfl rfl (UpdR.here _ _ _ Nl) Nz (Nw ?_); refine Zx ?_; refine Zr ?_; refine ek_ret (fun w hw => ⟨rfl, _, run_results2 rfl rfl (Kn.hd0 hw) UU44 rfl Kx, ?_⟩); (try simp only [qz]); refine ⟨?_, hw.below⟩; rw [← hmr.out, small_no (z := y) (fun h => by obtain ⟨hk, h0, h1, h2, h3, h4, h5, h6, h7⟩ := h; omega)]
 refine Zx ?_
 refine Zr ?_
 refine Wr [0, 0] ?_
 refine rf_add (r := 2) rfl rfl rfl rfl (by decide) (Zx ?_)
 refine Zr ?_
 refine Wr [0] ?_
 refine rf_lss (b := true) rfl rfl rfl rfl (by decide) (Nq ?_)
 refine Zr ?_
 refine Wr [0, 0] ?_
 apply rg_soft
 case hy => (intro w hw; have hand := and1; exact Gy)
 refine Zx ?_
 refine rg_nil (ek_next ?_)
 refine Wx [0, 0, 0, 0, 0, 0, 0, 0, 0, 0] ?_
 apply rg_soft_g
 case hg => rfl
 case hy => (intro w hw; have hand := and1; exact Gy)
 simp only [qz]
 refine rfb_leq rfl rfl rfl rfl ?_
 rintro (_ | _) h9 <;> try simp only [qd, ne_eq] at h9
 ·refine Zx ?_
  refine Zr ?_; refine Wr [0, 0] ?_; refine rf_add (r := 3) rfl rfl rfl rfl (by decide) (Zx ?_); refine Zr ?_; refine Wr [0] ?_; refine rf_lss (b := true) rfl rfl rfl rfl (by decide) (Nq ?_); refine Zr ?_; refine Wr [0, 0] ?_; apply rg_soft
  case hy => (intro w hw; have hand := and1; exact Gy)
  refine Zx ?_; refine rg_nil (ek_next ?_); refine Wx [0, 0, 0, 0, 0, 0, 0, 0, 0, 0] ?_; refine Zr ?_; refine Wr [0, 0] ?_; refine rf_add (r := 4) rfl rfl rfl rfl (by decide) (Zx ?_); refine Zr ?_; refine Wr [0] ?_; refine rf_lss (b := false) rfl rfl rfl rfl (by decide) (Nq ?_); refine Zr ?_; refine Wr [0, 0, 1, 0] ?_; refine rf_loadR (n := 5) rfl rfl rfl UU135 rfl Kx (fun w hw => Kn.hd0 (Kn.tl hw)) rfl rfl (Zx ?_)
  refine rf_storeR (n := 5) rfl rfl Kx rfl rfl (UpdR.here _ _ _ Nl) Nz (Nw ?_); refine Zx ?_; refine Zr ?_; refine ek_ret (fun w hw => ⟨rfl, _, run_results2 rfl rfl (Kn.hd0 hw) UU44 rfl Kx, ?_⟩); (try simp only [qz]); refine ⟨?_, hw.below⟩; rw [← hmr.out, small_no (z := y) (fun h => by obtain ⟨hk, h0, h1, h2, h3, h4, h5, h6, h7⟩ := h; omega)]
 refine Zx ?_
 apply rg_soft_g
 case hg => rfl
 case hy => (intro w hw; have hand := and1; exact Gy)
 simp only [qz]
 refine rfb_leq rfl rfl rfl rfl ?_
 rintro (_ | _) h10 <;> try simp only [qd, ne_eq] at h10
 ·refine Zx ?_
  refine Zr ?_; refine Wr [0, 0] ?_; refine rf_add (r := 3) rfl rfl rfl rfl (by decide) (Zx ?_); refine Zr ?_; refine Wr [0] ?_; refine rf_lss (b := true) rfl rfl rfl rfl (by decide) (Nq ?_); refine Zr ?_; refine Wr [0, 0] ?_; apply rg_soft
  case hy => (intro w hw; have hand := and1; exact Gy)
  refine Zx ?_; refine rg_nil (ek_next ?_); refine Wx [0, 0, 0, 0, 0, 0, 0, 0, 0, 0] ?_; refine Zr ?_; refine Wr [0, 0] ?_; refine rf_add (r := 4) rfl rfl rfl rfl (by decide) (Zx ?_); refine Zr ?_; refine Wr [0] ?_; refine rf_lss (b := false) rfl rfl rfl rfl (by decide) (Nq ?_); refine Zr ?_; refine Wr [0, 0, 1, 0] ?_; refine rf_loadR (n := 5) rfl rfl rfl UU135 rfl Kx (fun w hw => Kn.hd0 (Kn.tl hw)) rfl rfl (Zx ?_)
  refine rf_storeR (n := 5) rfl rfl Kx rfl rfl (UpdR.here _ _ _ Nl) Nz (Nw ?_); refine Zx ?_; refine Zr ?_; refine ek_ret (fun w hw => ⟨rfl, _, run_results2 rfl rfl (Kn.hd0 hw) UU44 rfl Kx, ?_⟩); (try simp only [qz]); refine ⟨?_, hw.below⟩; rw [← hmr.out, small_no (z := y) (fun h => by obtain ⟨hk, h0, h1, h2, h3, h4, h5, h6, h7⟩ := h; omega)]
 refine Zx ?_
 refine Zr ?_
 refine Wr [0, 0] ?_
 refine rf_add (r := 3) rfl rfl rfl rfl (by decide) (Zx ?_)
 refine Zr ?_
 refine Wr [0] ?_
 refine rf_lss (b := true) rfl rfl rfl rfl (by decide) (Nq ?_)
 refine Zr ?_
 refine Wr [0, 0] ?_
 apply rg_soft
 case hy => (intro w hw; have hand := and1; exact Gy)
 refine Zx ?_
 refine rg_nil (ek_next ?_)
 refine Wx [0, 0, 0, 0, 0, 0, 0, 0, 0, 0] ?_
 apply rg_soft_g
 case hg => rfl
 case hy => (intro w hw; have hand := and1; exact Gy)
 simp only [qz]
 refine rfb_leq rfl rfl rfl rfl ?_
 rintro (_ | _) h11 <;> try simp only [qd, ne_eq] at h11
 ·refine Zx ?_
  refine Zr ?_; refine Wr [0, 0] ?_; refine rf_add (r := 4) rfl rfl rfl rfl (by decide) (Zx ?_); refine Zr ?_; refine Wr [0] ?_; refine rf_lss (b := false) rfl rfl rfl rfl (by decide) (Nq ?_); refine Zr ?_; refine Wr [0, 0, 1, 0] ?_; refine rf_loadR (n := 5) rfl rfl rfl UU135 rfl Kx (fun w hw => Kn.hd0 (Kn.tl hw)) rfl rfl (Zx ?_); refine rf_storeR (n := 5) rfl rfl Kx rfl rfl (UpdR.here _ _ _ Nl) Nz (Nw ?_)
  refine Zx ?_; refine Zr ?_; refine ek_ret (fun w hw => ⟨rfl, _, run_results2 rfl rfl (Kn.hd0 hw) UU44 rfl Kx, ?_⟩); (try simp only [qz]); refine ⟨?_, hw.below⟩; rw [← hmr.out, small_no (z := y) (fun h => by obtain ⟨hk, h0, h1, h2, h3, h4, h5, h6, h7⟩ := h; omega)]
 refine Zx ?_
 apply rg_soft_g
 case hg => rfl
 case hy => (intro w hw; have hand := and1; exact Gy)
 simp only [qz]
 refine rfb_leq rfl rfl rfl rfl ?_
 rintro (_ | _) h12 <;> try simp only [qd, ne_eq] at h12
 ·refine Zx ?_
  refine Zr ?_; refine Wr [0, 0] ?_; refine rf_add (r := 4) rfl rfl rfl rfl (by decide) (Zx ?_); refine Zr ?_; refine Wr [0] ?_; refine rf_lss (b := false) rfl rfl rfl rfl (by decide) (Nq ?_); refine Zr ?_; refine Wr [0, 0, 1, 0] ?_; refine rf_loadR (n := 5) rfl rfl rfl UU135 rfl Kx (fun w hw => Kn.hd0 (Kn.tl hw)) rfl rfl (Zx ?_); refine rf_storeR (n := 5) rfl rfl Kx rfl rfl (UpdR.here _ _ _ Nl) Nz (Nw ?_)
  refine Zx ?_; refine Zr ?_; refine ek_ret (fun w hw => ⟨rfl, _, run_results2 rfl rfl (Kn.hd0 hw) UU44 rfl Kx, ?_⟩); (try simp only [qz]); refine ⟨?_, hw.below⟩; rw [← hmr.out, small_no (z := y) (fun h => by obtain ⟨hk, h0, h1, h2, h3, h4, h5, h6, h7⟩ := h; omega)]
 refine Zx ?_
 refine Zr ?_
 refine Wr [0, 0] ?_
 refine rf_add (r := 4) rfl rfl rfl rfl (by decide) (Zx ?_)
 refine Zr ?_
 refine Wr [0] ?_
 refine rf_lss (b := false) rfl rfl rfl rfl (by decide) (Nq ?_)
 refine Zr ?_
 refine Wr [0, 0, 1, 0] ?_
 refine rf_loadR (n := 5) rfl rfl rfl UU135 rfl Kx (fun w hw => Kn.hd0 (Kn.tl hw)) rfl rfl (Zx ?_)
 refine rf_storeR (n := 5) rfl rfl Kx rfl rfl (UpdR.here _ _ _ Nl) Nz (Nw ?_)
 refine Zx ?_
 refine Zr ?_
 refine ek_ret (fun w hw => ⟨rfl, _, run_results2 rfl rfl (Kn.hd0 hw) UU44 rfl Kx, ?_⟩)
 (try simp only [qz])
 refine ⟨?_, hw.below⟩
 rw [← hmr.out, small_yes (z := y) Ox ⟨by omega, by omega, by omega, by omega, by omega, by omega, by omega, by omega⟩]
theorem arr_eqIn (a b c d a' b' c' d' : Int) (w : World) : (Op.equalIn 9999 42 (.agg #[.int .i64 a, .int .i64 b, .int .i64 c, .int .i64 d]) (.agg #[.int .i64 a', .int .i64 b', .int .i64 c', .int .i64 d'])).run Tryz.prog w = .ok (decide (a = a' ∧ b = b' ∧ c = c' ∧ d = d')) w := by
 have u3 := UU3
 have a3 := Tryz.isAgg3
 have z3 := Tryz.sizeOf3
 rw [show (9999 : Nat) = 9998 + 1 from rfl, Op.equalIn]
 simp only [Sem.run_bind, run_underlying UU42, Result.andThen_ok]
 simp only [Std.Legacy.Range.forIn_eq_forIn_range', Std.Legacy.Range.size, Nat.sub_zero, Nat.add_sub_cancel, Nat.div_one, List.range'_succ, List.range'_zero, List.forIn_cons, List.forIn_nil]
 go_simp
 by_cases h1 : a = a' <;> by_cases h2 : b = b' <;> by_cases h3 : c = c' <;> by_cases h4 : d = d' <;> simp [h1, h2, h3, h4]
theorem nm_eqIn (x y : Nm) (w : World) : (Op.equalIn 10000 44 (nmV x) (nmV y)).run Tryz.prog w = .ok (decide (x = y)) w := by
 have u3 := UU3
 have a3 := Tryz.isAgg3
 have z3 := Tryz.sizeOf3
 have a4 := Tryz.isAgg42
 have z4 := Tryz.sizeOf42
 have hS : Tryz.prog.underlying 44 = some (.struct (Tryz.prog.fieldsOf 44)) := by kernel_rfl
 have hp : Tryz.prog.stoodInHeld 44 = false := by kernel_rfl
 have hA := arr_eqIn x.a x.b x.c x.d y.a y.b y.c y.d
 obtain ⟨xa, xb, xc, xd, xk⟩ := x
 obtain ⟨ya, yb, yc, yd, yk⟩ := y
 dsimp only at hA
 rw [show (10000 : Nat) = 9999 + 1 from rfl, run_equalIn_agg w 9999 44 _ _ hS hp]
 simp only [Program.fieldsOf, UU44]
 go_simp
 by_cases h1 : xa = ya <;> by_cases h2 : xb = yb <;> by_cases h3 : xc = yc <;> by_cases h4 : xd = yd <;> by_cases h5 : xk = yk <;> simp [h1, h2, h3, h4, h5]
theorem nm_guard (op : BinOp) (u v : Operand) (x y : Nm) (w : World) : (eqGuard op 44 u v (nmV x) (nmV y)).run Tryz.prog w = .ok () w := by
 have h : (Tryz.prog.eqGuardType Tryz.prog.depth 44) = false := by kernel_rfl
 unfold eqGuard
 cases op <;> simp [h]
section
variable {R : Option Nat} {ops : Array Oper} {Q : Exit → Act → World → Prop} {B : World} {F : List Nat} {s0 : Option (List Blk × List Blk)}
variable {l : List (Oper × Nat)} {a : Act} {s : List Blk} {d : Option Tmp} {t : TypeId} {p : String} {af : Array Edge} {gd : Option (Nat × Bool)} {m : Nat}
theorem rf_eqN {x y : Operand} {z : TypeId} {u v : Nm} (hm : soft03 m = true) (hg : Region.wanted ⟨d, .binOp .eql 44 x y z, t, p, af, gd⟩ (yielded ops a.tmps) = true)
    (hx : a.eval x = nmV u) (hy : a.eval y = nmV v) (h : Rg R Tryz.prog ops Q B F s0 l (a.put d (.bool (decide (u = v)))) s) : Rg R Tryz.prog ops Q B F s0 ((⟨d, .binOp .eql 44 x y z, t, p, af, gd⟩, m) :: l) a s := by
  refine rg_any hm hg (fun w => ?_) h
  unfold Yld
  have hb : (binOp .eql 44 (nmV u) (nmV v)).run Tryz.prog w = .ok (.bool (decide (u = v))) w := by rw [run_eql_struct, nm_eqIn]; rfl
  have hgd := nm_guard .eql x y u v w
  show ((eqGuard .eql _ x y (a.eval x) (a.eval y) >>= fun _ => binOp .eql _ (a.eval x) (a.eval y)) >>= fun r => pure (Next.value r)).run Tryz.prog w = _
  rw [hx, hy, Sem.run_bind, Sem.run_bind, hgd, Result.andThen_ok, hb]
  rfl
theorem rf_neN {x y : Operand} {z : TypeId} {u v : Nm} (hm : soft03 m = true) (hg : Region.wanted ⟨d, .binOp .neq 44 x y z, t, p, af, gd⟩ (yielded ops a.tmps) = true)
    (hx : a.eval x = nmV u) (hy : a.eval y = nmV v) (h : Rg R Tryz.prog ops Q B F s0 l (a.put d (.bool (!decide (u = v)))) s) : Rg R Tryz.prog ops Q B F s0 ((⟨d, .binOp .neq 44 x y z, t, p, af, gd⟩, m) :: l) a s := by
  refine rg_any hm hg (fun w => ?_) h
  unfold Yld
  have hb : (binOp .neq 44 (nmV u) (nmV v)).run Tryz.prog w = .ok (.bool (!decide (u = v))) w := by rw [run_neq_struct, nm_eqIn]; rfl
  have hgd := nm_guard .neq x y u v w
  show ((eqGuard .neq _ x y (a.eval x) (a.eval y) >>= fun _ => binOp .neq _ (a.eval x) (a.eval y)) >>= fun r => pure (Next.value r)).run Tryz.prog w = _
  rw [hx, hy, Sem.run_bind, Sem.run_bind, hgd, Result.andThen_ok, hb]
  rfl
theorem rfb_eqN {x y : Operand} {z : TypeId} (u v : Nm) (hm : soft03 m = true) (hg : Region.wanted ⟨d, .binOp .eql 44 x y z, t, p, af, gd⟩ (yielded ops a.tmps) = true)
    (hx : a.eval x = nmV u) (hy : a.eval y = nmV v) (h : ∀ b, decide (u = v) = b → Rg R Tryz.prog ops Q B F s0 l (a.put d (.bool b)) s) : Rg R Tryz.prog ops Q B F s0 ((⟨d, .binOp .eql 44 x y z, t, p, af, gd⟩, m) :: l) a s := rf_eqN hm hg hx hy (h _ rfl)
theorem rfb_neN {x y : Operand} {z : TypeId} (u v : Nm) (hm : soft03 m = true) (hg : Region.wanted ⟨d, .binOp .neq 44 x y z, t, p, af, gd⟩ (yielded ops a.tmps) = true)
    (hx : a.eval x = nmV u) (hy : a.eval y = nmV v) (h : ∀ b, (!decide (u = v)) = b → Rg R Tryz.prog ops Q B F s0 l (a.put d (.bool b)) s) : Rg R Tryz.prog ops Q B F s0 ((⟨d, .binOp .neq 44 x y z, t, p, af, gd⟩, m) :: l) a s := rf_neN hm hg hx hy (h _ rfl)
end
theorem as_hd {w : World} {g t : Nat} {xs : List Nm} {cs : Array Value} (h : Hd w g t cs) (e : cs = (nms xs).toArray) : AS w (some ⟨g, 0, none⟩) (nms xs) :=
  fun _ => ⟨g, 0, rfl, h.lt, fun j _ => by rw [Nat.zero_add, h.cell j, e]; simp⟩
theorem result_any (z : Nm) (hz : z.Fit 4611686018427387903) (hk : z.k ≤ 1000000) (w : World) : Calls Tryz.prog 88 #[nmV z] w fun e w' => e = .returned (numV z.mk') ∧ Below w.heap.size w w' := by
 go_enter Tryz.func88, Tryz.ntmps88
 refine wk_start ?_
 refine wk_seq ?_
 refine Wr [1, 1, 0] ?_
 refine Rgn fun g1 => ?_
 simp only [qz]
 refine Rgn fun g2 => ?_
 refine Zx ?_
 refine Zr ?_
 refine Wr [0, 1, 0, 0, 0, 1, 1, 0] ?_
 refine rf_loadR (n := 5) rfl rfl rfl UU135 rfl Kx (fun w hw => Kn.hd0 (Kn.tl hw)) rfl rfl (Nq ?_)
 apply rg_pure Rx Kx
 case hargs => exact Ax
 case h => exact fun w hw => reduced_any z hz hk w
 case hz => exact Nz
 simp only [qz]
 cases hs : z.nf.small
 ·refine Zx ?_
  refine Rgn fun g3 => ?_
  simp only [qz]; refine rf_storeR (n := 5) rfl rfl Kx rfl rfl (UpdR.here _ _ _ Nl) Nz (Nw ?_); refine Zx ?_; refine Zr ?_; refine Wx [0, 0] ?_; refine Zr ?_; refine Wr [0, 1, 0] ?_; refine rf_build (cs := fun a => #[.int .i64 0, .int .i64 0, .int .i64 0, .int .i64 0, .int .i64 0]) rfl rfl Kx (Nq ?_); refine rf_storeR (n := 5) rfl rfl Kx rfl rfl (UpdR.there _ (UpdR.here _ _ _ Nl)) Nz (Nw ?_); refine Zx ?_; refine Zr ?_
  refine ek_ret (fun w hw => ⟨rfl, _, run_results2 rfl rfl (Kn.hd0 (Kn.tl hw)) UU44 rfl Kx, ?_⟩); (try simp only [qz])
  exact ⟨by (unfold Nm.mk' numV; rw [if_neg (by rw [hs]; decide)]; rfl), hw.below⟩
 refine Zx ?_
 refine Rgn fun g4 => ?_
 simp only [qz]
 refine rf_storeR (n := 5) rfl rfl Kx rfl rfl (UpdR.here _ _ _ Nl) Nz (Nw ?_)
 refine Zx ?_
 refine Zr ?_
 refine Wx [0, 0] ?_
 refine Zr ?_
 refine Wr [0, 1, 0] ?_
 refine rf_loadR (n := 5) rfl rfl rfl UU44 rfl Kx (fun w hw => Kn.hd0 hw) rfl rfl (Nq ?_)
 refine rf_storeR (n := 5) rfl rfl Kx rfl rfl (UpdR.there _ (UpdR.here _ _ _ Nl)) Nz (Nw ?_)
 refine Zx ?_
 refine Zr ?_
 refine ek_ret (fun w hw => ⟨rfl, _, run_results2 rfl rfl (Kn.hd0 (Kn.tl hw)) UU44 rfl Kx, ?_⟩)
 (try simp only [qz])
 exact ⟨by (unfold Nm.mk' numV; rw [if_pos hs]), hw.below⟩
theorem okB_not {z : Nm} (h : ¬ z.Ok) : z.okB = false := by
 cases hb : z.okB with
 | false => rfl
 | true => exact absurd (okB_iff.1 hb) h
theorem okB_yes {z : Nm} (h : z.Ok) : z.okB = true := okB_iff.2 h
theorem okB_last {z : Nm} (h0 : 0 ≤ z.k) (h1 : z.k ≤ 40) (hf : z.Fit 1000000000) : z.okB = decide (z.nf = z) := by
 rw [Bool.eq_iff_iff, okB_iff, decide_eq_true_eq, nf_self_iff h0]
 exact ⟨fun h => h.form, fun h => ⟨hf, h0, h1, h⟩⟩
theorem amvalid_any (z : Nm) (w : World) : Calls Tryz.prog 54 #[nmV z] w fun e w' => e = .returned (.bool z.okB) ∧ Below w.heap.size w w' := by
 go_enter Tryz.func54, Tryz.ntmps54
 refine wk_start ?_
 refine wk_seq ?_
 refine Wr [1, 0] ?_
 refine Rgn fun g1 => ?_
 refine Zx ?_
 refine Zr ?_
 refine Wr [0, 0, 0, 0, 0, 0, 0, 0] ?_
 refine Fd 0 4 UU44 ?_
 refine rf_load rfl rfl rfl UU3 rfl (fun w hw => (Kn.hd0 hw).at rfl) (Nq ?_)
 refine rfb_lss rfl rfl rfl rfl ?_
 rintro (_ | _) h1 <;> try simp only [qd, ne_eq] at h1
 ·refine Zx ?_
  refine Fd 0 4 UU44 ?_; refine rf_load rfl rfl rfl UU3 rfl (fun w hw => (Kn.hd0 hw).at rfl) (Nq ?_); refine rfb_gtr rfl rfl rfl rfl ?_
  rintro (_ | _) h2 <;> try simp only [qd, ne_eq] at h2
  ·refine Zx ?_
   refine Zr ?_; refine Wr [0, 0, 0] ?_; refine Fd 3 0 UU44 ?_; refine rf_loadR (n := 4) rfl rfl rfl UU42 rfl Kx (fun w hw => Kn.hd0 hw) rfl rfl (Zx ?_); refine rg_nil (ek_next (wk_block ?_)); refine wk_unroll 4 ?_; refine wk_seq ?_; refine Wr [0] ?_; refine rf_lss (b := true) rfl rfl rfl rfl (by decide) (Nq ?_); refine Zr ?_; refine Wr [0, 0] ?_; refine Zk ?_; refine Zr ?_; refine Wx [0, 0, 0, 0, 0, 0] ?_
   refine rfb_lss rfl rfl rfl rfl ?_
   rintro (_ | _) h3 <;> try simp only [qd, ne_eq] at h3
   ·refine Zx ?_
    apply rg_soft_g
    case hg => rfl
    case hy => (intro w hw; exact Gy)
    simp only [qz]; refine rfb_gtr rfl rfl rfl rfl ?_
    rintro (_ | _) h4 <;> try simp only [qd, ne_eq] at h4
    ·refine Zx ?_
     refine Zr ?_; refine Wr [0, 0] ?_; refine rf_add (r := 1) rfl rfl rfl rfl (by decide) (Zx ?_); refine Zr ?_; refine Wr [0] ?_; refine rf_lss (b := true) rfl rfl rfl rfl (by decide) (Nq ?_); refine Zr ?_; refine Wr [0, 0] ?_; refine Zk ?_; refine Zr ?_; refine Wx [0, 0, 0, 0, 0, 0] ?_; refine rfb_lss rfl rfl rfl rfl ?_
     rintro (_ | _) h5 <;> try simp only [qd, ne_eq] at h5
     ·refine Zx ?_
      apply rg_soft_g
      case hg => rfl
      case hy => (intro w hw; exact Gy)
      simp only [qz]; refine rfb_gtr rfl rfl rfl rfl ?_
      rintro (_ | _) h6 <;> try simp only [qd, ne_eq] at h6
      ·refine Zx ?_
       refine Zr ?_; refine Wr [0, 0] ?_; refine rf_add (r := 2) rfl rfl rfl rfl (by decide) (Zx ?_); refine Zr ?_; refine Wr [0] ?_; refine rf_lss (b := true) rfl rfl rfl rfl (by decide) (Nq ?_); refine Zr ?_; refine Wr [0, 0] ?_; refine Zk ?_; refine Zr ?_; refine Wx [0, 0, 0, 0, 0, 0] ?_; refine rfb_lss rfl rfl rfl rfl ?_
       rintro (_ | _) h7 <;> try simp only [qd, ne_eq] at h7
       ·refine Zx ?_
        apply rg_soft_g
        case hg => rfl
        case hy => (intro w hw; exact Gy)
        simp only [qz]; refine rfb_gtr rfl rfl rfl rfl ?_
        rintro (_ | _) h8 <;> try simp only [qd, ne_eq] at h8
        ·refine Zx ?_
         refine Zr ?_; refine Wr [0, 0] ?_; refine rf_add (r := 3) rfl rfl rfl rfl (by decide) (Zx ?_); refine Zr ?_; refine Wr [0] ?_; refine rf_lss (b := true) rfl rfl rfl rfl (by decide) (Nq ?_); refine Zr ?_; refine Wr [0, 0] ?_; refine Zk ?_; refine Zr ?_; refine Wx [0, 0, 0, 0, 0, 0] ?_; refine rfb_lss rfl rfl rfl rfl ?_
         rintro (_ | _) h9 <;> try simp only [qd, ne_eq] at h9
         ·refine Zx ?_
          apply rg_soft_g
          case hg => rfl
          case hy => (intro w hw; exact Gy)
          simp only [qz]; refine rfb_gtr rfl rfl rfl rfl ?_
          rintro (_ | _) h10 <;> try simp only [qd, ne_eq] at h10
          ·refine Zx ?_
           refine Zr ?_; refine Wr [0, 0] ?_; refine rf_add (r := 4) rfl rfl rfl rfl (by decide) (Zx ?_); refine Zr ?_; refine Wr [0] ?_; refine rf_lss (b := false) rfl rfl rfl rfl (by decide) (Nq ?_); refine Zr ?_; refine Wr [0, 1, 0, 0, 0, 1, 1, 0] ?_; refine rf_loadR (n := 5) rfl rfl rfl UU44 rfl Kx (fun w hw => Kn.hd0 hw) rfl rfl (Nq ?_); apply rg_pure Rx Kx
           case hargs => exact Ax
           case h => exact fun w hw => reduced_any z ⟨by omega, by omega, by omega, by omega, by omega, by omega, by omega, by omega⟩ Ox w
           case hz => exact Nz
           refine Zx ?_
           refine Rgn fun g2 => ?_
           simp only [qz]; refine rf_storeR (n := 5) rfl rfl Kx rfl rfl (UpdR.here _ _ _ Nl) Nz (Nw ?_); refine Zx ?_; refine Zr ?_; refine Wr [0, 0, 0, 0] ?_; refine rf_loadR (n := 5) rfl rfl rfl UU44 rfl Kx (fun w hw => Kn.hd0 hw) rfl rfl (Nq ?_); refine rf_loadR (n := 5) rfl rfl rfl UU44 rfl Kx (fun w hw => Kn.hd0 (Kn.tl hw)) rfl rfl (Nq ?_); refine rf_eqN (u := z.nf) (v := z) rfl rfl rfl rfl (Zx ?_)
           refine Zr ?_
           refine Er fun w hw => ?_
           (try simp only [qz]); refine ⟨?_, hw.below⟩; rw [okB_last (z := z) Ox Ox ⟨by omega, by omega, by omega, by omega, by omega, by omega, by omega, by omega⟩]
          refine Zx ?_; refine Zr ?_; refine Wx [0] ?_; refine Zr ?_
          refine Er fun w hw => ?_
          (try simp only [qz])
          exact ⟨by rw [okB_not (z := z) (fun h => by obtain ⟨⟨h1, h2, h3, h4, h5, h6, h7, h8⟩, h9, h10, h11⟩ := h; omega)], hw.below⟩
         refine Zx ?_; refine Zr ?_; refine Wx [0] ?_; refine Zr ?_
         refine Er fun w hw => ?_
         (try simp only [qz])
         exact ⟨by rw [okB_not (z := z) (fun h => by obtain ⟨⟨h1, h2, h3, h4, h5, h6, h7, h8⟩, h9, h10, h11⟩ := h; omega)], hw.below⟩
        refine Zx ?_; refine Zr ?_; refine Wx [0] ?_; refine Zr ?_
        refine Er fun w hw => ?_
        (try simp only [qz])
        exact ⟨by rw [okB_not (z := z) (fun h => by obtain ⟨⟨h1, h2, h3, h4, h5, h6, h7, h8⟩, h9, h10, h11⟩ := h; omega)], hw.below⟩
       refine Zx ?_; refine Zr ?_; refine Wx [0] ?_; refine Zr ?_
       refine Er fun w hw => ?_
       (try simp only [qz])
       exact ⟨by rw [okB_not (z := z) (fun h => by obtain ⟨⟨h1, h2, h3, h4, h5, h6, h7, h8⟩, h9, h10, h11⟩ := h; omega)], hw.below⟩
      refine Zx ?_; refine Zr ?_; refine Wx [0] ?_; refine Zr ?_
      refine Er fun w hw => ?_
      (try simp only [qz])
      exact ⟨by rw [okB_not (z := z) (fun h => by obtain ⟨⟨h1, h2, h3, h4, h5, h6, h7, h8⟩, h9, h10, h11⟩ := h; omega)], hw.below⟩
     refine Zx ?_; refine Zr ?_; refine Wx [0] ?_; refine Zr ?_
     refine Er fun w hw => ?_
     (try simp only [qz])
     exact ⟨by rw [okB_not (z := z) (fun h => by obtain ⟨⟨h1, h2, h3, h4, h5, h6, h7, h8⟩, h9, h10, h11⟩ := h; omega)], hw.below⟩
    refine Zx ?_; refine Zr ?_; refine Wx [0] ?_; refine Zr ?_
    refine Er fun w hw => ?_
    (try simp only [qz])
    exact ⟨by rw [okB_not (z := z) (fun h => by obtain ⟨⟨h1, h2, h3, h4, h5, h6, h7, h8⟩, h9, h10, h11⟩ := h; omega)], hw.below⟩
   refine Zx ?_; refine Zr ?_; refine Wx [0] ?_; refine Zr ?_
   refine Er fun w hw => ?_
   (try simp only [qz])
   exact ⟨by rw [okB_not (z := z) (fun h => by obtain ⟨⟨h1, h2, h3, h4, h5, h6, h7, h8⟩, h9, h10, h11⟩ := h; omega)], hw.below⟩
  refine Zx ?_; refine Zr ?_; refine Wx [0] ?_; refine Zr ?_
  refine Er fun w hw => ?_
  (try simp only [qz])
  exact ⟨by rw [okB_not (z := z) (fun h => by obtain ⟨⟨h1, h2, h3, h4, h5, h6, h7, h8⟩, h9, h10, h11⟩ := h; omega)], hw.below⟩
 refine Zx ?_
 refine Zr ?_
 refine Wx [0] ?_
 refine Zr ?_
 refine Er fun w hw => ?_
 (try simp only [qz])
 exact ⟨by rw [okB_not (z := z) (fun h => by obtain ⟨⟨h1, h2, h3, h4, h5, h6, h7, h8⟩, h9, h10, h11⟩ := h; omega)], hw.below⟩
theorem atN_range {w : World} {b off : Nat} {z : Nm} (h : NmAt w b off z) : w.rangeAt b off [.int .i64 z.a, .int .i64 z.b, .int .i64 z.c, .int .i64 z.d, .int .i64 z.k] := by
 intro j v hj
 match j, hj with
 | 0, hj => injection hj with hj; subst hj; exact h.c0
 | 1, hj => injection hj with hj; subst hj; exact h.c1
 | 2, hj => injection hj with hj; subst hj; exact h.c2
 | 3, hj => injection hj with hj; subst hj; exact h.c3
 | 4, hj => injection hj with hj; subst hj; exact h.c4
 | n + 5, hj => cases hj
theorem ampvalid_yes (xs : List Nm) (a : Option Addr) (c : Nat) (hl : xs.length ≤ 100000) (hn : 0 < xs.length) (hx : ∀ z ∈ xs, z.Ok) (w : World) (hA : AS w a (nms xs)) : Calls Tryz.prog 99 #[.slice a xs.length c] w fun e w' => e = .returned (.bool true) ∧ Below w.heap.size w w' := by
 obtain ⟨b, off, rfl, hlt, hcell⟩ := AS.openN hA hn
 go_enter Tryz.func99, Tryz.ntmps99
 refine wk_start ?_
 refine wk_seq ?_
 refine Wx [0] ?_
 refine Zr ?_
 refine Wx [0, 0, 0] ?_
 refine rf_len rfl rfl rfl UU26 (Zx ?_)
 refine Zr ?_
 refine wk_loopF [2, 4, 7, 8, 9, 10, 11, 12, 13, 14] (fun mz f s => ∃ (k : Nat), f 2 = .bool false ∧ f 7 = .int .i64 k ∧ s = [] ∧ mz = xs.length - k ∧ k ≤ xs.length) ((fun (k : Nat) => xs.length - k) (0)) ?_ Kx ?_
 ·exact ⟨0, rfl, rfl, rfl, rfl, by omega⟩
 rintro mz f1 s ⟨k, hs1_2, hs1_7, rfl, hn, hc1⟩
 simp only [Act.putF, List.foldl_cons, List.foldl_nil, hs1_2, hs1_7, Act.put, Act.eval, qW, Nat.reduceAdd, Bool.not_true, Bool.not_false]
 clear hs1_2 hs1_7
 refine wk_seq ?_
 refine Wr [0] ?_
 refine rfb_lss rfl rfl rfl rfl ?_
 rintro (_ | _) h1 <;> try simp only [qd, ne_eq] at h1
 ·simp only [qz]
  refine Zr ?_; refine Wx [0] ?_; refine Zr ?_
  refine Er fun w hw => ?_
  (try simp only [qz])
  first | exact ⟨rfl, hw.below⟩ | exact ⟨trivial, hw.below⟩ | exact hw.below
 simp only [qz]
 have hO := okB_yes (hx _ (NmE.at_mem (show k < xs.length by omega)))
 refine Zr ?_
 refine Wr [0, 0, 1, 1] ?_
 refine rf_indexS (n := k) (sz := 5) (j := off + k * 5) rfl rfl rfl rfl UU26 Kx Ox Ox rfl (Nq ?_)
 refine rf_loadC (n := 5) (vs := [.int .i64 (nm xs k).a, .int .i64 (nm xs k).b, .int .i64 (nm xs k).c, .int .i64 (nm xs k).d, .int .i64 (nm xs k).k]) rfl rfl rfl UU44 rfl Kx rfl (fun w hw => atN_range ((hcell k Ox).kn hw hlt (by simp))) (Nq ?_)
 refine Rgn fun g1 => ?_
 simp only [qz]
 refine rf_storeR (n := 5) rfl rfl Kx rfl rfl (UpdR.here _ _ _ Nl) Nz (Nw ?_)
 refine Zr ?_
 refine Wr [0, 1, 0] ?_
 refine rf_loadR (n := 5) rfl rfl rfl UU44 rfl Kx (fun w hw => Kn.hd0 hw) rfl rfl (Nq ?_)
 apply rg_pure Rx Kx
 case hargs => exact Ax
 case h => exact fun w hw => by have := amvalid_any (nm xs k) w; rw [hO] at this; exact this
 case hz => exact Nz
 refine Zx ?_
 refine Zr ?_
 refine Wr [0, 0] ?_
 refine rf_add rfl rfl rfl rfl (wrap_ok Ox Ox) (Zx ?_)
 refine rg_nil ?_
 refine ek_sub (sk _ sn) ?_
 refine ek_roundF (xs.length - (k + 1)) Ox Kx ?_
 exact ⟨k + 1, rfl, rfl, by rfl, by rfl, by omega⟩
theorem by_any (z : Nm) (n : Int) (h0 : 0 ≤ n) (h1 : n ≤ 40) (hz : z.Fit 1000000000) (w : World) : Calls Tryz.prog 132 #[.agg #[.int .i64 z.a, .int .i64 z.b, .int .i64 z.c, .int .i64 z.d], .int .i64 n] w fun e w' => e = .returned (.agg #[.int .i64 (Nm.up n.toNat z).a, .int .i64 (Nm.up n.toNat z).b, .int .i64 (Nm.up n.toNat z).c, .int .i64 (Nm.up n.toNat z).d]) ∧ Below w.heap.size w w' := by
 go_enter Tryz.func132, Tryz.ntmps132
 refine wk_start ?_
 refine wk_seq ?_
 refine Wr [1, 1] ?_
 refine Rgn fun g1 => ?_
 simp only [qz]
 refine Rgn fun g2 => ?_
 simp only [qz]
 refine Zr ?_
 refine wk_loopF [1, 5, 6, 7, 8, 9, 10, 11, 12, 13, 14, 15, 16, 17, 18] (fun mz f s => ∃ (m : Nat) (y : Nm) (j : Int), f 1 = .int .i64 j ∧ s = ((g2, .cells #[.int .i64 0, .int .i64 0, .int .i64 0, .int .i64 0] 42) :: ((g1, .cells #[.int .i64 y.a, .int .i64 y.b, .int .i64 y.c, .int .i64 y.d] 42) :: [])) ∧ mz = 20 - m ∧ m ≤ 20 ∧ Nm.up (2 * m) z = y ∧ y.Fit 1048576000000000 ∧ 2 * (m : Int) + j ≤ n ∧ n ≤ 2 * (m : Int) + j ∧ 0 ≤ j) ((fun (m : Nat) (y : Nm) (j : Int) => 20 - m) (0) (z) (n)) ?_ Kx ?_
 ·exact ⟨0, z, n, rfl, rfl, rfl, by omega, rfl, Nm.fit_mono hz Ox, by omega, by omega, by omega⟩
 rintro mz f1 s ⟨m, y, j, hs1_1, rfl, hn, hc1, hc2, hc3, hc4, hc5, hc6⟩
 simp only [Act.putF, List.foldl_cons, List.foldl_nil, hs1_1, Act.put, Act.eval, qW, Nat.reduceAdd, Bool.not_true, Bool.not_false]
 clear hs1_1
 have hy := Lib.hid hc2
 clear hc2
 obtain ⟨fa0, fa1, fb0, fb1, fc0, fc1, fd0, fd1⟩ := hc3
 refine wk_seq (wk_seq ?_)
 refine Wx [0, 0] ?_
 refine rfb_geq rfl rfl rfl rfl ?_
 rintro (_ | _) h1 <;> try simp only [qd, ne_eq] at h1
 ·simp only [qz]
  refine Zr ?_; refine Wx [0, 0] ?_; refine rfb_eql rfl rfl rfl rfl ?_
  rintro (_ | _) h2 <;> try simp only [qd, ne_eq] at h2
  ·simp only [qz]
   refine Zr ?_; refine Wr [0, 1] ?_; refine rf_loadR (n := 4) rfl rfl rfl UU42 rfl Kx (fun w hw => Kn.hd0 (Kn.tl hw)) rfl rfl (Nq ?_); refine rf_storeR (n := 4) rfl rfl Kx rfl rfl (UpdR.here _ _ _ Nl) Nz (Nw ?_); refine Zr ?_; refine ek_ret (fun w hw => ⟨rfl, _, run_results1 rfl rfl (Kn.hd0 hw) UU42 rfl Kx, ?_⟩); (try simp only [qz])
   have e : n.toNat = 2 * m := by omega
   exact ⟨by rw [e, hy.out], hw.below⟩
  simp only [qz]; refine Zr ?_; refine Wr [0, 0, 0, 0, 0, 0, 0, 0, 0, 0, 0, 0, 0, 0, 0, 0, 0, 0, 0, 0, 0, 1] ?_; refine Ia 1 1 1 UU42 ?_; refine rf_load rfl rfl rfl UU3 rfl (fun w hw => (Kn.hd0 (Kn.tl hw)).at rfl) (Nq ?_); refine Ia 3 1 3 UU42 ?_; refine rf_load rfl rfl rfl UU3 rfl (fun w hw => (Kn.hd0 (Kn.tl hw)).at rfl) (Nq ?_); refine rf_sub rfl rfl rfl rfl (wrap_ok Ox Ox) (Nq ?_)
  refine Ia 0 1 0 UU42 ?_; refine rf_load rfl rfl rfl UU3 rfl (fun w hw => (Kn.hd0 (Kn.tl hw)).at rfl) (Nq ?_); refine Ia 2 1 2 UU42 ?_; refine rf_load rfl rfl rfl UU3 rfl (fun w hw => (Kn.hd0 (Kn.tl hw)).at rfl) (Nq ?_); refine rf_add rfl rfl rfl rfl (wrap_ok Ox Ox) (Nq ?_); refine Ia 1 1 1 UU42 ?_; refine rf_load rfl rfl rfl UU3 rfl (fun w hw => (Kn.hd0 (Kn.tl hw)).at rfl) (Nq ?_)
  refine Ia 3 1 3 UU42 ?_; refine rf_load rfl rfl rfl UU3 rfl (fun w hw => (Kn.hd0 (Kn.tl hw)).at rfl) (Nq ?_); refine rf_add rfl rfl rfl rfl (wrap_ok Ox Ox) (Nq ?_); refine Ia 2 1 2 UU42 ?_; refine rf_load rfl rfl rfl UU3 rfl (fun w hw => (Kn.hd0 (Kn.tl hw)).at rfl) (Nq ?_); refine Ia 0 1 0 UU42 ?_; refine rf_load rfl rfl rfl UU3 rfl (fun w hw => (Kn.hd0 (Kn.tl hw)).at rfl) (Nq ?_)
  refine rf_sub rfl rfl rfl rfl (wrap_ok Ox Ox) (Nq ?_); refine rf_build (cs := fun a => #[a.eval (.tmp 25), a.eval (.tmp 30), a.eval (.tmp 35), a.eval (.tmp 40)]) rfl rfl Kx (Nq ?_); refine rf_storeR (n := 4) rfl rfl Kx rfl rfl (UpdR.there _ (UpdR.here _ _ _ Nl)) Nz (Nw ?_); refine Zr ?_; refine Wr [0, 1] ?_; refine rf_loadR (n := 4) rfl rfl rfl UU42 rfl Kx (fun w hw => Kn.hd0 (Kn.tl hw)) rfl rfl (Nq ?_)
  refine rf_storeR (n := 4) rfl rfl Kx rfl rfl (UpdR.here _ _ _ Nl) Nz (Nw ?_); refine Zr ?_; refine ek_ret (fun w hw => ⟨rfl, _, run_results1 rfl rfl (Kn.hd0 hw) UU42 rfl Kx, ?_⟩); (try simp only [qz])
  have e : n.toNat = 2 * m + 1 := by omega
  exact ⟨by rw [e, Nm.up_succ1, hy.out]; rfl, hw.below⟩
 simp only [qz]
 refine Zr ?_
 refine Wx [0] ?_
 refine rg_nil (ek_next (wk_block ?_))
 refine wk_unroll 4 ?_
 refine wk_seq ?_
 refine Wr [0] ?_
 refine rf_lss (b := true) rfl rfl rfl rfl (by decide) (Nq ?_)
 refine Zr ?_
 refine Wx [0, 0] ?_
 refine rg_nil (ek_next ?_)
 refine Wx [0, 0, 0, 0, 0, 1] ?_
 refine Ia 0 1 0 UU42 ?_
 refine rf_load rfl rfl rfl UU3 rfl (fun w hw => (Kn.hd0 (Kn.tl hw)).at rfl) (Nq ?_)
 refine rf_mul rfl rfl rfl rfl (wrap_ok Ox Ox) (Nq ?_)
 refine Ia 0 1 0 UU42 ?_
 refine rf_store rfl rfl Kx rfl rfl (UpdR.there _ (UpdR.here _ _ _ Nl)) Nz (Nq ?_)
 refine Zr ?_
 refine Wr [0, 0] ?_
 refine rf_add (r := 1) rfl rfl rfl rfl (by decide) (Zx ?_)
 refine Zr ?_
 refine Wr [0] ?_
 refine rf_lss (b := true) rfl rfl rfl rfl (by decide) (Nq ?_)
 refine Zr ?_
 refine Wx [0, 0] ?_
 refine rg_nil (ek_next ?_)
 refine Wx [0, 0, 0, 0, 0, 1] ?_
 refine Ia 1 1 1 UU42 ?_
 refine rf_load rfl rfl rfl UU3 rfl (fun w hw => (Kn.hd0 (Kn.tl hw)).at rfl) (Nq ?_)
 refine rf_mul rfl rfl rfl rfl (wrap_ok Ox Ox) (Nq ?_)
 refine Ia 1 1 1 UU42 ?_
 refine rf_store rfl rfl Kx rfl rfl (UpdR.there _ (UpdR.here _ _ _ Nl)) Nz (Nq ?_)
 refine Zr ?_
 refine Wr [0, 0] ?_
 refine rf_add (r := 2) rfl rfl rfl rfl (by decide) (Zx ?_)
 refine Zr ?_
 refine Wr [0] ?_
 refine rf_lss (b := true) rfl rfl rfl rfl (by decide) (Nq ?_)
 refine Zr ?_
 refine Wx [0, 0] ?_
 refine rg_nil (ek_next ?_)
 refine Wx [0, 0, 0, 0, 0, 1] ?_
 refine Ia 2 1 2 UU42 ?_
 refine rf_load rfl rfl rfl UU3 rfl (fun w hw => (Kn.hd0 (Kn.tl hw)).at rfl) (Nq ?_)
 refine rf_mul rfl rfl rfl rfl (wrap_ok Ox Ox) (Nq ?_)
 refine Ia 2 1 2 UU42 ?_
 refine rf_store rfl rfl Kx rfl rfl (UpdR.there _ (UpdR.here _ _ _ Nl)) Nz (Nq ?_)
 refine Zr ?_
 refine Wr [0, 0] ?_
 refine rf_add (r := 3) rfl rfl rfl rfl (by decide) (Zx ?_)
 refine Zr ?_
 refine Wr [0] ?_
 refine rf_lss (b := true) rfl rfl rfl rfl (by decide) (Nq ?_)
 refine Zr ?_
 refine Wx [0, 0] ?_
 refine rg_nil (ek_next ?_)
 refine Wx [0, 0, 0, 0, 0, 1] ?_
 refine Ia 3 1 3 UU42 ?_
 refine rf_load rfl rfl rfl UU3 rfl (fun w hw => (Kn.hd0 (Kn.tl hw)).at rfl) (Nq ?_)
 refine rf_mul rfl rfl rfl rfl (wrap_ok Ox Ox) (Nq ?_)
 refine Ia 3 1 3 UU42 ?_
 refine rf_store rfl rfl Kx rfl rfl (UpdR.there _ (UpdR.here _ _ _ Nl)) Nz (Nq ?_)
 refine Zr ?_
 refine Wr [0, 0] ?_
 refine rf_add (r := 4) rfl rfl rfl rfl (by decide) (Zx ?_)
 refine Zr ?_
 refine Wr [0] ?_
 refine rf_lss (b := false) rfl rfl rfl rfl (by decide) (Nq ?_)
 refine Zr ?_
 refine Wx [0, 0, 0] ?_
 refine rf_sub rfl rfl rfl rfl (wrap_ok Ox Ox) (Zx ?_)
 refine rg_nil ?_
 have hm : m + 1 ≤ 20 := by omega
 refine ek_roundF (20 - (m + 1)) Ox Kx ?_
 exact ⟨m + 1, _, _, rfl, (by rw [Nm.up_succ2, hy.out]), by rfl, hm, rfl, Nm.up2_fit hz hm, by omega, by omega, by omega⟩
theorem amadd_any (x y : Nm) (hx : x.Ok) (hy : y.Ok) (w : World) : Calls Tryz.prog 100 #[nmV x, nmV y] w fun e w' => e = .returned (nmV (x.addR y)) ∧ Below w.heap.size w w' := by
 have hx' := hx
 have hy' := hy
 obtain ⟨⟨xa0, xa1, xb0, xb1, xc0, xc1, xd0, xd1⟩, xk0, xk1, xf⟩ := hx'
 obtain ⟨⟨ya0, ya1, yb0, yb1, yc0, yc1, yd0, yd1⟩, yk0, yk1, yf⟩ := hy'
 go_enter Tryz.func100, Tryz.ntmps100
 refine wk_start ?_
 refine wk_seq ?_
 refine Wr [1, 1, 1] ?_
 refine Rgn fun g1 => ?_
 simp only [qz]
 refine Rgn fun g2 => ?_
 simp only [qz]
 refine Rgn fun g3 => ?_
 simp only [qz]
 refine Zr ?_
 refine Wr [0, 0, 0, 0, 0] ?_
 refine Fd 0 4 UU44 ?_
 refine rf_load rfl rfl rfl UU3 rfl (fun w hw => (Kn.hd0 (Kn.tl (Kn.tl hw))).at rfl) (Nq ?_)
 refine Fd 0 4 UU44 ?_
 refine rf_load rfl rfl rfl UU3 rfl (fun w hw => (Kn.hd0 (Kn.tl hw)).at rfl) (Nq ?_)
 refine rfb_lss rfl rfl rfl rfl ?_
 rintro (_ | _) h1 <;> try simp only [qd, ne_eq] at h1
 ·simp only [qz]
  refine Zr ?_; refine Wr [0, 0, 0, 0, 0, 0, 0, 1, 1, 1] ?_; refine Fd 3 0 UU44 ?_; refine rf_loadR (n := 4) rfl rfl rfl UU42 rfl Kx (fun w hw => Kn.hd0 (Kn.tl hw)) rfl rfl (Nq ?_); refine Fd 0 4 UU44 ?_; refine rf_load rfl rfl rfl UU3 rfl (fun w hw => (Kn.hd0 (Kn.tl (Kn.tl hw))).at rfl) (Nq ?_); refine Fd 0 4 UU44 ?_; refine rf_load rfl rfl rfl UU3 rfl (fun w hw => (Kn.hd0 (Kn.tl hw)).at rfl) (Nq ?_)
  refine rf_sub rfl rfl rfl rfl (wrap_ok Ox Ox) (Nq ?_)
  obtain ⟨ua0, ua1, ub0, ub1, uc0, uc1, ud0, ud1⟩ := Nm.up40_fit (n := (x.k - y.k).toNat) (z := y) hy.fit Ox
  apply rg_pure Rx Kx
  case hargs => exact Ax
  case h => exact fun w hw => by_any y (x.k - y.k) Ox Ox hy.fit w
  case hz => exact Nz
  simp only [qz]
  refine Rgn fun g4 => ?_
  simp only [qz]; refine rf_storeR (n := 4) rfl rfl Kx rfl rfl (UpdR.here _ _ _ Nl) Nz (Nw ?_); refine Zr ?_; refine Wx [0] ?_; refine rg_nil (ek_next (wk_block ?_)); refine wk_unroll 4 ?_; refine wk_seq ?_; refine Wr [0] ?_; refine rf_lss (b := true) rfl rfl rfl rfl (by decide) (Nq ?_); refine Zr ?_; refine Wx [0, 0] ?_; refine rg_nil (ek_next ?_); refine wk_draws_m (hz1 := (sk _ (sc _ (sc _ (sc _ sn))))) [(0, 0), (1, 0), (2, 0), (3, 0), (4, 0), (5, 0), (6, 0), (7, 0), (8, 0), (9, 2)] 9 Kx Kx (fun c d v a w h => by cases d <;> exact h) ?_
  simp only [List.map_cons, List.map_nil, List.getD_cons_zero, List.getD_cons_succ]; refine Zx ?_; refine Ia 0 1 0 UU42 ?_; refine rf_load rfl rfl rfl UU3 rfl (fun w hw => (Kn.hd0 hw).at rfl) (Zx ?_); refine Fd 3 0 UU44 ?_; refine Ia 0 1 0 UU42 ?_; refine rf_load rfl rfl rfl UU3 rfl (fun w hw => (Kn.hd0 (Kn.tl (Kn.tl (Kn.tl hw)))).at rfl) (Nq ?_); refine rf_add rfl rfl rfl rfl (wrap_ok Ox Ox) (Nq ?_)
  refine Ia 0 1 0 UU42 ?_; refine rf_storeM rfl rfl Kx rfl rfl (UpdR.here _ _ _ Nl) (sk _ (sc _ (sc _ (sc _ sn)))) (Nq ?_); refine Zr ?_; refine Wr [0, 0] ?_; refine rf_add (r := 1) rfl rfl rfl rfl (by decide) (Zx ?_); refine Zr ?_; refine Wr [0] ?_; refine rf_lss (b := true) rfl rfl rfl rfl (by decide) (Nq ?_); refine Zr ?_; refine Wx [0, 0] ?_; refine rg_nil (ek_next ?_); refine wk_draws_m (hz1 := (sk _ (sc _ (sc _ (sc _ sn))))) [(0, 0), (1, 0), (2, 0), (3, 0), (4, 0), (5, 0), (6, 0), (7, 0), (8, 0), (9, 2)] 9 Kx Kx (fun c d v a w h => by cases d <;> exact h) ?_
  simp only [List.map_cons, List.map_nil, List.getD_cons_zero, List.getD_cons_succ]; refine Zx ?_; refine Ia 1 1 1 UU42 ?_; refine rf_load rfl rfl rfl UU3 rfl (fun w hw => (Kn.hd0 hw).at rfl) (Zx ?_); refine Fd 3 0 UU44 ?_; refine Ia 1 1 1 UU42 ?_; refine rf_load rfl rfl rfl UU3 rfl (fun w hw => (Kn.hd0 (Kn.tl (Kn.tl (Kn.tl hw)))).at rfl) (Nq ?_); refine rf_add rfl rfl rfl rfl (wrap_ok Ox Ox) (Nq ?_)
  refine Ia 1 1 1 UU42 ?_; refine rf_storeM rfl rfl Kx rfl rfl (UpdR.here _ _ _ Nl) (sk _ (sc _ (sc _ (sc _ sn)))) (Nq ?_); refine Zr ?_; refine Wr [0, 0] ?_; refine rf_add (r := 2) rfl rfl rfl rfl (by decide) (Zx ?_); refine Zr ?_; refine Wr [0] ?_; refine rf_lss (b := true) rfl rfl rfl rfl (by decide) (Nq ?_); refine Zr ?_; refine Wx [0, 0] ?_; refine rg_nil (ek_next ?_); refine wk_draws_m (hz1 := (sk _ (sc _ (sc _ (sc _ sn))))) [(0, 0), (1, 0), (2, 0), (3, 0), (4, 0), (5, 0), (6, 0), (7, 0), (8, 0), (9, 2)] 9 Kx Kx (fun c d v a w h => by cases d <;> exact h) ?_
  simp only [List.map_cons, List.map_nil, List.getD_cons_zero, List.getD_cons_succ]; refine Zx ?_; refine Ia 2 1 2 UU42 ?_; refine rf_load rfl rfl rfl UU3 rfl (fun w hw => (Kn.hd0 hw).at rfl) (Zx ?_); refine Fd 3 0 UU44 ?_; refine Ia 2 1 2 UU42 ?_; refine rf_load rfl rfl rfl UU3 rfl (fun w hw => (Kn.hd0 (Kn.tl (Kn.tl (Kn.tl hw)))).at rfl) (Nq ?_); refine rf_add rfl rfl rfl rfl (wrap_ok Ox Ox) (Nq ?_)
  refine Ia 2 1 2 UU42 ?_; refine rf_storeM rfl rfl Kx rfl rfl (UpdR.here _ _ _ Nl) (sk _ (sc _ (sc _ (sc _ sn)))) (Nq ?_); refine Zr ?_; refine Wr [0, 0] ?_; refine rf_add (r := 3) rfl rfl rfl rfl (by decide) (Zx ?_); refine Zr ?_; refine Wr [0] ?_; refine rf_lss (b := true) rfl rfl rfl rfl (by decide) (Nq ?_); refine Zr ?_; refine Wx [0, 0] ?_; refine rg_nil (ek_next ?_); refine wk_draws_m (hz1 := (sk _ (sc _ (sc _ (sc _ sn))))) [(0, 0), (1, 0), (2, 0), (3, 0), (4, 0), (5, 0), (6, 0), (7, 0), (8, 0), (9, 2)] 9 Kx Kx (fun c d v a w h => by cases d <;> exact h) ?_
  simp only [List.map_cons, List.map_nil, List.getD_cons_zero, List.getD_cons_succ]; refine Zx ?_; refine Ia 3 1 3 UU42 ?_; refine rf_load rfl rfl rfl UU3 rfl (fun w hw => (Kn.hd0 hw).at rfl) (Zx ?_); refine Fd 3 0 UU44 ?_; refine Ia 3 1 3 UU42 ?_; refine rf_load rfl rfl rfl UU3 rfl (fun w hw => (Kn.hd0 (Kn.tl (Kn.tl (Kn.tl hw)))).at rfl) (Nq ?_); refine rf_add rfl rfl rfl rfl (wrap_ok Ox Ox) (Nq ?_)
  refine Ia 3 1 3 UU42 ?_; refine rf_storeM rfl rfl Kx rfl rfl (UpdR.here _ _ _ Nl) (sk _ (sc _ (sc _ (sc _ sn)))) (Nq ?_); refine Zr ?_; refine Wr [0, 0] ?_; refine rf_add (r := 4) rfl rfl rfl rfl (by decide) (Zx ?_); refine Zr ?_; refine Wr [0] ?_; refine rf_lss (b := false) rfl rfl rfl rfl (by decide) (Nq ?_); refine Zr ?_; refine Wr [0, 0, 0, 0, 1] ?_; refine rf_loadR (n := 4) rfl rfl rfl UU42 rfl Kx (fun w hw => Kn.hd0 hw) rfl rfl (Nq ?_)
  refine Fd 0 4 UU44 ?_; refine rf_load rfl rfl rfl UU3 rfl (fun w hw => (Kn.hd0 (Kn.tl (Kn.tl (Kn.tl hw)))).at rfl) (Nq ?_); refine rf_build (cs := fun a => #[cellAt (a.eval (.tmp 35)) 0, cellAt (a.eval (.tmp 35)) 1, cellAt (a.eval (.tmp 35)) 2, cellAt (a.eval (.tmp 35)) 3, a.eval (.tmp 37)]) rfl rfl Kx (Nq ?_); refine rf_storeR (n := 5) rfl rfl Kx rfl rfl (UpdR.there _ (UpdR.here _ _ _ Nl)) Nz (Nw ?_)
  refine Zr ?_; refine ek_ret (fun w hw => ⟨rfl, _, run_results1 rfl rfl (Kn.hd0 (Kn.tl hw)) UU135 rfl Kx, ?_⟩); (try simp only [qz])
  exact ⟨by rw [addR_ge Ox]; rfl, hw.below⟩
 simp only [qz]
 refine Zr ?_
 refine Wr [0, 0, 1, 1] ?_
 refine rf_loadR (n := 5) rfl rfl rfl UU44 rfl Kx (fun w hw => Kn.hd0 (Kn.tl hw)) rfl rfl (Nq ?_)
 refine rf_loadR (n := 5) rfl rfl rfl UU44 rfl Kx (fun w hw => Kn.hd0 (Kn.tl (Kn.tl hw))) rfl rfl (Nq ?_)
 refine rf_storeR (n := 5) rfl rfl Kx rfl rfl (UpdR.there _ (UpdR.there _ (UpdR.here _ _ _ Nl))) Nz (Nw ?_)
 refine rf_storeR (n := 5) rfl rfl Kx rfl rfl (UpdR.there _ (UpdR.here _ _ _ Nl)) Nz (Nw ?_)
 refine Zr ?_
 refine Wr [0, 0, 0, 0, 0, 0, 0, 1, 1, 1] ?_
 refine Fd 3 0 UU44 ?_
 refine rf_loadR (n := 4) rfl rfl rfl UU42 rfl Kx (fun w hw => Kn.hd0 (Kn.tl hw)) rfl rfl (Nq ?_)
 refine Fd 0 4 UU44 ?_
 refine rf_load rfl rfl rfl UU3 rfl (fun w hw => (Kn.hd0 (Kn.tl (Kn.tl hw))).at rfl) (Nq ?_)
 refine Fd 0 4 UU44 ?_
 refine rf_load rfl rfl rfl UU3 rfl (fun w hw => (Kn.hd0 (Kn.tl hw)).at rfl) (Nq ?_)
 refine rf_sub rfl rfl rfl rfl (wrap_ok Ox Ox) (Nq ?_)
 obtain ⟨ua0, ua1, ub0, ub1, uc0, uc1, ud0, ud1⟩ := Nm.up40_fit (n := (y.k - x.k).toNat) (z := x) hx.fit Ox
 apply rg_pure Rx Kx
 case hargs => exact Ax
 case h => exact fun w hw => by_any x (y.k - x.k) Ox Ox hx.fit w
 case hz => exact Nz
 simp only [qz]
 refine Rgn fun g5 => ?_
 simp only [qz]
 refine rf_storeR (n := 4) rfl rfl Kx rfl rfl (UpdR.here _ _ _ Nl) Nz (Nw ?_)
 refine Zr ?_
 refine Wx [0] ?_
 refine rg_nil (ek_next (wk_block ?_))
 refine wk_unroll 4 ?_
 refine wk_seq ?_
 refine Wr [0] ?_
 refine rf_lss (b := true) rfl rfl rfl rfl (by decide) (Nq ?_)
 refine Zr ?_
 refine Wx [0, 0] ?_
 refine rg_nil (ek_next ?_)
 refine wk_draws_m (hz1 := (sk _ (sc _ (sc _ (sc _ sn))))) [(0, 0), (1, 0), (2, 0), (3, 0), (4, 0), (5, 0), (6, 0), (7, 0), (8, 0), (9, 2)] 9 Kx Kx (fun c d v a w h => by cases d <;> exact h) ?_
 simp only [List.map_cons, List.map_nil, List.getD_cons_zero, List.getD_cons_succ]
 refine Zx ?_
 refine Ia 0 1 0 UU42 ?_
 refine rf_load rfl rfl rfl UU3 rfl (fun w hw => (Kn.hd0 hw).at rfl) (Zx ?_)
 refine Fd 3 0 UU44 ?_
 refine Ia 0 1 0 UU42 ?_
 refine rf_load rfl rfl rfl UU3 rfl (fun w hw => (Kn.hd0 (Kn.tl (Kn.tl (Kn.tl hw)))).at rfl) (Nq ?_)
 refine rf_add rfl rfl rfl rfl (wrap_ok Ox Ox) (Nq ?_)
 refine Ia 0 1 0 UU42 ?_
 refine rf_storeM rfl rfl Kx rfl rfl (UpdR.here _ _ _ Nl) (sk _ (sc _ (sc _ (sc _ sn)))) (Nq ?_)
 refine Zr ?_
 refine Wr [0, 0] ?_
 refine rf_add (r := 1) rfl rfl rfl rfl (by decide) (Zx ?_)
 refine Zr ?_
 refine Wr [0] ?_
 refine rf_lss (b := true) rfl rfl rfl rfl (by decide) (Nq ?_)
 refine Zr ?_
 refine Wx [0, 0] ?_
 refine rg_nil (ek_next ?_)
 refine wk_draws_m (hz1 := (sk _ (sc _ (sc _ (sc _ sn))))) [(0, 0), (1, 0), (2, 0), (3, 0), (4, 0), (5, 0), (6, 0), (7, 0), (8, 0), (9, 2)] 9 Kx Kx (fun c d v a w h => by cases d <;> exact h) ?_
 simp only [List.map_cons, List.map_nil, List.getD_cons_zero, List.getD_cons_succ]
 refine Zx ?_
 refine Ia 1 1 1 UU42 ?_
 refine rf_load rfl rfl rfl UU3 rfl (fun w hw => (Kn.hd0 hw).at rfl) (Zx ?_)
 refine Fd 3 0 UU44 ?_
 refine Ia 1 1 1 UU42 ?_
 refine rf_load rfl rfl rfl UU3 rfl (fun w hw => (Kn.hd0 (Kn.tl (Kn.tl (Kn.tl hw)))).at rfl) (Nq ?_)
 refine rf_add rfl rfl rfl rfl (wrap_ok Ox Ox) (Nq ?_)
 refine Ia 1 1 1 UU42 ?_
 refine rf_storeM rfl rfl Kx rfl rfl (UpdR.here _ _ _ Nl) (sk _ (sc _ (sc _ (sc _ sn)))) (Nq ?_)
 refine Zr ?_
 refine Wr [0, 0] ?_
 refine rf_add (r := 2) rfl rfl rfl rfl (by decide) (Zx ?_)
 refine Zr ?_
 refine Wr [0] ?_
 refine rf_lss (b := true) rfl rfl rfl rfl (by decide) (Nq ?_)
 refine Zr ?_
 refine Wx [0, 0] ?_
 refine rg_nil (ek_next ?_)
 refine wk_draws_m (hz1 := (sk _ (sc _ (sc _ (sc _ sn))))) [(0, 0), (1, 0), (2, 0), (3, 0), (4, 0), (5, 0), (6, 0), (7, 0), (8, 0), (9, 2)] 9 Kx Kx (fun c d v a w h => by cases d <;> exact h) ?_
 simp only [List.map_cons, List.map_nil, List.getD_cons_zero, List.getD_cons_succ]
 refine Zx ?_
 refine Ia 2 1 2 UU42 ?_
 refine rf_load rfl rfl rfl UU3 rfl (fun w hw => (Kn.hd0 hw).at rfl) (Zx ?_)
 refine Fd 3 0 UU44 ?_
 refine Ia 2 1 2 UU42 ?_
 refine rf_load rfl rfl rfl UU3 rfl (fun w hw => (Kn.hd0 (Kn.tl (Kn.tl (Kn.tl hw)))).at rfl) (Nq ?_)
 refine rf_add rfl rfl rfl rfl (wrap_ok Ox Ox) (Nq ?_)
 refine Ia 2 1 2 UU42 ?_
 refine rf_storeM rfl rfl Kx rfl rfl (UpdR.here _ _ _ Nl) (sk _ (sc _ (sc _ (sc _ sn)))) (Nq ?_)
 refine Zr ?_
 refine Wr [0, 0] ?_
 refine rf_add (r := 3) rfl rfl rfl rfl (by decide) (Zx ?_)
 refine Zr ?_
 refine Wr [0] ?_
 refine rf_lss (b := true) rfl rfl rfl rfl (by decide) (Nq ?_)
 refine Zr ?_
 refine Wx [0, 0] ?_
 refine rg_nil (ek_next ?_)
 refine wk_draws_m (hz1 := (sk _ (sc _ (sc _ (sc _ sn))))) [(0, 0), (1, 0), (2, 0), (3, 0), (4, 0), (5, 0), (6, 0), (7, 0), (8, 0), (9, 2)] 9 Kx Kx (fun c d v a w h => by cases d <;> exact h) ?_
 simp only [List.map_cons, List.map_nil, List.getD_cons_zero, List.getD_cons_succ]
 refine Zx ?_
 refine Ia 3 1 3 UU42 ?_
 refine rf_load rfl rfl rfl UU3 rfl (fun w hw => (Kn.hd0 hw).at rfl) (Zx ?_)
 refine Fd 3 0 UU44 ?_
 refine Ia 3 1 3 UU42 ?_
 refine rf_load rfl rfl rfl UU3 rfl (fun w hw => (Kn.hd0 (Kn.tl (Kn.tl (Kn.tl hw)))).at rfl) (Nq ?_)
 refine rf_add rfl rfl rfl rfl (wrap_ok Ox Ox) (Nq ?_)
 refine Ia 3 1 3 UU42 ?_
 refine rf_storeM rfl rfl Kx rfl rfl (UpdR.here _ _ _ Nl) (sk _ (sc _ (sc _ (sc _ sn)))) (Nq ?_)
 refine Zr ?_
 refine Wr [0, 0] ?_
 refine rf_add (r := 4) rfl rfl rfl rfl (by decide) (Zx ?_)
 refine Zr ?_
 refine Wr [0] ?_
 refine rf_lss (b := false) rfl rfl rfl rfl (by decide) (Nq ?_)
 refine Zr ?_
 refine Wr [0, 0, 0, 0, 1] ?_
 refine rf_loadR (n := 4) rfl rfl rfl UU42 rfl Kx (fun w hw => Kn.hd0 hw) rfl rfl (Nq ?_)
 refine Fd 0 4 UU44 ?_
 refine rf_load rfl rfl rfl UU3 rfl (fun w hw => (Kn.hd0 (Kn.tl (Kn.tl (Kn.tl hw)))).at rfl) (Nq ?_)
 refine rf_build (cs := fun a => #[cellAt (a.eval (.tmp 35)) 0, cellAt (a.eval (.tmp 35)) 1, cellAt (a.eval (.tmp 35)) 2, cellAt (a.eval (.tmp 35)) 3, a.eval (.tmp 37)]) rfl rfl Kx (Nq ?_)
 refine rf_storeR (n := 5) rfl rfl Kx rfl rfl (UpdR.there _ (UpdR.here _ _ _ Nl)) Nz (Nw ?_)
 refine Zr ?_
 refine ek_ret (fun w hw => ⟨rfl, _, run_results1 rfl rfl (Kn.hd0 (Kn.tl hw)) UU135 rfl Kx, ?_⟩)
 (try simp only [qz])
 exact ⟨by rw [addR_lt Ox]; rfl, hw.below⟩
theorem ammul_any (x y : Nm) (hx : x.Ok) (hy : y.Ok) (w : World) : Calls Tryz.prog 87 #[nmV x, nmV y] w fun e w' => e = .returned (nmV (x.mulR y)) ∧ Below w.heap.size w w' := by
 have hx' := hx
 have hy' := hy
 obtain ⟨⟨xa0, xa1, xb0, xb1, xc0, xc1, xd0, xd1⟩, xk0, xk1, xf⟩ := hx'
 obtain ⟨⟨ya0, ya1, yb0, yb1, yc0, yc1, yd0, yd1⟩, yk0, yk1, yf⟩ := hy'
 obtain ⟨⟨p0, r0⟩, ⟨p1, r1⟩, ⟨p2, r2⟩, ⟨p3, r3⟩, ⟨p4, r4⟩, ⟨p5, r5⟩, ⟨p6, r6⟩, ⟨p7, r7⟩, ⟨p8, r8⟩, ⟨p9, r9⟩, ⟨p10, r10⟩, ⟨p11, r11⟩, ⟨p12, r12⟩, ⟨p13, r13⟩, ⟨p14, r14⟩, ⟨p15, r15⟩⟩ := prods hx.fit hy.fit
 go_enter Tryz.func87, Tryz.ntmps87
 refine wk_start ?_
 refine wk_seq ?_
 refine Wr [1, 1, 1] ?_
 refine Rgn fun g1 => ?_
 simp only [qz]
 refine Rgn fun g2 => ?_
 simp only [qz]
 refine Rgn fun g3 => ?_
 simp only [qz]
 refine Zr ?_
 refine Wr [0, 0, 0, 0, 0, 0, 1, 1] ?_
 refine Fd 0 4 UU44 ?_
 refine rf_load rfl rfl rfl UU3 rfl (fun w hw => (Kn.hd0 (Kn.tl (Kn.tl hw))).at rfl) (Nq ?_)
 refine Fd 0 4 UU44 ?_
 refine rf_load rfl rfl rfl UU3 rfl (fun w hw => (Kn.hd0 (Kn.tl hw)).at rfl) (Nq ?_)
 refine rf_add rfl rfl rfl rfl (wrap_ok Ox Ox) (Nq ?_)
 refine rf_build (cs := fun a => #[.int .i64 0, .int .i64 0, .int .i64 0, .int .i64 0, a.eval (.tmp 14)]) rfl rfl Kx (Nq ?_)
 refine Rgn fun g4 => ?_
 simp only [qz]
 refine rf_storeR (n := 5) rfl rfl Kx rfl rfl (UpdR.here _ _ _ Nl) Nz (Nw ?_)
 refine Zr ?_
 refine Wr [0, 0, 0] ?_
 refine Fd 3 0 UU44 ?_
 refine rf_loadR (n := 4) rfl rfl rfl UU42 rfl Kx (fun w hw => Kn.hd0 (Kn.tl (Kn.tl (Kn.tl hw)))) rfl rfl (Zx ?_)
 refine rg_nil (ek_next (wk_block ?_))
 refine wk_unroll 4 ?_
 refine wk_seq ?_
 refine Wr [0] ?_
 refine rf_lss (b := true) rfl rfl rfl rfl (by decide) (Nq ?_)
 refine Zr ?_
 refine Wx [0, 0, 0, 0] ?_
 refine Zk ?_
 refine Zr ?_
 refine Wr [0, 0, 0] ?_
 refine Fd 3 0 UU44 ?_
 refine rf_loadR (n := 4) rfl rfl rfl UU42 rfl Kx (fun w hw => Kn.hd0 (Kn.tl (Kn.tl hw))) rfl rfl (Zx ?_)
 refine rg_nil (ek_next (wk_block ?_))
 refine wk_unroll 4 ?_
 refine wk_seq ?_
 refine Wr [0] ?_
 refine rf_lss (b := true) rfl rfl rfl rfl (by decide) (Nq ?_)
 refine Zr ?_
 refine Wx [0, 0, 0, 0] ?_
 refine Zk ?_
 refine Zr ?_
 refine Wx [0, 0, 0, 0] ?_
 refine rf_add (r := 0) rfl rfl rfl rfl (by decide) (Nq ?_)
 refine rf_lss (b := true) rfl rfl rfl rfl (by decide) (Nq ?_)
 refine Zr ?_
 refine Wx [0, 0, 0, 0, 0, 0, 0, 0, 0, 0, 0, 0, 1] ?_
 refine rf_add (r := 0) rfl rfl rfl rfl (by decide) (Nq ?_)
 refine Fd 3 0 UU135 ?_
 refine Ia 0 1 0 UU42 ?_
 refine rf_load rfl rfl rfl UU3 rfl (fun w hw => (Kn.hd0 hw).at rfl) (Zx ?_)
 refine rf_mul rfl rfl rfl rfl (wrap_ok Ox Ox) (Nq ?_)
 refine rf_add rfl rfl rfl rfl (wrap_ok Ox Ox) (Nq ?_)
 refine Fd 3 0 UU135 ?_
 refine Ia 0 1 0 UU42 ?_
 refine rf_store rfl rfl Kx rfl rfl (UpdR.here _ _ _ Nl) Nz (Nq ?_)
 refine Zr ?_
 refine Wr [0, 0] ?_
 refine rf_add (r := 1) rfl rfl rfl rfl (by decide) (Zx ?_)
 refine Zr ?_
 refine Wr [0] ?_
 refine rf_lss (b := true) rfl rfl rfl rfl (by decide) (Nq ?_)
 refine Zr ?_
 refine Wx [0, 0, 0, 0] ?_
 refine Zk ?_
 refine Zr ?_
 refine Wx [0, 0, 0, 0] ?_
 refine rf_add (r := 1) rfl rfl rfl rfl (by decide) (Nq ?_)
 refine rf_lss (b := true) rfl rfl rfl rfl (by decide) (Nq ?_)
 refine Zr ?_
 refine Wx [0, 0, 0, 0, 0, 0, 0, 0, 0, 0, 0, 0, 1] ?_
 refine rf_add (r := 1) rfl rfl rfl rfl (by decide) (Nq ?_)
 refine Fd 3 0 UU135 ?_
 refine Ia 1 1 1 UU42 ?_
 refine rf_load rfl rfl rfl UU3 rfl (fun w hw => (Kn.hd0 hw).at rfl) (Zx ?_)
 refine rf_mul rfl rfl rfl rfl (wrap_ok Ox Ox) (Nq ?_)
 refine rf_add rfl rfl rfl rfl (wrap_ok Ox Ox) (Nq ?_)
 refine Fd 3 0 UU135 ?_
 refine Ia 1 1 1 UU42 ?_
 refine rf_store rfl rfl Kx rfl rfl (UpdR.here _ _ _ Nl) Nz (Nq ?_)
 refine Zr ?_
 refine Wr [0, 0] ?_
 refine rf_add (r := 2) rfl rfl rfl rfl (by decide) (Zx ?_)
 refine Zr ?_
 refine Wr [0] ?_
 refine rf_lss (b := true) rfl rfl rfl rfl (by decide) (Nq ?_)
 refine Zr ?_
 refine Wx [0, 0, 0, 0] ?_
 refine Zk ?_
 refine Zr ?_
 refine Wx [0, 0, 0, 0] ?_
 refine rf_add (r := 2) rfl rfl rfl rfl (by decide) (Nq ?_)
 refine rf_lss (b := true) rfl rfl rfl rfl (by decide) (Nq ?_)
 refine Zr ?_
 refine Wx [0, 0, 0, 0, 0, 0, 0, 0, 0, 0, 0, 0, 1] ?_
 refine rf_add (r := 2) rfl rfl rfl rfl (by decide) (Nq ?_)
 refine Fd 3 0 UU135 ?_
 refine Ia 2 1 2 UU42 ?_
 refine rf_load rfl rfl rfl UU3 rfl (fun w hw => (Kn.hd0 hw).at rfl) (Zx ?_)
 refine rf_mul rfl rfl rfl rfl (wrap_ok Ox Ox) (Nq ?_)
 refine rf_add rfl rfl rfl rfl (wrap_ok Ox Ox) (Nq ?_)
 refine Fd 3 0 UU135 ?_
 refine Ia 2 1 2 UU42 ?_
 refine rf_store rfl rfl Kx rfl rfl (UpdR.here _ _ _ Nl) Nz (Nq ?_)
 refine Zr ?_
 refine Wr [0, 0] ?_
 refine rf_add (r := 3) rfl rfl rfl rfl (by decide) (Zx ?_)
 refine Zr ?_
 refine Wr [0] ?_
 refine rf_lss (b := true) rfl rfl rfl rfl (by decide) (Nq ?_)
 refine Zr ?_
 refine Wx [0, 0, 0, 0] ?_
 refine Zk ?_
 refine Zr ?_
 refine Wx [0, 0, 0, 0] ?_
 refine rf_add (r := 3) rfl rfl rfl rfl (by decide) (Nq ?_)
 refine rf_lss (b := true) rfl rfl rfl rfl (by decide) (Nq ?_)
 refine Zr ?_
 refine Wx [0, 0, 0, 0, 0, 0, 0, 0, 0, 0, 0, 0, 1] ?_
 refine rf_add (r := 3) rfl rfl rfl rfl (by decide) (Nq ?_)
 refine Fd 3 0 UU135 ?_
 refine Ia 3 1 3 UU42 ?_
 refine rf_load rfl rfl rfl UU3 rfl (fun w hw => (Kn.hd0 hw).at rfl) (Zx ?_)
 refine rf_mul rfl rfl rfl rfl (wrap_ok Ox Ox) (Nq ?_)
 refine rf_add rfl rfl rfl rfl (wrap_ok Ox Ox) (Nq ?_)
 refine Fd 3 0 UU135 ?_
 refine Ia 3 1 3 UU42 ?_
 refine rf_store rfl rfl Kx rfl rfl (UpdR.here _ _ _ Nl) Nz (Nq ?_)
 refine Zr ?_
 refine Wr [0, 0] ?_
 refine rf_add (r := 4) rfl rfl rfl rfl (by decide) (Zx ?_)
 refine Zr ?_
 refine Wr [0] ?_
 refine rf_lss (b := false) rfl rfl rfl rfl (by decide) (Nq ?_)
 refine Zr ?_
 refine Wr [0, 0] ?_
 refine rf_add (r := 1) rfl rfl rfl rfl (by decide) (Zx ?_)
 refine Zr ?_
 refine Wr [0] ?_
 refine rf_lss (b := true) rfl rfl rfl rfl (by decide) (Nq ?_)
 refine Zr ?_
 refine Wx [0, 0, 0, 0] ?_
 refine Zk ?_
 refine Zr ?_
 refine Wr [0, 0, 0] ?_
 refine Fd 3 0 UU44 ?_
 refine rf_loadR (n := 4) rfl rfl rfl UU42 rfl Kx (fun w hw => Kn.hd0 (Kn.tl (Kn.tl hw))) rfl rfl (Zx ?_)
 refine rg_nil (ek_next (wk_block ?_))
 refine wk_unroll 4 ?_
 refine wk_seq ?_
 refine Wr [0] ?_
 refine rf_lss (b := true) rfl rfl rfl rfl (by decide) (Nq ?_)
 refine Zr ?_
 refine Wx [0, 0, 0, 0] ?_
 refine Zk ?_
 refine Zr ?_
 refine Wx [0, 0, 0, 0] ?_
 refine rf_add (r := 1) rfl rfl rfl rfl (by decide) (Nq ?_)
 refine rf_lss (b := true) rfl rfl rfl rfl (by decide) (Nq ?_)
 refine Zr ?_
 refine Wx [0, 0, 0, 0, 0, 0, 0, 0, 0, 0, 0, 0, 1] ?_
 refine rf_add (r := 1) rfl rfl rfl rfl (by decide) (Nq ?_)
 refine Fd 3 0 UU135 ?_
 refine Ia 1 1 1 UU42 ?_
 refine rf_load rfl rfl rfl UU3 rfl (fun w hw => (Kn.hd0 hw).at rfl) (Zx ?_)
 refine rf_mul rfl rfl rfl rfl (wrap_ok Ox Ox) (Nq ?_)
 refine rf_add rfl rfl rfl rfl (wrap_ok Ox Ox) (Nq ?_)
 refine Fd 3 0 UU135 ?_
 refine Ia 1 1 1 UU42 ?_
 refine rf_store rfl rfl Kx rfl rfl (UpdR.here _ _ _ Nl) Nz (Nq ?_)
 refine Zr ?_
 refine Wr [0, 0] ?_
 refine rf_add (r := 1) rfl rfl rfl rfl (by decide) (Zx ?_)
 refine Zr ?_
 refine Wr [0] ?_
 refine rf_lss (b := true) rfl rfl rfl rfl (by decide) (Nq ?_)
 refine Zr ?_
 refine Wx [0, 0, 0, 0] ?_
 refine Zk ?_
 refine Zr ?_
 refine Wx [0, 0, 0, 0] ?_
 refine rf_add (r := 2) rfl rfl rfl rfl (by decide) (Nq ?_)
 refine rf_lss (b := true) rfl rfl rfl rfl (by decide) (Nq ?_)
 refine Zr ?_
 refine Wx [0, 0, 0, 0, 0, 0, 0, 0, 0, 0, 0, 0, 1] ?_
 refine rf_add (r := 2) rfl rfl rfl rfl (by decide) (Nq ?_)
 refine Fd 3 0 UU135 ?_
 refine Ia 2 1 2 UU42 ?_
 refine rf_load rfl rfl rfl UU3 rfl (fun w hw => (Kn.hd0 hw).at rfl) (Zx ?_)
 refine rf_mul rfl rfl rfl rfl (wrap_ok Ox Ox) (Nq ?_)
 refine rf_add rfl rfl rfl rfl (wrap_ok Ox Ox) (Nq ?_)
 refine Fd 3 0 UU135 ?_
 refine Ia 2 1 2 UU42 ?_
 refine rf_store rfl rfl Kx rfl rfl (UpdR.here _ _ _ Nl) Nz (Nq ?_)
 refine Zr ?_
 refine Wr [0, 0] ?_
 refine rf_add (r := 2) rfl rfl rfl rfl (by decide) (Zx ?_)
 refine Zr ?_
 refine Wr [0] ?_
 refine rf_lss (b := true) rfl rfl rfl rfl (by decide) (Nq ?_)
 refine Zr ?_
 refine Wx [0, 0, 0, 0] ?_
 refine Zk ?_
 refine Zr ?_
 refine Wx [0, 0, 0, 0] ?_
 refine rf_add (r := 3) rfl rfl rfl rfl (by decide) (Nq ?_)
 refine rf_lss (b := true) rfl rfl rfl rfl (by decide) (Nq ?_)
 refine Zr ?_
 refine Wx [0, 0, 0, 0, 0, 0, 0, 0, 0, 0, 0, 0, 1] ?_
 refine rf_add (r := 3) rfl rfl rfl rfl (by decide) (Nq ?_)
 refine Fd 3 0 UU135 ?_
 refine Ia 3 1 3 UU42 ?_
 refine rf_load rfl rfl rfl UU3 rfl (fun w hw => (Kn.hd0 hw).at rfl) (Zx ?_)
 refine rf_mul rfl rfl rfl rfl (wrap_ok Ox Ox) (Nq ?_)
 refine rf_add rfl rfl rfl rfl (wrap_ok Ox Ox) (Nq ?_)
 refine Fd 3 0 UU135 ?_
 refine Ia 3 1 3 UU42 ?_
 refine rf_store rfl rfl Kx rfl rfl (UpdR.here _ _ _ Nl) Nz (Nq ?_)
 refine Zr ?_
 refine Wr [0, 0] ?_
 refine rf_add (r := 3) rfl rfl rfl rfl (by decide) (Zx ?_)
 refine Zr ?_
 refine Wr [0] ?_
 refine rf_lss (b := true) rfl rfl rfl rfl (by decide) (Nq ?_)
 refine Zr ?_
 refine Wx [0, 0, 0, 0] ?_
 refine Zk ?_
 refine Zr ?_
 refine Wx [0, 0, 0, 0] ?_
 refine rf_add (r := 4) rfl rfl rfl rfl (by decide) (Nq ?_)
 refine rf_lss (b := false) rfl rfl rfl rfl (by decide) (Nq ?_)
 refine Zr ?_
 refine Wx [0, 0, 0, 0, 0, 0, 0, 0, 0, 0, 0, 0, 0, 1] ?_
 refine rf_add (r := 4) rfl rfl rfl rfl (by decide) (Nq ?_)
 refine rf_sub (r := 0) rfl rfl rfl rfl (by decide) (Nq ?_)
 refine Fd 3 0 UU135 ?_
 refine Ia 0 1 0 UU42 ?_
 refine rf_load rfl rfl rfl UU3 rfl (fun w hw => (Kn.hd0 hw).at rfl) (Zx ?_)
 refine rf_mul rfl rfl rfl rfl (wrap_ok Ox Ox) (Nq ?_)
 refine rf_sub rfl rfl rfl rfl (wrap_ok Ox Ox) (Nq ?_)
 refine Fd 3 0 UU135 ?_
 refine Ia 0 1 0 UU42 ?_
 refine rf_store rfl rfl Kx rfl rfl (UpdR.here _ _ _ Nl) Nz (Nq ?_)
 refine Zr ?_
 refine Wr [0, 0] ?_
 refine rf_add (r := 4) rfl rfl rfl rfl (by decide) (Zx ?_)
 refine Zr ?_
 refine Wr [0] ?_
 refine rf_lss (b := false) rfl rfl rfl rfl (by decide) (Nq ?_)
 refine Zr ?_
 refine Wr [0, 0] ?_
 refine rf_add (r := 2) rfl rfl rfl rfl (by decide) (Zx ?_)
 refine Zr ?_
 refine Wr [0] ?_
 refine rf_lss (b := true) rfl rfl rfl rfl (by decide) (Nq ?_)
 refine Zr ?_
 refine Wx [0, 0, 0, 0] ?_
 refine Zk ?_
 refine Zr ?_
 refine Wr [0, 0, 0] ?_
 refine Fd 3 0 UU44 ?_
 refine rf_loadR (n := 4) rfl rfl rfl UU42 rfl Kx (fun w hw => Kn.hd0 (Kn.tl (Kn.tl hw))) rfl rfl (Zx ?_)
 refine rg_nil (ek_next (wk_block ?_))
 refine wk_unroll 4 ?_
 refine wk_seq ?_
 refine Wr [0] ?_
 refine rf_lss (b := true) rfl rfl rfl rfl (by decide) (Nq ?_)
 refine Zr ?_
 refine Wx [0, 0, 0, 0] ?_
 refine Zk ?_
 refine Zr ?_
 refine Wx [0, 0, 0, 0] ?_
 refine rf_add (r := 2) rfl rfl rfl rfl (by decide) (Nq ?_)
 refine rf_lss (b := true) rfl rfl rfl rfl (by decide) (Nq ?_)
 refine Zr ?_
 refine Wx [0, 0, 0, 0, 0, 0, 0, 0, 0, 0, 0, 0, 1] ?_
 refine rf_add (r := 2) rfl rfl rfl rfl (by decide) (Nq ?_)
 refine Fd 3 0 UU135 ?_
 refine Ia 2 1 2 UU42 ?_
 refine rf_load rfl rfl rfl UU3 rfl (fun w hw => (Kn.hd0 hw).at rfl) (Zx ?_)
 refine rf_mul rfl rfl rfl rfl (wrap_ok Ox Ox) (Nq ?_)
 refine rf_add rfl rfl rfl rfl (wrap_ok Ox Ox) (Nq ?_)
 refine Fd 3 0 UU135 ?_
 refine Ia 2 1 2 UU42 ?_
 refine rf_store rfl rfl Kx rfl rfl (UpdR.here _ _ _ Nl) Nz (Nq ?_)
 refine Zr ?_
 refine Wr [0, 0] ?_
 refine rf_add (r := 1) rfl rfl rfl rfl (by decide) (Zx ?_)
 refine Zr ?_
 refine Wr [0] ?_
 refine rf_lss (b := true) rfl rfl rfl rfl (by decide) (Nq ?_)
 refine Zr ?_
 refine Wx [0, 0, 0, 0] ?_
 refine Zk ?_
 refine Zr ?_
 refine Wx [0, 0, 0, 0] ?_
 refine rf_add (r := 3) rfl rfl rfl rfl (by decide) (Nq ?_)
 refine rf_lss (b := true) rfl rfl rfl rfl (by decide) (Nq ?_)
 refine Zr ?_
 refine Wx [0, 0, 0, 0, 0, 0, 0, 0, 0, 0, 0, 0, 1] ?_
 refine rf_add (r := 3) rfl rfl rfl rfl (by decide) (Nq ?_)
 refine Fd 3 0 UU135 ?_
 refine Ia 3 1 3 UU42 ?_
 refine rf_load rfl rfl rfl UU3 rfl (fun w hw => (Kn.hd0 hw).at rfl) (Zx ?_)
 refine rf_mul rfl rfl rfl rfl (wrap_ok Ox Ox) (Nq ?_)
 refine rf_add rfl rfl rfl rfl (wrap_ok Ox Ox) (Nq ?_)
 refine Fd 3 0 UU135 ?_
 refine Ia 3 1 3 UU42 ?_
 refine rf_store rfl rfl Kx rfl rfl (UpdR.here _ _ _ Nl) Nz (Nq ?_)
 refine Zr ?_
 refine Wr [0, 0] ?_
 refine rf_add (r := 2) rfl rfl rfl rfl (by decide) (Zx ?_)
 refine Zr ?_
 refine Wr [0] ?_
 refine rf_lss (b := true) rfl rfl rfl rfl (by decide) (Nq ?_)
 refine Zr ?_
 refine Wx [0, 0, 0, 0] ?_
 refine Zk ?_
 refine Zr ?_
 refine Wx [0, 0, 0, 0] ?_
 refine rf_add (r := 4) rfl rfl rfl rfl (by decide) (Nq ?_)
 refine rf_lss (b := false) rfl rfl rfl rfl (by decide) (Nq ?_)
 refine Zr ?_
 refine Wx [0, 0, 0, 0, 0, 0, 0, 0, 0, 0, 0, 0, 0, 1] ?_
 refine rf_add (r := 4) rfl rfl rfl rfl (by decide) (Nq ?_)
 refine rf_sub (r := 0) rfl rfl rfl rfl (by decide) (Nq ?_)
 refine Fd 3 0 UU135 ?_
 refine Ia 0 1 0 UU42 ?_
 refine rf_load rfl rfl rfl UU3 rfl (fun w hw => (Kn.hd0 hw).at rfl) (Zx ?_)
 refine rf_mul rfl rfl rfl rfl (wrap_ok Ox Ox) (Nq ?_)
 refine rf_sub rfl rfl rfl rfl (wrap_ok Ox Ox) (Nq ?_)
 refine Fd 3 0 UU135 ?_
 refine Ia 0 1 0 UU42 ?_
 refine rf_store rfl rfl Kx rfl rfl (UpdR.here _ _ _ Nl) Nz (Nq ?_)
 refine Zr ?_
 refine Wr [0, 0] ?_
 refine rf_add (r := 3) rfl rfl rfl rfl (by decide) (Zx ?_)
 refine Zr ?_
 refine Wr [0] ?_
 refine rf_lss (b := true) rfl rfl rfl rfl (by decide) (Nq ?_)
 refine Zr ?_
 refine Wx [0, 0, 0, 0] ?_
 refine Zk ?_
 refine Zr ?_
 refine Wx [0, 0, 0, 0] ?_
 refine rf_add (r := 5) rfl rfl rfl rfl (by decide) (Nq ?_)
 refine rf_lss (b := false) rfl rfl rfl rfl (by decide) (Nq ?_)
 refine Zr ?_
 refine Wx [0, 0, 0, 0, 0, 0, 0, 0, 0, 0, 0, 0, 0, 1] ?_
 refine rf_add (r := 5) rfl rfl rfl rfl (by decide) (Nq ?_)
 refine rf_sub (r := 1) rfl rfl rfl rfl (by decide) (Nq ?_)
 refine Fd 3 0 UU135 ?_
 refine Ia 1 1 1 UU42 ?_
 refine rf_load rfl rfl rfl UU3 rfl (fun w hw => (Kn.hd0 hw).at rfl) (Zx ?_)
 refine rf_mul rfl rfl rfl rfl (wrap_ok Ox Ox) (Nq ?_)
 refine rf_sub rfl rfl rfl rfl (wrap_ok Ox Ox) (Nq ?_)
 refine Fd 3 0 UU135 ?_
 refine Ia 1 1 1 UU42 ?_
 refine rf_store rfl rfl Kx rfl rfl (UpdR.here _ _ _ Nl) Nz (Nq ?_)
 refine Zr ?_
 refine Wr [0, 0] ?_
 refine rf_add (r := 4) rfl rfl rfl rfl (by decide) (Zx ?_)
 refine Zr ?_
 refine Wr [0] ?_
 refine rf_lss (b := false) rfl rfl rfl rfl (by decide) (Nq ?_)
 refine Zr ?_
 refine Wr [0, 0] ?_
 refine rf_add (r := 3) rfl rfl rfl rfl (by decide) (Zx ?_)
 refine Zr ?_
 refine Wr [0] ?_
 refine rf_lss (b := true) rfl rfl rfl rfl (by decide) (Nq ?_)
 refine Zr ?_
 refine Wx [0, 0, 0, 0] ?_
 refine Zk ?_
 refine Zr ?_
 refine Wr [0, 0, 0] ?_
 refine Fd 3 0 UU44 ?_
 refine rf_loadR (n := 4) rfl rfl rfl UU42 rfl Kx (fun w hw => Kn.hd0 (Kn.tl (Kn.tl hw))) rfl rfl (Zx ?_)
 refine rg_nil (ek_next (wk_block ?_))
 refine wk_unroll 4 ?_
 refine wk_seq ?_
 refine Wr [0] ?_
 refine rf_lss (b := true) rfl rfl rfl rfl (by decide) (Nq ?_)
 refine Zr ?_
 refine Wx [0, 0, 0, 0] ?_
 refine Zk ?_
 refine Zr ?_
 refine Wx [0, 0, 0, 0] ?_
 refine rf_add (r := 3) rfl rfl rfl rfl (by decide) (Nq ?_)
 refine rf_lss (b := true) rfl rfl rfl rfl (by decide) (Nq ?_)
 refine Zr ?_
 refine Wx [0, 0, 0, 0, 0, 0, 0, 0, 0, 0, 0, 0, 1] ?_
 refine rf_add (r := 3) rfl rfl rfl rfl (by decide) (Nq ?_)
 refine Fd 3 0 UU135 ?_
 refine Ia 3 1 3 UU42 ?_
 refine rf_load rfl rfl rfl UU3 rfl (fun w hw => (Kn.hd0 hw).at rfl) (Zx ?_)
 refine rf_mul rfl rfl rfl rfl (wrap_ok Ox Ox) (Nq ?_)
 refine rf_add rfl rfl rfl rfl (wrap_ok Ox Ox) (Nq ?_)
 refine Fd 3 0 UU135 ?_
 refine Ia 3 1 3 UU42 ?_
 refine rf_store rfl rfl Kx rfl rfl (UpdR.here _ _ _ Nl) Nz (Nq ?_)
 refine Zr ?_
 refine Wr [0, 0] ?_
 refine rf_add (r := 1) rfl rfl rfl rfl (by decide) (Zx ?_)
 refine Zr ?_
 refine Wr [0] ?_
 refine rf_lss (b := true) rfl rfl rfl rfl (by decide) (Nq ?_)
 refine Zr ?_
 refine Wx [0, 0, 0, 0] ?_
 refine Zk ?_
 refine Zr ?_
 refine Wx [0, 0, 0, 0] ?_
 refine rf_add (r := 4) rfl rfl rfl rfl (by decide) (Nq ?_)
 refine rf_lss (b := false) rfl rfl rfl rfl (by decide) (Nq ?_)
 refine Zr ?_
 refine Wx [0, 0, 0, 0, 0, 0, 0, 0, 0, 0, 0, 0, 0, 1] ?_
 refine rf_add (r := 4) rfl rfl rfl rfl (by decide) (Nq ?_)
 refine rf_sub (r := 0) rfl rfl rfl rfl (by decide) (Nq ?_)
 refine Fd 3 0 UU135 ?_
 refine Ia 0 1 0 UU42 ?_
 refine rf_load rfl rfl rfl UU3 rfl (fun w hw => (Kn.hd0 hw).at rfl) (Zx ?_)
 refine rf_mul rfl rfl rfl rfl (wrap_ok Ox Ox) (Nq ?_)
 refine rf_sub rfl rfl rfl rfl (wrap_ok Ox Ox) (Nq ?_)
 refine Fd 3 0 UU135 ?_
 refine Ia 0 1 0 UU42 ?_
 refine rf_store rfl rfl Kx rfl rfl (UpdR.here _ _ _ Nl) Nz (Nq ?_)
 refine Zr ?_
 refine Wr [0, 0] ?_
 refine rf_add (r := 2) rfl rfl rfl rfl (by decide) (Zx ?_)
 refine Zr ?_
 refine Wr [0] ?_
 refine rf_lss (b := true) rfl rfl rfl rfl (by decide) (Nq ?_)
 refine Zr ?_
 refine Wx [0, 0, 0, 0] ?_
 refine Zk ?_
 refine Zr ?_
 refine Wx [0, 0, 0, 0] ?_
 refine rf_add (r := 5) rfl rfl rfl rfl (by decide) (Nq ?_)
 refine rf_lss (b := false) rfl rfl rfl rfl (by decide) (Nq ?_)
 refine Zr ?_
 refine Wx [0, 0, 0, 0, 0, 0, 0, 0, 0, 0, 0, 0, 0, 1] ?_
 refine rf_add (r := 5) rfl rfl rfl rfl (by decide) (Nq ?_)
 refine rf_sub (r := 1) rfl rfl rfl rfl (by decide) (Nq ?_)
 refine Fd 3 0 UU135 ?_
 refine Ia 1 1 1 UU42 ?_
 refine rf_load rfl rfl rfl UU3 rfl (fun w hw => (Kn.hd0 hw).at rfl) (Zx ?_)
 refine rf_mul rfl rfl rfl rfl (wrap_ok Ox Ox) (Nq ?_)
 refine rf_sub rfl rfl rfl rfl (wrap_ok Ox Ox) (Nq ?_)
 refine Fd 3 0 UU135 ?_
 refine Ia 1 1 1 UU42 ?_
 refine rf_store rfl rfl Kx rfl rfl (UpdR.here _ _ _ Nl) Nz (Nq ?_)
 refine Zr ?_
 refine Wr [0, 0] ?_
 refine rf_add (r := 3) rfl rfl rfl rfl (by decide) (Zx ?_)
 refine Zr ?_
 refine Wr [0] ?_
 refine rf_lss (b := true) rfl rfl rfl rfl (by decide) (Nq ?_)
 refine Zr ?_
 refine Wx [0, 0, 0, 0] ?_
 refine Zk ?_
 refine Zr ?_
 refine Wx [0, 0, 0, 0] ?_
 refine rf_add (r := 6) rfl rfl rfl rfl (by decide) (Nq ?_)
 refine rf_lss (b := false) rfl rfl rfl rfl (by decide) (Nq ?_)
 refine Zr ?_
 refine Wx [0, 0, 0, 0, 0, 0, 0, 0, 0, 0, 0, 0, 0, 1] ?_
 refine rf_add (r := 6) rfl rfl rfl rfl (by decide) (Nq ?_)
 refine rf_sub (r := 2) rfl rfl rfl rfl (by decide) (Nq ?_)
 refine Fd 3 0 UU135 ?_
 refine Ia 2 1 2 UU42 ?_
 refine rf_load rfl rfl rfl UU3 rfl (fun w hw => (Kn.hd0 hw).at rfl) (Zx ?_)
 refine rf_mul rfl rfl rfl rfl (wrap_ok Ox Ox) (Nq ?_)
 refine rf_sub rfl rfl rfl rfl (wrap_ok Ox Ox) (Nq ?_)
 refine Fd 3 0 UU135 ?_
 refine Ia 2 1 2 UU42 ?_
 refine rf_store rfl rfl Kx rfl rfl (UpdR.here _ _ _ Nl) Nz (Nq ?_)
 refine Zr ?_
 refine Wr [0, 0] ?_
 refine rf_add (r := 4) rfl rfl rfl rfl (by decide) (Zx ?_)
 refine Zr ?_
 refine Wr [0] ?_
 refine rf_lss (b := false) rfl rfl rfl rfl (by decide) (Nq ?_)
 refine Zr ?_
 refine Wr [0, 0] ?_
 refine rf_add (r := 4) rfl rfl rfl rfl (by decide) (Zx ?_)
 refine Zr ?_
 refine Wr [0] ?_
 refine rf_lss (b := false) rfl rfl rfl rfl (by decide) (Nq ?_)
 refine Zr ?_
 refine Wr [0, 1] ?_
 refine rf_loadR (n := 5) rfl rfl rfl UU135 rfl Kx (fun w hw => Kn.hd0 hw) rfl rfl (Nq ?_)
 refine rf_storeR (n := 5) rfl rfl Kx rfl rfl (UpdR.there _ (UpdR.here _ _ _ Nl)) Nz (Nw ?_)
 refine Zr ?_
 refine ek_ret (fun w hw => ⟨rfl, _, run_results1 rfl rfl (Kn.hd0 (Kn.tl hw)) UU135 rfl Kx, ?_⟩)
 (try simp only [qz])
 refine ⟨?_, hw.below⟩
 simp only [Nm.mulR, Int.zero_add]
theorem amAdd_ok (x y : Nm) (hx : x.Ok) (hy : y.Ok) (w : World) : Calls Tryz.prog 60 #[nmV x, nmV y] w fun e w' => e = .returned (numV (x.add y)) ∧ Below w.heap.size w w' := by
 go_enter Tryz.func60, Tryz.ntmps60
 refine wk_start ?_
 refine wk_seq ?_
 refine Wr [1, 1, 1, 0] ?_
 refine Rgn fun g1 => ?_
 simp only [qz]
 refine Rgn fun g2 => ?_
 simp only [qz]
 refine Rgn fun g3 => ?_
 refine Zx ?_
 refine Zr ?_
 refine Wr [0, 0, 1, 1, 0] ?_
 refine rf_loadR (n := 5) rfl rfl rfl UU44 rfl Kx (fun w hw => Kn.hd0 (Kn.tl (Kn.tl hw))) rfl rfl (Nq ?_)
 refine rf_loadR (n := 5) rfl rfl rfl UU44 rfl Kx (fun w hw => Kn.hd0 (Kn.tl hw)) rfl rfl (Nq ?_)
 refine rg_newS (cs := ?_) (ty := ?_) (n := 2) (c := 2) Rx (fun w => ?_) Nz (fun g4 => ?_); rotate_left 2
 focus (go_simp; rfl)
 simp only [qz]
 apply rg_pure Rx Kx
 case hargs => exact Ax
 case h => exact fun w hw => ampvalid_yes [x, y] _ 2 Nl Nl (by intro z hz; simp only [List.mem_cons, List.not_mem_nil, or_false] at hz; rcases hz with rfl | rfl <;> assumption) w (as_hd (Kn.hd0 hw) rfl)
 case hz => exact Nz
 refine Zx ?_
 refine Zr ?_
 refine Wr [0, 0, 1, 1, 0, 0, 1, 0] ?_
 refine rf_loadR (n := 5) rfl rfl rfl UU44 rfl Kx (fun w hw => Kn.hd0 (Kn.tl (Kn.tl (Kn.tl hw)))) rfl rfl (Nq ?_)
 refine rf_loadR (n := 5) rfl rfl rfl UU44 rfl Kx (fun w hw => Kn.hd0 (Kn.tl (Kn.tl hw))) rfl rfl (Nq ?_)
 apply rg_pure Rx Kx
 case hargs => exact Ax
 case h => exact fun w hw => amadd_any x y hx hy w
 case hz => exact Nz
 simp only [qz]
 apply rg_num Rx Kx
 case hargs => exact Ax
 case h => exact fun w hw => result_any (x.addR y) (addR_fit hx hy) (by have := hx.k1; have := hy.k1; simp only [Nm.addR]; omega) w
 case hz => exact Nz
 case hc => exact (fun c h => mk_err h)
 ·intro hr1
  refine Zx ?_; refine rf_storeR (n := 5) rfl rfl Kx rfl rfl (UpdR.there _ (UpdR.here _ _ _ Nl)) Nz (Nw ?_); refine Zx ?_; refine Zr ?_; refine ek_ret (fun w hw => ⟨rfl, _, run_results2 rfl rfl (Kn.hd0 (Kn.tl hw)) UU44 rfl Kx, ?_⟩); (try simp only [qz])
  exact ⟨by rw [show x.add y = _ from hr1]; rfl, hw.below⟩
 intro z1 hr1
 refine Zx ?_
 refine rf_storeR (n := 5) rfl rfl Kx rfl rfl (UpdR.there _ (UpdR.here _ _ _ Nl)) Nz (Nw ?_)
 refine Zx ?_
 refine Zr ?_
 refine ek_ret (fun w hw => ⟨rfl, _, run_results2 rfl rfl (Kn.hd0 (Kn.tl hw)) UU44 rfl Kx, ?_⟩)
 (try simp only [qz])
 exact ⟨by rw [show x.add y = _ from hr1]; rfl, hw.below⟩
theorem amMul_ok (x y : Nm) (hx : x.Ok) (hy : y.Ok) (w : World) : Calls Tryz.prog 130 #[nmV x, nmV y] w fun e w' => e = .returned (numV (x.mul y)) ∧ Below w.heap.size w w' := by
 go_enter Tryz.func130, Tryz.ntmps130
 refine wk_start ?_
 refine wk_seq ?_
 refine Wr [1, 1, 1, 0] ?_
 refine Rgn fun g1 => ?_
 simp only [qz]
 refine Rgn fun g2 => ?_
 simp only [qz]
 refine Rgn fun g3 => ?_
 refine Zx ?_
 refine Zr ?_
 refine Wr [0, 0, 1, 1, 0] ?_
 refine rf_loadR (n := 5) rfl rfl rfl UU44 rfl Kx (fun w hw => Kn.hd0 (Kn.tl (Kn.tl hw))) rfl rfl (Nq ?_)
 refine rf_loadR (n := 5) rfl rfl rfl UU44 rfl Kx (fun w hw => Kn.hd0 (Kn.tl hw)) rfl rfl (Nq ?_)
 refine rg_newS (cs := ?_) (ty := ?_) (n := 2) (c := 2) Rx (fun w => ?_) Nz (fun g4 => ?_); rotate_left 2
 focus (go_simp; rfl)
 simp only [qz]
 apply rg_pure Rx Kx
 case hargs => exact Ax
 case h => exact fun w hw => ampvalid_yes [x, y] _ 2 Nl Nl (by intro z hz; simp only [List.mem_cons, List.not_mem_nil, or_false] at hz; rcases hz with rfl | rfl <;> assumption) w (as_hd (Kn.hd0 hw) rfl)
 case hz => exact Nz
 refine Zx ?_
 refine Zr ?_
 refine Wr [0, 0, 1, 1, 0, 0, 1, 0] ?_
 refine rf_loadR (n := 5) rfl rfl rfl UU44 rfl Kx (fun w hw => Kn.hd0 (Kn.tl (Kn.tl (Kn.tl hw)))) rfl rfl (Nq ?_)
 refine rf_loadR (n := 5) rfl rfl rfl UU44 rfl Kx (fun w hw => Kn.hd0 (Kn.tl (Kn.tl hw))) rfl rfl (Nq ?_)
 apply rg_pure Rx Kx
 case hargs => exact Ax
 case h => exact fun w hw => ammul_any x y hx hy w
 case hz => exact Nz
 simp only [qz]
 apply rg_num Rx Kx
 case hargs => exact Ax
 case h => exact fun w hw => result_any (x.mulR y) (mulR_fit hx.fit hy.fit) (by have := hx.k1; have := hy.k1; simp only [Nm.mulR]; omega) w
 case hz => exact Nz
 case hc => exact (fun c h => mk_err h)
 ·intro hr1
  refine Zx ?_; refine rf_storeR (n := 5) rfl rfl Kx rfl rfl (UpdR.there _ (UpdR.here _ _ _ Nl)) Nz (Nw ?_); refine Zx ?_; refine Zr ?_; refine ek_ret (fun w hw => ⟨rfl, _, run_results2 rfl rfl (Kn.hd0 (Kn.tl hw)) UU44 rfl Kx, ?_⟩); (try simp only [qz])
  exact ⟨by rw [show x.mul y = _ from hr1]; rfl, hw.below⟩
 intro z1 hr1
 refine Zx ?_
 refine rf_storeR (n := 5) rfl rfl Kx rfl rfl (UpdR.there _ (UpdR.here _ _ _ Nl)) Nz (Nw ?_)
 refine Zx ?_
 refine Zr ?_
 refine ek_ret (fun w hw => ⟨rfl, _, run_results2 rfl rfl (Kn.hd0 (Kn.tl hw)) UU44 rfl Kx, ?_⟩)
 (try simp only [qz])
 exact ⟨by rw [show x.mul y = _ from hr1]; rfl, hw.below⟩
theorem and7 (x : Int) : bits .and .i64 x 7 = x % 8 := by
 show IntKind.i64.wrap ((BitVec.ofInt 64 x &&& BitVec.ofInt 64 7).toNat : Int) = _
 have h1 : (BitVec.ofInt 64 (7 : Int)).toNat = 2 ^ 3 - 1 := by decide
 rw [BitVec.toNat_and, h1, Nat.and_two_pow_sub_one_eq_mod, BitVec.toNat_ofInt, IntKind.wrap_i64]
 omega
def Nm.turn : Nat → Nm → Nm
  | 0, z => z
  | n + 1, z => (Nm.turn n z).rot
theorem turn_ok {z : Nm} (h : z.Ok) : ∀ n, (Nm.turn n z).Ok
  | 0 => h
  | n + 1 => rot_ok (turn_ok h n)
theorem amchanged_ok (z r : Nm) (hz : z.Ok) (f : Nat) (caps : Array Value) (hgo : isGo Tryz.prog f = true) (w : World) (hf : ∀ w', Below w.heap.size w w' → Calls Tryz.prog f (#[nmV z] ++ caps) w' fun e w'' => e = .returned (nmV r) ∧ Below w'.heap.size w' w'') : Calls Tryz.prog 80 #[nmV z, .func (.func f) #[] caps] w fun e w' => e = .returned (.tuple #[nmV r, .int .i64 0]) ∧ Below w.heap.size w w' := by
 go_enter Tryz.func80, Tryz.ntmps80
 refine wk_start ?_
 refine wk_seq ?_
 refine Wr [1, 1, 0] ?_
 refine Rgn fun g1 => ?_
 simp only [qz]
 refine Rgn fun g2 => ?_
 refine Zx ?_
 refine Zr ?_
 refine Wr [0, 1, 0] ?_
 refine rf_loadR (n := 5) rfl rfl rfl UU44 rfl Kx (fun w hw => Kn.hd0 (Kn.tl hw)) rfl rfl (Nq ?_)
 apply rg_pure Rx Kx
 case hargs => exact Ax
 case h => exact fun w hw => by have := amvalid_any z w; rw [okB_yes hz] at this; exact this
 case hz => exact Nz
 refine Zx ?_
 refine Zr ?_
 refine Wx [0, 0, 1, 1, 0] ?_
 refine rf_loadR (n := 5) rfl rfl rfl UU44 rfl Kx (fun w hw => Kn.hd0 (Kn.tl hw)) rfl rfl (Nq ?_)
 refine CV.rg_callV (caps := caps) (vs := #[nmV z]) (v := nmV r) Rx rfl hgo (by simp only [qm, qs, Act.eval]) (fun w hw => hf w hw.below) Nz ?_
 simp only [qz]
 refine rf_storeR (n := 5) rfl rfl Kx rfl rfl (UpdR.here _ _ _ Nl) Nz (Nw ?_)
 refine Zx ?_
 refine Zr ?_
 refine ek_ret (fun w hw => ⟨rfl, _, run_results2 rfl rfl (Kn.hd0 hw) UU44 rfl Kx, ?_⟩)
 (try simp only [qz])
 first | exact ⟨rfl, hw.below⟩ | exact ⟨trivial, hw.below⟩ | exact hw.below
section
variable {R : Option Nat} {P : Program} {ops : Array Oper} {Q : Exit → Act → World → Prop} {B : World} {F : List Nat} {s0 : Option (List Blk × List Blk)}
variable {l : List (Oper × Nat)} {a : Act} {s s' : List Blk} {d : Option Tmp} {op : Op} {t : TypeId} {p : String} {af : Array Edge} {v : Value} {gd : Option (Nat × Bool)} {m : Nat}
theorem rg_ext {f : Nat} {cargs : Array Operand} {at_ : Array TypeId} {args : Array Value} (hg : Region.wanted ⟨d, .call ⟨.value (.func f), cargs, at_⟩, t, p, af, gd⟩ (yielded ops a.tmps) = true)
    (h : ∀ w : World, (callFunc f args).run P w = .ok (.value v) w) (hargs : cargs.map a.eval = args)
    (hz : ∀ z ∈ s0, z.1.Sublist s) (k : Rg R P ops Q B F s0 l (a.put d v) s) :
    Rg R P ops Q B F s0 ((⟨d, .call ⟨.value (.func f), cargs, at_⟩, t, p, af, gd⟩, 1) :: l) a s :=
  rg_run hg fun w K => ⟨v, w, s, .inl (by
    have he : #[] ++ cargs.map a.eval ++ #[] = args := by simpa using hargs
    rw [execOp_call_go, he]
    exact h w), K, hz, k⟩
theorem rf_rem {x y : Operand} {T z : TypeId} {k : IntKind} {n q r : Int} (hm : soft03 m = true) (hg : Region.wanted ⟨d, .binOp .rem T x y z, t, p, af, gd⟩ (yielded ops a.tmps) = true)
    (hx : a.eval x = .int k n) (hy : a.eval y = .int k q) (hq : q ≠ 0) (hr : n.tmod q = r) (h : Rg R P ops Q B F s0 l (a.put d (.int k r)) s) : Rg R P ops Q B F s0 ((⟨d, .binOp .rem T x y z, t, p, af, gd⟩, m) :: l) a s := by
  refine rg_any hm hg (fun w => ?_) h
  unfold Yld
  simp [execOp, hx, hy, eqGuard, binOp, Op.intDiv, hq, hr]
theorem rf_and {x y : Operand} {T z : TypeId} {k : IntKind} {n q r : Int} (hm : soft03 m = true) (hg : Region.wanted ⟨d, .binOp .and T x y z, t, p, af, gd⟩ (yielded ops a.tmps) = true)
    (hx : a.eval x = .int k n) (hy : a.eval y = .int k q) (hr : bits .and k n q = r) (h : Rg R P ops Q B F s0 l (a.put d (.int k r)) s) : Rg R P ops Q B F s0 ((⟨d, .binOp .and T x y z, t, p, af, gd⟩, m) :: l) a s := by
  refine rg_any hm hg (fun w => ?_) h
  unfold Yld
  subst hr
  simp [execOp, hx, hy, eqGuard, binOp, Op.intBits, bits]
theorem rf_shlV {x y : Operand} {T z : TypeId} {k k' : IntKind} {n q e r : Int} {c : Nat} (hm : soft03 m = true) (hg : Region.wanted ⟨d, .binOp .shl T x y z, t, p, af, gd⟩ (yielded ops a.tmps) = true)
    (hx : a.eval x = .int k n) (hy : a.eval y = .int k' e) (he : e = (c : Int)) (hc : c ≤ k.bits) (hq : (2 : Int) ^ c = q) (hr : k.wrap (n * q) = r) (h : Rg R P ops Q B F s0 l (a.put d (.int k r)) s) : Rg R P ops Q B F s0 ((⟨d, .binOp .shl T x y z, t, p, af, gd⟩, m) :: l) a s := by
  subst he
  exact rf_shl hm hg hx hy (Nat.ble_eq_true_of_le hc) hq hr h
end
theorem rem_ok {n q : Int} (h0 : 0 ≤ n) : n.tmod q = n % q := Int.tmod_eq_emod_of_nonneg h0
end Go.Proofs.YthjjkajjpejcdaaGreat
