/- Texts in one: NmPl, VaPl, PePl, PhPl, Sg, MtPl, ChPl, PhQ, Rt, RtR, CallV, Ro, Mg, Zs, Pt0, Ch1, WdPl, Xt, Add64, Sub64, WtP, Xi. -/
import Derived.Test.YthjjkajjpejcdaaGreatLPhA
import Derived.OrdersIn
import Derived.Laws.Externs
import Derived.Laws.Bits64b
import Derived.Shelf.Spec.BitsCarry
namespace Go.Proofs.YthjjkajjpejcdaaGreat
set_option linter.all false
set_option maxRecDepth 100000
set_option maxHeartbeats 1000000
structure Nm where
  a : Int
  b : Int
  c : Int
  d : Int
  k : Int
deriving DecidableEq, Inhabited
structure Nm.Fit (n : Int) (z : Nm) : Prop where
  a0 : -n ≤ z.a
  a1 : z.a ≤ n
  b0 : -n ≤ z.b
  b1 : z.b ≤ n
  c0 : -n ≤ z.c
  c1 : z.c ≤ n
  d0 : -n ≤ z.d
  d1 : z.d ≤ n
def Nm.zero : Nm := ⟨0, 0, 0, 0, 0⟩
def Nm.one : Nm := ⟨1, 0, 0, 0, 0⟩
def Nm.conj (z : Nm) : Nm := ⟨z.a, -z.d, -z.c, -z.b, z.k⟩
def Nm.neg (z : Nm) : Nm := ⟨-z.a, -z.b, -z.c, -z.d, z.k⟩
def Nm.rot (z : Nm) : Nm := ⟨-z.d, z.a, z.b, z.c, z.k⟩
def Nm.step (z : Nm) : Nm := ⟨(z.b - z.d) / 2, (z.a + z.c) / 2, (z.b + z.d) / 2, (z.c - z.a) / 2, z.k - 1⟩
def Nm.tr (z : Nm) : Nm := ⟨z.b - z.d, z.a + z.c, z.b + z.d, z.c - z.a, z.k + 1⟩
def Nm.up : Nat → Nm → Nm
  | 0, z => z
  | n + 1, z => Nm.up n z.tr
def Nm.to (m : Int) (z : Nm) : Nm := Nm.up (m - z.k).toNat z
def Nm.even (z : Nm) : Prop := (z.a + z.c) % 2 = 0 ∧ (z.b + z.d) % 2 = 0
instance (z : Nm) : Decidable z.even := inferInstanceAs (Decidable ((z.a + z.c) % 2 = 0 ∧ (z.b + z.d) % 2 = 0))
def red : Nat → Nm → Nm
  | 0, z => z
  | n + 1, z => if 0 < z.k ∧ z.even then red n z.step else z
def Nm.nf (z : Nm) : Nm := red z.k.toNat z
def Nm.small (z : Nm) : Bool := decide (z.k ≤ 40) && (decide (-1000000000 ≤ z.a) && decide (z.a ≤ 1000000000) && (decide (-1000000000 ≤ z.b) && decide (z.b ≤ 1000000000)) && (decide (-1000000000 ≤ z.c) && decide (z.c ≤ 1000000000)) && (decide (-1000000000 ≤ z.d) && decide (z.d ≤ 1000000000)))
theorem small_iff {z : Nm} : z.small = true ↔ z.k ≤ 40 ∧ z.Fit 1000000000 := by
 simp only [Nm.small, Bool.and_eq_true, decide_eq_true_eq]
 exact ⟨fun ⟨h0, ⟨⟨h1, h2⟩, h3⟩, h4⟩ => ⟨h0, h1.1, h1.2, h2.1, h2.2, h3.1, h3.2, h4.1, h4.2⟩, fun ⟨h0, h⟩ => ⟨h0, ⟨⟨⟨h.a0, h.a1⟩, h.b0, h.b1⟩, h.c0, h.c1⟩, h.d0, h.d1⟩⟩
theorem small_yes {z : Nm} (h1 : z.k ≤ 40) (h2 : z.Fit 1000000000) : z.small = true := small_iff.2 ⟨h1, h2⟩
theorem small_no {z : Nm} (h : ¬ (z.k ≤ 40 ∧ z.Fit 1000000000)) : z.small = false := by
 cases hs : z.small with
 | false => rfl
 | true => exact absurd (small_iff.1 hs) h
structure Nm.Ok (z : Nm) : Prop where
  fit : z.Fit 1000000000
  k0 : 0 ≤ z.k
  k1 : z.k ≤ 40
  form : z.k = 0 ∨ ¬ z.even
def Nm.okB (z : Nm) : Bool := z.small && decide (0 ≤ z.k) && decide (z.k = 0 ∨ ¬ z.even)
theorem okB_iff {z : Nm} : z.okB = true ↔ z.Ok := by
 simp only [Nm.okB, Bool.and_eq_true, small_iff, decide_eq_true_eq]
 exact ⟨fun ⟨⟨⟨h0, h1⟩, h2⟩, h3⟩ => ⟨h1, h2, h0, h3⟩, fun h => ⟨⟨⟨h.k1, h.fit⟩, h.k0⟩, h.form⟩⟩
abbrev NR := Except Int Nm
def Nm.mk' (z : Nm) : NR := if z.nf.small then .ok z.nf else .error 4
theorem Nm.even_tr (z : Nm) : z.tr.even := ⟨by simp only [Nm.tr]; omega, by simp only [Nm.tr]; omega⟩
theorem Nm.step_tr (z : Nm) : z.tr.step = z := by
 obtain ⟨a, b, c, d, k⟩ := z
 simp only [Nm.tr, Nm.step]
 congr 1 <;> omega
theorem Nm.tr_step {z : Nm} (h : z.even) : z.step.tr = z := by
 obtain ⟨a, b, c, d, k⟩ := z
 obtain ⟨h1, h2⟩ := h
 simp only [Nm.tr, Nm.step] at *
 congr 1 <;> omega
theorem Nm.tr_inj {x y : Nm} (h : x.tr = y.tr) : x = y := by rw [← Nm.step_tr x, h, Nm.step_tr]
theorem Nm.up_tr : ∀ (n : Nat) (z : Nm), Nm.up n z.tr = (Nm.up n z).tr
  | 0, _ => rfl
  | n + 1, z => Nm.up_tr n z.tr
theorem Nm.up_add : ∀ (i j : Nat) (z : Nm), Nm.up i (Nm.up j z) = Nm.up (j + i) z
  | i, 0, z => by rw [Nat.zero_add]; rfl
  | i, j + 1, z => by
    rw [show j + 1 + i = (j + i) + 1 by omega]
    exact Nm.up_add i j z.tr
theorem Nm.up_inj : ∀ (n : Nat) {x y : Nm}, Nm.up n x = Nm.up n y → x = y
  | 0, _, _, h => h
  | n + 1, _, _, h => Nm.tr_inj (Nm.up_inj n h)
theorem Nm.up_k : ∀ (n : Nat) (z : Nm), (Nm.up n z).k = z.k + n
  | 0, z => by simp [Nm.up]
  | n + 1, z => by
    have := Nm.up_k n z.tr
    simp only [Nm.up]; rw [this]; simp only [Nm.tr]
    omega
theorem Nm.to_k {m : Int} {z : Nm} (h : z.k ≤ m) : (z.to m).k = m := by unfold Nm.to; rw [Nm.up_k]; omega
def Eqv (x y : Nm) : Prop := ∃ i j : Nat, Nm.up i x = Nm.up j y
theorem Eqv.refl (x : Nm) : Eqv x x := ⟨0, 0, rfl⟩
theorem Eqv.symm {x y : Nm} (h : Eqv x y) : Eqv y x := let ⟨i, j, h⟩ := h; ⟨j, i, h.symm⟩
theorem Eqv.trans {x y z : Nm} (h : Eqv x y) (k : Eqv y z) : Eqv x z := by
 obtain ⟨i, j, h⟩ := h
 obtain ⟨k, l, k'⟩ := k
 refine ⟨i + k, l + j, ?_⟩
 rw [← Nm.up_add, ← Nm.up_add, h, ← k', Nm.up_add, Nm.up_add, Nat.add_comm]
theorem Eqv.up (n : Nat) (z : Nm) : Eqv (Nm.up n z) z := ⟨0, n, rfl⟩
theorem Eqv.tr (z : Nm) : Eqv z.tr z := ⟨0, 1, rfl⟩
theorem Eqv.to (m : Int) (z : Nm) : Eqv (z.to m) z := Eqv.up _ z
theorem red_eqv : ∀ (n : Nat) (z : Nm), Eqv (red n z) z
  | 0, z => Eqv.refl z
  | n + 1, z => by
    simp only [red]
    split
    · next h => exact (red_eqv n z.step).trans ⟨1, 0, Nm.tr_step h.2⟩
    · exact Eqv.refl z
theorem nf_eqv (z : Nm) : Eqv z.nf z := red_eqv _ z
def Nm.Nf (z : Nm) : Prop := z.k ≤ 0 ∨ ¬ z.even
theorem Nm.Ok.nf {z : Nm} (h : z.Ok) : z.Nf := h.form.imp Ox id
theorem red_form : ∀ (n : Nat) (z : Nm), z.k ≤ n → (red n z).Nf
  | 0, z, h => .inl h
  | n + 1, z, h => by
    simp only [red]
    split
    · exact red_form n z.step (by simp only [Nm.step]; omega)
    · next hc =>
      by_cases h0 : 0 < z.k
      · exact .inr fun he => hc ⟨h0, he⟩
      · exact .inl Ox
theorem nf_form (z : Nm) : z.nf.Nf := red_form _ z Ox
theorem red_k : ∀ (n : Nat) (z : Nm), 0 ≤ z.k → 0 ≤ (red n z).k ∧ (red n z).k ≤ z.k
  | 0, z, h => ⟨h, Int.le_refl _⟩
  | n + 1, z, h => by
    simp only [red]
    split
    · next hc => have := red_k n z.step (by simp only [Nm.step]; omega); simp only [Nm.step] at this ⊢; omega
    · exact ⟨h, Int.le_refl _⟩
theorem nf_k {z : Nm} (h : 0 ≤ z.k) : 0 ≤ z.nf.k ∧ z.nf.k ≤ z.k := red_k _ z h
theorem red_stop {n : Nat} {z : Nm} (h : z.Nf) : red n z = z := by
 cases n with
 | zero => rfl
 | succ n => simp only [red]; rw [if_neg]; rintro ⟨h1, h2⟩; rcases h with h | h; omega; exact h h2
theorem nf_self {z : Nm} (h : z.Nf) : z.nf = z := red_stop h
theorem form_unique {x y : Nm} (hx : x.Nf) (hy : y.Nf) (h0 : 0 ≤ x.k) (h1 : 0 ≤ y.k) (h : Eqv x y) : x = y := by
 obtain ⟨i, j, h⟩ := h
 have key : ∀ {x y : Nm} {i n : Nat}, x.Nf → 0 ≤ y.k → Nm.up i x = Nm.up (n + 1 + i) y → False := by
  intro x y i n hx hy h
  have e : x = (Nm.up n y).tr := by
   refine Nm.up_inj i ?_; rw [h, ← Nm.up_tr, Nm.up_add, show n + 1 + i = (n + i) + 1 by omega]
   rfl
  have hk : x.k = y.k + n + 1 := by rw [e]; show (Nm.up n y).k + 1 = _; rw [Nm.up_k]
  rcases hx with hx | hx
  ·omega
  ·exact hx (by rw [e]; exact Nm.even_tr _)
 rcases Nat.lt_trichotomy i j with hlt | rfl | hlt
 ·exact (key (n := j - i - 1) hx h1 (by rw [h]; congr 1; omega)).elim
 ·exact Nm.up_inj i h
 ·exact (key (n := i - j - 1) hy h0 (by rw [← h]; congr 1; omega)).elim
theorem nf_eq {x y : Nm} (h0 : 0 ≤ x.k) (h1 : 0 ≤ y.k) (h : Eqv x y) : x.nf = y.nf :=
  form_unique (nf_form x) (nf_form y) (nf_k h0).1 (nf_k h1).1 ((nf_eqv x).trans (h.trans (nf_eqv y).symm))
theorem mk_ok {z v : Nm} (h0 : 0 ≤ z.k) (h : z.mk' = .ok v) : v.Ok ∧ v = z.nf ∧ Eqv v z := by
 unfold Nm.mk' at h
 split at h
 ·next hs =>
  injection h with h
  subst h
  obtain ⟨s1, s2⟩ := small_iff.1 hs
  have := nf_k h0
  exact ⟨⟨s2, this.1, s1, (nf_form z).imp Ox id⟩, rfl, nf_eqv z⟩
 ·cases h
theorem mk_err {z : Nm} {c : Int} (h : z.mk' = .error c) : c = 4 := by
 unfold Nm.mk' at h
 split at h
 ·cases h
 ·injection h with h; exact h.symm
theorem Nm.step_fit {n : Int} {z : Nm} (h : z.Fit n) : z.step.Fit n := by
 obtain ⟨h1, h2, h3, h4, h5, h6, h7, h8⟩ := h
 exact ⟨by simp only [Nm.step]; omega, by simp only [Nm.step]; omega, by simp only [Nm.step]; omega, by simp only [Nm.step]; omega, by simp only [Nm.step]; omega, by simp only [Nm.step]; omega, by simp only [Nm.step]; omega, by simp only [Nm.step]; omega⟩
theorem nf_step {z : Nm} (h : 0 < z.k) (he : z.even) : z.nf = z.step.nf := by
 obtain ⟨n, hn⟩ : ∃ n, z.k.toNat = n + 1 := ⟨z.k.toNat - 1, by omega⟩
 unfold Nm.nf
 have : z.step.k.toNat = n := by simp only [Nm.step]; omega
 rw [this, hn]
 simp only [red]
 rw [if_pos ⟨h, he⟩]
theorem nf_stop {z : Nm} (h : ¬ (0 < z.k ∧ z.even)) : z.nf = z := nf_self (by
  by_cases h0 : 0 < z.k
  · exact .inr fun he => h ⟨h0, he⟩
  · exact .inl Ox)
def Nm.addR (x y : Nm) : Nm :=
  let u := x.to (max x.k y.k)
  let v := y.to (max x.k y.k)
  ⟨u.a + v.a, u.b + v.b, u.c + v.c, u.d + v.d, max x.k y.k⟩
def Nm.mulR (x y : Nm) : Nm :=
  ⟨x.a * y.a - x.b * y.d - x.c * y.c - x.d * y.b, x.a * y.b + x.b * y.a - x.c * y.d - x.d * y.c, x.a * y.c + x.b * y.b + x.c * y.a - x.d * y.d, x.a * y.d + x.b * y.c + x.c * y.b + x.d * y.a, x.k + y.k⟩
def Nm.add (x y : Nm) : NR := (x.addR y).mk'
def Nm.mul (x y : Nm) : NR := (x.mulR y).mk'
def Nm.sub (x y : Nm) : NR := (x.addR y.neg).mk'
def Nm.power (x : Nm) : NR := (x.mulR x.conj).mk'
def Nm.halve (x : Nm) (n : Int) : NR := (⟨x.a, x.b, x.c, x.d, x.k + n⟩ : Nm).mk'
theorem zero_ok : Nm.zero.Ok := okB_iff.1 (by decide)
theorem one_ok : Nm.one.Ok := okB_iff.1 (by decide)
theorem conj_ok {z : Nm} (h : z.Ok) : z.conj.Ok := by
 obtain ⟨⟨h1, h2, h3, h4, h5, h6, h7, h8⟩, h9, h10, h11⟩ := h
 refine ⟨⟨h1, h2, ?_, ?_, ?_, ?_, ?_, ?_⟩, h9, h10, h11.imp id fun hn he => hn ⟨?_, ?_⟩⟩ <;> simp only [Nm.conj, Nm.even] at * <;> omega
theorem rot_ok {z : Nm} (h : z.Ok) : z.rot.Ok := by
 obtain ⟨⟨h1, h2, h3, h4, h5, h6, h7, h8⟩, h9, h10, h11⟩ := h
 refine ⟨⟨?_, ?_, h1, h2, h3, h4, h5, h6⟩, h9, h10, h11.imp id fun hn he => hn ⟨?_, ?_⟩⟩ <;> simp only [Nm.rot, Nm.even] at * <;> omega
theorem addR_k {x y : Nm} (hx : 0 ≤ x.k) : 0 ≤ (x.addR y).k := by simp only [Nm.addR]; omega
theorem mulR_k {x y : Nm} (hx : 0 ≤ x.k) (hy : 0 ≤ y.k) : 0 ≤ (x.mulR y).k := by simp only [Nm.mulR]; omega
theorem Nm.fit_mono {m n : Int} {z : Nm} (h : z.Fit m) (hmn : m ≤ n) : z.Fit n := by
 obtain ⟨h1, h2, h3, h4, h5, h6, h7, h8⟩ := h
 exact ⟨by omega, by omega, by omega, by omega, by omega, by omega, by omega, by omega⟩
theorem Nm.tr_fit {n : Int} {z : Nm} (h : z.Fit n) : z.tr.Fit (2 * n) := by
 obtain ⟨h1, h2, h3, h4, h5, h6, h7, h8⟩ := h
 exact ⟨by simp only [Nm.tr]; omega, by simp only [Nm.tr]; omega, by simp only [Nm.tr]; omega, by simp only [Nm.tr]; omega, by simp only [Nm.tr]; omega, by simp only [Nm.tr]; omega, by simp only [Nm.tr]; omega, by simp only [Nm.tr]; omega⟩
theorem Nm.tr2 (z : Nm) : z.tr.tr = ⟨2 * z.a, 2 * z.b, 2 * z.c, 2 * z.d, z.k + 2⟩ := by
 simp only [Nm.tr]
 congr 1 <;> omega
theorem Nm.tr2_fit {n : Int} {z : Nm} (h : z.Fit n) : z.tr.tr.Fit (2 * n) := by
 rw [Nm.tr2]
 obtain ⟨h1, h2, h3, h4, h5, h6, h7, h8⟩ := h
 exact ⟨by dsimp only; omega, by dsimp only; omega, by dsimp only; omega, by dsimp only; omega, by dsimp only; omega, by dsimp only; omega, by dsimp only; omega, by dsimp only; omega⟩
theorem Nm.up_fit : ∀ (m : Nat) {n : Int} {z : Nm}, z.Fit n → (Nm.up (2 * m) z).Fit (2 ^ m * n) ∧ (Nm.up (2 * m + 1) z).Fit (2 ^ (m + 1) * n)
  | 0, n, z, h => ⟨by simpa [Nm.up] using h, by simpa [Nm.up] using Nm.tr_fit h⟩
  | m + 1, n, z, h => by
    obtain ⟨h1, h2⟩ := Nm.up_fit m (Nm.tr2_fit h)
    refine ⟨?_, ?_⟩
    · rw [show 2 ^ (m + 1) * n = 2 ^ m * (2 * n) by rw [Int.pow_succ]; grind]
      exact h1
    · rw [show 2 ^ (m + 1 + 1) * n = 2 ^ (m + 1) * (2 * n) by rw [Int.pow_succ]; grind]
      exact h2
theorem pow2_le {m : Nat} (h : m ≤ 20) : (2 : Int) ^ m ≤ 1048576 := by
 have : m = 0 ∨ m = 1 ∨ m = 2 ∨ m = 3 ∨ m = 4 ∨ m = 5 ∨ m = 6 ∨ m = 7 ∨ m = 8 ∨ m = 9 ∨ m = 10 ∨ m = 11 ∨ m = 12 ∨ m = 13 ∨ m = 14 ∨ m = 15 ∨ m = 16 ∨ m = 17 ∨ m = 18 ∨ m = 19 ∨ m = 20 := by omega
 rcases this with rfl | rfl | rfl | rfl | rfl | rfl | rfl | rfl | rfl | rfl | rfl | rfl | rfl | rfl | rfl | rfl | rfl | rfl | rfl | rfl | rfl <;> decide
theorem Nm.up2_fit {m : Nat} {z : Nm} (h : z.Fit 1000000000) (hm : m ≤ 20) : (Nm.up (2 * m) z).Fit 1048576000000000 :=
  Nm.fit_mono (Nm.up_fit m h).1 (by have := pow2_le hm; omega)
theorem Nm.up40_fit {n : Nat} {z : Nm} (h : z.Fit 1000000000) (hn : n ≤ 40) : (Nm.up n z).Fit 1048576000000000 := by
 rcases (⟨n / 2, by omega⟩ : ∃ m, n = 2 * m ∧ m ≤ 20 ∨ n = 2 * m + 1 ∧ m ≤ 19) with ⟨m, ⟨rfl, hm⟩ | ⟨rfl, hm⟩⟩
 ·exact Nm.up2_fit h hm
 ·exact Nm.fit_mono (Nm.up_fit m h).2 (by have := pow2_le (m := m + 1) Ox; omega)
theorem Nm.up_succ2 (m : Nat) (z : Nm) : Nm.up (2 * (m + 1)) z = ⟨(Nm.up (2 * m) z).a * 2, (Nm.up (2 * m) z).b * 2, (Nm.up (2 * m) z).c * 2, (Nm.up (2 * m) z).d * 2, (Nm.up (2 * m) z).k + 2⟩ := by
 rw [show 2 * (m + 1) = 2 * m + 1 + 1 by omega, Nm.up, Nm.up, Nm.up_tr, Nm.up_tr, Nm.tr2]
 congr 1 <;> omega
theorem Nm.up_succ1 (m : Nat) (z : Nm) : Nm.up (m + 1) z = (Nm.up m z).tr := by rw [Nm.up, Nm.up_tr]
theorem addR_ge {x y : Nm} (h : y.k ≤ x.k) : x.addR y = ⟨(y.to x.k).a + x.a, (y.to x.k).b + x.b, (y.to x.k).c + x.c, (y.to x.k).d + x.d, x.k⟩ := by
 have e : max x.k y.k = x.k := by omega
 have e2 : x.to x.k = x := by unfold Nm.to; rw [Int.sub_self]; rfl
 unfold Nm.addR
 dsimp only
 rw [e, e2]
 congr 1 <;> omega
theorem addR_lt {x y : Nm} (h : x.k < y.k) : x.addR y = ⟨(x.to y.k).a + y.a, (x.to y.k).b + y.b, (x.to y.k).c + y.c, (x.to y.k).d + y.d, y.k⟩ := by
 have e : max x.k y.k = y.k := by omega
 have e2 : y.to y.k = y := by unfold Nm.to; rw [Int.sub_self]; rfl
 unfold Nm.addR
 dsimp only
 rw [e, e2]
theorem addR_fit {x y : Nm} (hx : x.Ok) (hy : y.Ok) : (x.addR y).Fit 4611686018427387903 := by
 have h1 := Nm.up40_fit (n := (max x.k y.k - x.k).toNat) hx.fit (by have := hx.k0; have := hx.k1; have := hy.k1; omega)
 have h2 := Nm.up40_fit (n := (max x.k y.k - y.k).toNat) hy.fit (by have := hy.k0; have := hx.k1; have := hy.k1; omega)
 obtain ⟨a1, a2, a3, a4, a5, a6, a7, a8⟩ := h1
 obtain ⟨b1, b2, b3, b4, b5, b6, b7, b8⟩ := h2
 unfold Nm.addR Nm.to
 exact ⟨by dsimp only; omega, by dsimp only; omega, by dsimp only; omega, by dsimp only; omega, by dsimp only; omega, by dsimp only; omega, by dsimp only; omega, by dsimp only; omega⟩
theorem mul_le {a b : Int} (h1 : -1000000000 ≤ a) (h2 : a ≤ 1000000000) (h3 : -1000000000 ≤ b) (h4 : b ≤ 1000000000) : -1000000000000000000 ≤ a * b ∧ a * b ≤ 1000000000000000000 := by
 rcases Int.le_total 0 a with ha | ha
 ·have e1 := Int.mul_le_mul_of_nonneg_left h3 ha
  have e2 := Int.mul_le_mul_of_nonneg_left h4 ha
  omega
 ·have e1 := Int.mul_le_mul_of_nonneg_left h3 (c := -a) Ox
  have e2 := Int.mul_le_mul_of_nonneg_left h4 (c := -a) Ox
  rw [Int.neg_mul, Int.neg_mul] at e1 e2
  omega
structure Prods (x y : Nm) : Prop where
  aa : -1000000000000000000 ≤ x.a * y.a ∧ x.a * y.a ≤ 1000000000000000000
  ab : -1000000000000000000 ≤ x.a * y.b ∧ x.a * y.b ≤ 1000000000000000000
  ac : -1000000000000000000 ≤ x.a * y.c ∧ x.a * y.c ≤ 1000000000000000000
  ad : -1000000000000000000 ≤ x.a * y.d ∧ x.a * y.d ≤ 1000000000000000000
  ba : -1000000000000000000 ≤ x.b * y.a ∧ x.b * y.a ≤ 1000000000000000000
  bb : -1000000000000000000 ≤ x.b * y.b ∧ x.b * y.b ≤ 1000000000000000000
  bc : -1000000000000000000 ≤ x.b * y.c ∧ x.b * y.c ≤ 1000000000000000000
  bd : -1000000000000000000 ≤ x.b * y.d ∧ x.b * y.d ≤ 1000000000000000000
  ca : -1000000000000000000 ≤ x.c * y.a ∧ x.c * y.a ≤ 1000000000000000000
  cb : -1000000000000000000 ≤ x.c * y.b ∧ x.c * y.b ≤ 1000000000000000000
  cc : -1000000000000000000 ≤ x.c * y.c ∧ x.c * y.c ≤ 1000000000000000000
  cd : -1000000000000000000 ≤ x.c * y.d ∧ x.c * y.d ≤ 1000000000000000000
  da : -1000000000000000000 ≤ x.d * y.a ∧ x.d * y.a ≤ 1000000000000000000
  db : -1000000000000000000 ≤ x.d * y.b ∧ x.d * y.b ≤ 1000000000000000000
  dc : -1000000000000000000 ≤ x.d * y.c ∧ x.d * y.c ≤ 1000000000000000000
  dd : -1000000000000000000 ≤ x.d * y.d ∧ x.d * y.d ≤ 1000000000000000000
theorem prods {x y : Nm} (hx : x.Fit 1000000000) (hy : y.Fit 1000000000) : Prods x y := by
 obtain ⟨a1, a2, a3, a4, a5, a6, a7, a8⟩ := hx
 obtain ⟨b1, b2, b3, b4, b5, b6, b7, b8⟩ := hy
 exact ⟨mul_le a1 a2 b1 b2, mul_le a1 a2 b3 b4, mul_le a1 a2 b5 b6, mul_le a1 a2 b7 b8, mul_le a3 a4 b1 b2, mul_le a3 a4 b3 b4, mul_le a3 a4 b5 b6, mul_le a3 a4 b7 b8,
  mul_le a5 a6 b1 b2, mul_le a5 a6 b3 b4, mul_le a5 a6 b5 b6, mul_le a5 a6 b7 b8, mul_le a7 a8 b1 b2, mul_le a7 a8 b3 b4, mul_le a7 a8 b5 b6, mul_le a7 a8 b7 b8⟩
theorem mulR_fit {x y : Nm} (hx : x.Fit 1000000000) (hy : y.Fit 1000000000) : (x.mulR y).Fit 4611686018427387903 := by
 obtain ⟨aa, ab, ac, ad, ba, bb, bc, bd, ca, cb, cc, cd, da, db, dc, dd⟩ := prods hx hy
 unfold Nm.mulR
 exact ⟨by dsimp only; omega, by dsimp only; omega, by dsimp only; omega, by dsimp only; omega, by dsimp only; omega, by dsimp only; omega, by dsimp only; omega, by dsimp only; omega⟩
theorem nf_self_iff {z : Nm} (h : 0 ≤ z.k) : z.nf = z ↔ (z.k = 0 ∨ ¬ z.even) := by
 constructor
 ·intro e
  have := nf_form z
  rw [e] at this
  exact this.imp Ox id
 ·intro hh
  exact nf_self (hh.imp Ox id)
structure Q4 where
  a : Rat
  b : Rat
  c : Rat
  d : Rat
namespace Q4
theorem ext' {x y : Q4} (h1 : x.a = y.a) (h2 : x.b = y.b) (h3 : x.c = y.c) (h4 : x.d = y.d) : x = y := by cases x; cases y; simp_all
def zero : Q4 := ⟨0, 0, 0, 0⟩
def one : Q4 := ⟨1, 0, 0, 0⟩
def add (x y : Q4) : Q4 := ⟨x.a + y.a, x.b + y.b, x.c + y.c, x.d + y.d⟩
def neg (x : Q4) : Q4 := ⟨-x.a, -x.b, -x.c, -x.d⟩
def mul (x y : Q4) : Q4 := ⟨x.a * y.a - x.b * y.d - x.c * y.c - x.d * y.b, x.a * y.b + x.b * y.a - x.c * y.d - x.d * y.c, x.a * y.c + x.b * y.b + x.c * y.a - x.d * y.d, x.a * y.d + x.b * y.c + x.c * y.b + x.d * y.a⟩
def conj (x : Q4) : Q4 := ⟨x.a, -x.d, -x.c, -x.b⟩
instance : Zero Q4 := ⟨zero⟩
instance : One Q4 := ⟨one⟩
instance : Add Q4 := ⟨add⟩
instance : Mul Q4 := ⟨mul⟩
instance : Neg Q4 := ⟨neg⟩
instance : Sub Q4 := ⟨fun x y => add x (neg y)⟩
theorem za : (0 : Q4).a = 0 := rfl
theorem zb : (0 : Q4).b = 0 := rfl
theorem zc : (0 : Q4).c = 0 := rfl
theorem zd : (0 : Q4).d = 0 := rfl
theorem oa : (1 : Q4).a = 1 := rfl
theorem ob : (1 : Q4).b = 0 := rfl
theorem oc : (1 : Q4).c = 0 := rfl
theorem od : (1 : Q4).d = 0 := rfl
variable (x y z : Q4)
theorem aa : (x + y).a = x.a + y.a := rfl
theorem ab : (x + y).b = x.b + y.b := rfl
theorem ac : (x + y).c = x.c + y.c := rfl
theorem ad : (x + y).d = x.d + y.d := rfl
theorem na : (-x).a = -x.a := rfl
theorem nb : (-x).b = -x.b := rfl
theorem nc : (-x).c = -x.c := rfl
theorem nd : (-x).d = -x.d := rfl
theorem sa : (x - y).a = x.a + -y.a := rfl
theorem sc : (x - y).c = x.c + -y.c := rfl
theorem ma : (x * y).a = x.a * y.a - x.b * y.d - x.c * y.c - x.d * y.b := rfl
theorem mb : (x * y).b = x.a * y.b + x.b * y.a - x.c * y.d - x.d * y.c := rfl
theorem mc : (x * y).c = x.a * y.c + x.b * y.b + x.c * y.a - x.d * y.d := rfl
theorem md : (x * y).d = x.a * y.d + x.b * y.c + x.c * y.b + x.d * y.a := rfl
theorem ca : (conj x).a = x.a := rfl
theorem cb : (conj x).b = -x.d := rfl
theorem cc : (conj x).c = -x.c := rfl
theorem cd : (conj x).d = -x.b := rfl
theorem add_comm : x + y = y + x := by apply ext' <;> simp only [aa, ab, ac, ad] <;> grind
theorem add_assoc : x + y + z = x + (y + z) := by apply ext' <;> simp only [aa, ab, ac, ad] <;> grind
theorem add_zero : x + 0 = x := by apply ext' <;> simp only [aa, ab, ac, ad, za, zb, zc, zd] <;> grind
theorem zero_add : 0 + x = x := by rw [add_comm, add_zero]
theorem add_neg : x + -x = 0 := by apply ext' <;> simp only [aa, ab, ac, ad, na, nb, nc, nd, za, zb, zc, zd] <;> grind
theorem mul_comm : x * y = y * x := by apply ext' <;> simp only [ma, mb, mc, md] <;> grind
theorem mul_assoc : x * y * z = x * (y * z) := by apply ext' <;> simp only [ma, mb, mc, md] <;> grind
theorem mul_one : x * 1 = x := by apply ext' <;> simp only [ma, mb, mc, md, oa, ob, oc, od] <;> grind
theorem one_mul : 1 * x = x := by rw [mul_comm, mul_one]
theorem mul_zero : x * 0 = 0 := by apply ext' <;> simp only [ma, mb, mc, md, za, zb, zc, zd] <;> grind
theorem zero_mul : 0 * x = 0 := by rw [mul_comm, mul_zero]
theorem mul_add : x * (y + z) = x * y + x * z := by apply ext' <;> simp only [ma, mb, mc, md, aa, ab, ac, ad] <;> grind
theorem add_mul : (x + y) * z = x * z + y * z := by rw [mul_comm, mul_add, mul_comm z x, mul_comm z y]
theorem mul_neg : x * -y = -(x * y) := by apply ext' <;> simp only [ma, mb, mc, md, na, nb, nc, nd] <;> grind
theorem neg_mul : -x * y = -(x * y) := by rw [mul_comm, mul_neg, mul_comm]
theorem conj_add : conj (x + y) = conj x + conj y := by apply ext' <;> simp only [aa, ab, ac, ad, ca, cb, cc, cd] <;> grind
theorem conj_mul : conj (x * y) = conj x * conj y := by apply ext' <;> simp only [ma, mb, mc, md, ca, cb, cc, cd] <;> grind
theorem conj_neg : conj (-x) = -conj x := by apply ext' <;> simp only [na, nb, nc, nd, ca, cb, cc, cd]
theorem conj_conj : conj (conj x) = x := by apply ext' <;> simp only [ca, cb, cc, cd] <;> grind
theorem conj_zero : conj 0 = 0 := by apply ext' <;> rfl
theorem conj_one : conj 1 = 1 := by apply ext' <;> rfl
theorem sub_self : x - x = 0 := add_neg x
theorem norm_a : (x * conj x).a = x.a * x.a + x.b * x.b + x.c * x.c + x.d * x.d := by simp only [ma, ca, cb, cc, cd]; grind
theorem sq0 (r : Rat) : 0 ≤ r * r := by
 rcases Rat.le_total (a:=0) (b:=r) with h | h
 ·exact Rat.mul_nonneg h h
 ·have := Rat.mul_nonneg (a := -r) (b := -r) (by grind) (by grind)
  grind
theorem norm_nonneg : 0 ≤ (x * conj x).a := by
 rw [norm_a]
 have := sq0 x.a; have := sq0 x.b; have := sq0 x.c; have := sq0 x.d
 grind
def dh (x : Q4) : Q4 := ⟨(x.b - x.d) / 2, (x.a + x.c) / 2, (x.b + x.d) / 2, (x.c - x.a) / 2⟩
def dn : Nat → Q4 → Q4
  | 0, x => x
  | n + 1, x => dn n (dh x)
theorem dh_inj {x y : Q4} (h : dh x = dh y) : x = y := by
 have h1 : (dh x).a = (dh y).a := by rw [h]
 have h2 : (dh x).b = (dh y).b := by rw [h]
 have h3 : (dh x).c = (dh y).c := by rw [h]
 have h4 : (dh x).d = (dh y).d := by rw [h]
 simp only [dh] at h1 h2 h3 h4
 apply ext' <;> grind
theorem dn_inj : ∀ (n : Nat) {x y : Q4}, dn n x = dn n y → x = y
  | 0, _, _, h => h
  | n + 1, _, _, h => dh_inj (dn_inj n h)
theorem dh_add : dh (x + y) = dh x + dh y := by apply ext' <;> simp only [dh, aa, ab, ac, ad] <;> grind
theorem dn_add : ∀ (n : Nat) (x y : Q4), dn n (x + y) = dn n x + dn n y
  | 0, _, _ => rfl
  | n + 1, x, y => by simp only [dn]; rw [dh_add, dn_add n]
theorem dh_mul : dh (x * y) = dh x * y := by apply ext' <;> simp only [dh, ma, mb, mc, md] <;> grind
theorem dn_mul : ∀ (n : Nat) (x y : Q4), dn n (x * y) = dn n x * y
  | 0, _, _ => rfl
  | n + 1, x, y => by simp only [dn]; rw [dh_mul, dn_mul n]
theorem dn_dn : ∀ (m n : Nat) (x : Q4), dn m (dn n x) = dn (n + m) x
  | m, 0, x => by rw [Nat.zero_add]; rfl
  | m, n + 1, x => by
    rw [show n + 1 + m = (n + m) + 1 by omega]
    exact dn_dn m n (dh x)
theorem dn_mul2 (m n : Nat) (x y : Q4) : dn (m + n) (x * y) = dn m x * dn n y := by
 rw [← dn_dn, dn_mul, mul_comm, dn_mul, mul_comm]
theorem dh_conj : dh (conj x) = conj (dh x) := by apply ext' <;> simp only [dh, ca, cb, cc, cd] <;> grind
theorem dn_conj : ∀ (n : Nat) (x : Q4), dn n (conj x) = conj (dn n x)
  | 0, _ => rfl
  | n + 1, x => by simp only [dn]; rw [dh_conj, dn_conj n]
theorem dh_neg : dh (-x) = -dh x := by apply ext' <;> simp only [dh, na, nb, nc, nd] <;> grind
theorem dn_neg : ∀ (n : Nat) (x : Q4), dn n (-x) = -dn n x
  | 0, _ => rfl
  | n + 1, x => by simp only [dn]; rw [dh_neg, dn_neg n]
end Q4
def Nm.co (z : Nm) : Q4 := ⟨(z.a : Rat), (z.b : Rat), (z.c : Rat), (z.d : Rat)⟩
def Nm.val (z : Nm) : Q4 := Q4.dn z.k.toNat z.co
theorem co_tr (z : Nm) : Q4.dh z.tr.co = z.co := by
 apply Q4.ext' <;> simp only [Q4.dh, Nm.co, Nm.tr, Rat.intCast_add, Rat.intCast_sub] <;> grind
theorem val_tr {z : Nm} (h : 0 ≤ z.k) : z.tr.val = z.val := by
 unfold Nm.val
 have : z.tr.k.toNat = z.k.toNat + 1 := by simp only [Nm.tr]; omega
 rw [this]
 show Q4.dn z.k.toNat (Q4.dh z.tr.co) = _
 rw [co_tr]
theorem val_up : ∀ (n : Nat) {z : Nm}, 0 ≤ z.k → (Nm.up n z).val = z.val
  | 0, _, _ => rfl
  | n + 1, z, h => by
    have := val_up n (z := z.tr) (by simp only [Nm.tr]; omega)
    show (Nm.up n z.tr).val = _
    rw [this, val_tr h]
theorem val_eqv {x y : Nm} (hx : 0 ≤ x.k) (hy : 0 ≤ y.k) (h : Eqv x y) : x.val = y.val := by
 obtain ⟨i, j, h⟩ := h
 rw [← val_up i hx, h, val_up j hy]
theorem co_inj {x y : Nm} (hk : x.k = y.k) (h : x.co = y.co) : x = y := by
 have h1 : (x.a : Rat) = y.a := by show x.co.a = y.co.a; rw [h]
 have h2 : (x.b : Rat) = y.b := by show x.co.b = y.co.b; rw [h]
 have h3 : (x.c : Rat) = y.c := by show x.co.c = y.co.c; rw [h]
 have h4 : (x.d : Rat) = y.d := by show x.co.d = y.co.d; rw [h]
 obtain ⟨a, b, c, d, k⟩ := x
 obtain ⟨a', b', c', d', k'⟩ := y
 dsimp only at *
 rw [Rat.intCast_inj.1 h1, Rat.intCast_inj.1 h2, Rat.intCast_inj.1 h3, Rat.intCast_inj.1 h4, hk]
theorem eqv_val {x y : Nm} (hx : 0 ≤ x.k) (hy : 0 ≤ y.k) (h : x.val = y.val) : Eqv x y := by
 refine ⟨(y.k).toNat, (x.k).toNat, ?_⟩
 have hk : (Nm.up (y.k).toNat x).k = (Nm.up (x.k).toNat y).k := by rw [Nm.up_k, Nm.up_k]; omega
 refine co_inj hk ?_
 have h1 := val_up (y.k).toNat hx
 have h2 := val_up (x.k).toNat hy
 rw [h, ← h2] at h1
 unfold Nm.val at h1
 rw [hk] at h1
 exact Q4.dn_inj _ h1
theorem val_ok {x y : Nm} (hx : x.Ok) (hy : y.Ok) (h : x.val = y.val) : x = y := form_unique hx.nf hy.nf hx.k0 hy.k0 (eqv_val hx.k0 hy.k0 h)
theorem to_up {x : Nm} {m : Int} (h : 0 ≤ x.k) : (x.to m).val = x.val := val_up _ h
theorem val_addR {x y : Nm} (hx : 0 ≤ x.k) (hy : 0 ≤ y.k) : (x.addR y).val = x.val + y.val := by
 have h1 := to_up (x := x) (m := max x.k y.k) hx
 have h2 := to_up (x := y) (m := max x.k y.k) hy
 have k1 := Nm.to_k (z := x) (m := max x.k y.k) Ox
 have k2 := Nm.to_k (z := y) (m := max x.k y.k) Ox
 rw [← h1, ← h2]
 unfold Nm.val
 rw [k1, k2, ← Q4.dn_add]
 unfold Nm.addR
 dsimp only
 congr 1
 apply Q4.ext' <;> simp only [Nm.co, Q4.aa, Q4.ab, Q4.ac, Q4.ad, Rat.intCast_add]
theorem val_mulR {x y : Nm} (hx : 0 ≤ x.k) (hy : 0 ≤ y.k) : (x.mulR y).val = x.val * y.val := by
 unfold Nm.val
 have : (x.mulR y).k.toNat = x.k.toNat + y.k.toNat := by simp only [Nm.mulR]; omega
 rw [this, ← Q4.dn_mul2]
 congr 1
 apply Q4.ext' <;> simp only [Nm.co, Nm.mulR, Q4.ma, Q4.mb, Q4.mc, Q4.md, Rat.intCast_add, Rat.intCast_sub, Rat.intCast_mul]
theorem val_conj (x : Nm) : x.conj.val = Q4.conj x.val := by
 have e : x.conj.co = Q4.conj x.co := by apply Q4.ext' <;> simp only [Nm.co, Nm.conj, Q4.ca, Q4.cb, Q4.cc, Q4.cd, Rat.intCast_neg]
 unfold Nm.val
 rw [← Q4.dn_conj, e]
 rfl
theorem val_neg (x : Nm) : x.neg.val = -x.val := by
 have e : x.neg.co = -x.co := by apply Q4.ext' <;> simp only [Nm.co, Nm.neg, Q4.na, Q4.nb, Q4.nc, Q4.nd, Rat.intCast_neg]
 unfold Nm.val
 rw [← Q4.dn_neg, e]
 rfl
theorem val_zero : Nm.zero.val = 0 := rfl
theorem val_one : Nm.one.val = 1 := rfl
def sumQ : Nat → (Nat → Q4) → Q4
  | 0, _ => 0
  | n + 1, f => sumQ n f + f n
theorem sumQ_congr : ∀ {n : Nat} {f g : Nat → Q4}, (∀ i, i < n → f i = g i) → sumQ n f = sumQ n g
  | 0, _, _, _ => rfl
  | n + 1, f, g, h => by simp only [sumQ]; rw [sumQ_congr fun i hi => h i Ox, h n Ox]
theorem sumQ_add (n : Nat) (f g : Nat → Q4) : sumQ n (fun i => f i + g i) = sumQ n f + sumQ n g := by
 induction n with
 | zero => exact (Q4.add_zero 0).symm
 | succ n ih => simp only [sumQ]; rw [ih, Q4.add_assoc, Q4.add_assoc, ← Q4.add_assoc (sumQ n g), Q4.add_comm (sumQ n g) (f n), Q4.add_assoc]
theorem sumQ_zero (n : Nat) : sumQ n (fun _ => 0) = 0 := by
 induction n with
 | zero => rfl
 | succ n ih => simp only [sumQ]; rw [ih, Q4.add_zero]
theorem sumQ_mul (n : Nat) (x : Q4) (f : Nat → Q4) : sumQ n (fun i => x * f i) = x * sumQ n f := by
 induction n with
 | zero => exact (Q4.mul_zero x).symm
 | succ n ih => simp only [sumQ]; rw [ih, Q4.mul_add]
theorem sumQ_mulr (n : Nat) (x : Q4) (f : Nat → Q4) : sumQ n (fun i => f i * x) = sumQ n f * x := by
 rw [Q4.mul_comm, ← sumQ_mul]
 exact sumQ_congr fun i _ => Q4.mul_comm _ _
theorem sumQ_conj (n : Nat) (f : Nat → Q4) : Q4.conj (sumQ n f) = sumQ n fun i => Q4.conj (f i) := by
 induction n with
 | zero => exact Q4.conj_zero
 | succ n ih => simp only [sumQ]; rw [Q4.conj_add, ih]
theorem sumQ_swap (m n : Nat) (f : Nat → Nat → Q4) : sumQ m (fun i => sumQ n (fun j => f i j)) = sumQ n (fun j => sumQ m (fun i => f i j)) := by
 induction m with
 | zero => exact (sumQ_zero n).symm
 | succ m ih => simp only [sumQ]; rw [ih, ← sumQ_add]
def dl (i j : Nat) : Q4 := if i = j then 1 else 0
theorem sumQ_dl {n j : Nat} (f : Nat → Q4) (h : j < n) : sumQ n (fun i => dl j i * f i) = f j := by
 induction n with
 | zero => omega
 | succ n ih =>
  simp only [sumQ]
  by_cases e : j = n
  ·subst e
   have : sumQ j (fun i => dl j i * f i) = sumQ j (fun _ => 0) := sumQ_congr fun i hi => by unfold dl; rw [if_neg Ox, Q4.zero_mul]
   rw [this, sumQ_zero, Q4.zero_add]
   unfold dl
   rw [if_pos rfl, Q4.one_mul]
  ·rw [ih Ox]
   unfold dl
   rw [if_neg e, Q4.zero_mul, Q4.add_zero]
theorem dl_comm (i j : Nat) : dl i j = dl j i := by unfold dl; split <;> split <;> simp_all
theorem dl_conj (i j : Nat) : Q4.conj (dl i j) = dl i j := by unfold dl; split; exact Q4.conj_one; exact Q4.conj_zero
theorem sumQ_a_nonneg : ∀ {n : Nat} {f : Nat → Q4}, (∀ i, i < n → 0 ≤ (f i).a) → 0 ≤ (sumQ n f).a
  | 0, _, _ => by show (0 : Rat) ≤ 0; grind
  | n + 1, f, h => by
    simp only [sumQ, Q4.aa]
    have := sumQ_a_nonneg (n := n) fun i hi => h i Ox
    have := h n Ox
    grind
def UnC (n : Nat) (m : Nat → Nat → Q4) : Prop := ∀ i j, i < n → j < n → sumQ n (fun k => Q4.conj (m k i) * m k j) = dl i j
set_option maxHeartbeats 1000000
def pk {α : Type} : List α → (α → List α → Q4) → Q4
  | [], _ => 0
  | x :: t, F => F x t + pk t fun y r => F y (x :: r)
section
variable {α β : Type}
theorem pk_congr' : ∀ (l : List α) {F G : α → List α → Q4}, (∀ x r, (x :: r).Perm l → F x r = G x r) → pk l F = pk l G
  | [], _, _, _ => rfl
  | x :: t, F, G, h => by
    unfold pk
    rw [h x t (List.Perm.refl _), pk_congr' t fun y r hp => h y (x :: r) ((List.Perm.swap x y r).trans (hp.cons x))]
theorem pk_congr (l : List α) {F G : α → List α → Q4} (h : ∀ x r, F x r = G x r) : pk l F = pk l G := pk_congr' l fun x r _ => h x r
theorem add4 (a b c d : Q4) : a + b + (c + d) = a + c + (b + d) := by
 rw [Q4.add_assoc, Q4.add_assoc, ← Q4.add_assoc b c d, Q4.add_comm b c, Q4.add_assoc c b d]
theorem pk_add : ∀ (l : List α) (F G : α → List α → Q4), pk l (fun x r => F x r + G x r) = pk l F + pk l G
  | [], _, _ => (Q4.add_zero 0).symm
  | x :: t, F, G => by
    unfold pk
    rw [pk_add t, add4]
theorem pk_mul (c : Q4) : ∀ (l : List α) (F : α → List α → Q4), pk l (fun x r => c * F x r) = c * pk l F
  | [], _ => (Q4.mul_zero c).symm
  | x :: t, F => by
    unfold pk
    rw [pk_mul c t, Q4.mul_add]
theorem pk_mulr (c : Q4) (l : List α) (F : α → List α → Q4) : pk l (fun x r => F x r * c) = pk l F * c := by
 rw [Q4.mul_comm, ← pk_mul]
 exact pk_congr l fun x r => Q4.mul_comm _ _
theorem pk_zero : ∀ (l : List α), pk l (fun _ _ => 0) = 0
  | [] => rfl
  | x :: t => by
    unfold pk
    rw [pk_zero t, Q4.add_zero]
theorem pk_comm (m : List β) : ∀ (l : List α) (f : α → List α → β → List β → Q4), pk l (fun x r => pk m fun y q => f x r y q) = pk m fun y q => pk l fun x r => f x r y q
  | [], _ => (pk_zero m).symm
  | x :: t, f => by
    show (pk m fun y q => f x t y q) + pk t (fun z r => pk m fun y q => f z (x :: r) y q) = pk m fun y q => f x t y q + pk t fun z r => f z (x :: r) y q
    rw [pk_comm m t, ← pk_add]
theorem pk_swap : ∀ (l : List α) (f : α → α → List α → Q4), pk l (fun x r => pk r fun y q => f x y q) = pk l fun x r => pk r fun y q => f y x q
  | [], _ => rfl
  | x :: t, f => by
    have h := pk_swap t fun y z q => f y z (x :: q)
    show pk t (fun y q => f x y q) + pk t (fun y r => f y x r + pk r fun z q => f y z (x :: q)) = pk t (fun y q => f y x q) + pk t (fun y r => f x y r + pk r fun z q => f z y (x :: q))
    rw [pk_add, pk_add, h, ← Q4.add_assoc, ← Q4.add_assoc, Q4.add_comm (pk t fun y q => f x y q)]
theorem pk_perm {l l' : List α} (h : l.Perm l') : ∀ {F : α → List α → Q4}, (∀ x r r', r.Perm r' → F x r = F x r') → pk l F = pk l' F := by
 induction h with
 | nil => intro F _; rfl
 | cons x h ih =>
  intro F hF
  unfold pk
  rw [hF x _ _ h, ih fun y r r' hr => hF y _ _ (hr.cons x)]
 | swap x y t =>
  intro F hF
  show F y (x :: t) + (F x (y :: t) + pk t fun z r => F z (y :: x :: r)) = F x (y :: t) + (F y (x :: t) + pk t fun z r => F z (x :: y :: r))
  rw [← Q4.add_assoc, ← Q4.add_assoc, Q4.add_comm (F y (x :: t)), pk_congr t fun z r => hF z _ _ (List.Perm.swap x y r)]
 | trans _ _ ih1 ih2 => intro F hF; rw [ih1 hF, ih2 hF]
def pm (a : α → β → Q4) : List α → List β → Q4
  | [], _ => 1
  | r :: R, l => pk l fun x q => a r x * pm a R q
theorem pm_last (a : α → β → Q4) (r : α) : ∀ (R : List α) (l : List β), pm a (R ++ [r]) l = pk l fun x q => pm a R q * a r x
  | [], l => by
    show pk l (fun x q => a r x * 1) = pk l fun x q => 1 * a r x
    exact pk_congr l fun x q => Q4.mul_comm _ _
  | s :: R, l => by
    show pk l (fun x q => a s x * pm a (R ++ [r]) q) = pk l fun x q => (pk q fun y p => a s y * pm a R p) * a r x
    have h1 : pk l (fun x q => a s x * pm a (R ++ [r]) q) = pk l fun x q => pk q fun y p => a s x * pm a R p * a r y :=
      pk_congr l fun x q => by
        rw [pm_last a r R q, ← pk_mul]
        exact pk_congr q fun y p => (Q4.mul_assoc _ _ _).symm
    have h2 : pk l (fun x q => (pk q fun y p => a s y * pm a R p) * a r x) = pk l fun x q => pk q fun y p => a s y * pm a R p * a r x :=
      pk_congr l fun x q => (pk_mulr _ q _).symm
    rw [h1, h2]
    exact pk_swap l fun x y p => a s x * pm a R p * a r y
theorem pm_cols (a : α → β → Q4) : ∀ (R : List α) {l l' : List β}, l.Perm l' → pm a R l = pm a R l'
  | [], _, _, _ => rfl
  | r :: R, l, l', h => pk_perm h fun x q q' hq => by rw [pm_cols a R hq]
theorem pm_col (a : α → β → Q4) : ∀ (R : List α) (x : β) (C : List β), R.length = C.length + 1 → pm a R (x :: C) = pk R fun r S => a r x * pm a S C
  | [], _, _, h => by simp at h
  | r :: R, x, C, h => by
    have hl : R.length = C.length := by simpa using h
    show a r x * pm a R C + pk C (fun y q => a r y * pm a R (x :: q)) = a r x * pm a R C + pk R fun s S => a s x * pk C fun y q => a r y * pm a S q
    have h1 : pk C (fun y q => a r y * pm a R (x :: q)) = pk C fun y q => pk R fun s S => a r y * (a s x * pm a S q) :=
      pk_congr' C fun y q hp => by
        have := hp.length_eq
        rw [pm_col a R x q (by simp at this; omega), ← pk_mul]
    have h2 : pk R (fun s S => a s x * pk C fun y q => a r y * pm a S q) = pk R fun s S => pk C fun y q => a r y * (a s x * pm a S q) :=
      pk_congr R fun s S => by
        rw [← pk_mul]
        exact pk_congr C fun y q => by rw [← Q4.mul_assoc, ← Q4.mul_assoc, Q4.mul_comm (a s x)]
    rw [h1, h2, pk_comm]
theorem pm_T (a : α → β → Q4) : ∀ (l : List β) (R : List α), R.length = l.length → pm a R l = pm (fun y x => a x y) l R
  | [], R, h => by
    obtain rfl : R = [] := List.length_eq_zero_iff.1 h
    rfl
  | x :: C, R, h => by
    rw [pm_col a R x C (by simpa using h)]
    exact pk_congr' R fun r S hp => by
      have := hp.length_eq
      rw [pm_T a C S (by simp at this h; omega)]
theorem pm_congr {a b : α → β → Q4} : ∀ (R : List α) (l : List β), (∀ r ∈ R, ∀ x ∈ l, a r x = b r x) → pm a R l = pm b R l
  | [], _, _ => rfl
  | r :: R, l, h => pk_congr' l fun x q hp => by
    rw [h r (by simp) x (hp.mem_iff.1 (by simp)), pm_congr R q fun s hs y hy => h s (by simp [hs]) y (hp.mem_iff.1 (by simp [hy]))]
theorem pm_map {γ δ : Type} (a : α → β → Q4) (f : γ → α) (g : δ → β) : ∀ (R : List γ) (l : List δ), pm a (R.map f) (l.map g) = pm (fun r x => a (f r) (g x)) R l
  | [], _ => rfl
  | r :: R, l => by
    have key : ∀ (l : List δ) (F : β → List β → Q4), pk (l.map g) F = pk l fun x q => F (g x) (q.map g) := by
      intro l
      induction l with
      | nil => intro F; rfl
      | cons x t ih =>
        intro F
        show F (g x) (t.map g) + pk (t.map g) (fun y r => F y (g x :: r)) = F (g x) (t.map g) + pk t fun y r => F (g y) ((x :: r).map g)
        rw [ih]
        rfl
    show pk (l.map g) (fun x q => a (f r) x * pm a (R.map f) q) = pk l fun x q => a (f r) (g x) * pm (fun r x => a (f r) (g x)) R q
    rw [key]
    exact pk_congr l fun x q => by rw [pm_map a f g R q]
end
def slQ {α : Type} : List α → (α → Q4) → Q4
  | [], _ => 0
  | x :: t, f => f x + slQ t f
section
variable {α : Type}
theorem slQ_app (f : α → Q4) : ∀ (l m : List α), slQ (l ++ m) f = slQ l f + slQ m f
  | [], m => (Q4.zero_add _).symm
  | x :: t, m => by
    show f x + slQ (t ++ m) f = f x + slQ t f + slQ m f
    rw [slQ_app f t m, Q4.add_assoc]
theorem slQ_congr {f g : α → Q4} : ∀ (l : List α), (∀ x ∈ l, f x = g x) → slQ l f = slQ l g
  | [], _ => rfl
  | x :: t, h => by
    show f x + slQ t f = g x + slQ t g
    rw [h x (by simp), slQ_congr t fun y hy => h y (by simp [hy])]
end
theorem slQ_range (f : Nat → Q4) : ∀ n, slQ (List.range n) f = sumQ n f
  | 0 => rfl
  | n + 1 => by
    rw [List.range_succ, slQ_app, slQ_range f n]
    show sumQ n f + (f n + 0) = sumQ n f + f n
    rw [Q4.add_zero]
theorem pk_filter {α : Type} [DecidableEq α] (p : α → Bool) : ∀ (l : List α) (F : α → List α → Q4), l.Nodup → pk (l.filter p) F = slQ l fun k => if p k then F k (l.filter fun j => p j && decide (j ≠ k)) else 0
  | [], _, _ => rfl
  | x :: t, F, h => by
    have hx : x ∉ t := (List.nodup_cons.1 h).1
    have ht := (List.nodup_cons.1 h).2
    have e : (t.filter fun j => p j && decide (j ≠ x)) = t.filter p := List.filter_congr fun j hj => by
      have : j ≠ x := fun e => hx (e ▸ hj)
      simp [this]
    show _ = (if p x then F x ((x :: t).filter fun j => p j && decide (j ≠ x)) else 0) + slQ t _
    by_cases hp : p x = true
    · rw [List.filter_cons_of_pos hp, if_pos hp]
      have e0 : ((x :: t).filter fun j => p j && decide (j ≠ x)) = t.filter p := by rw [List.filter_cons_of_neg (by simp), e]
      rw [e0]
      show F x (t.filter p) + pk (t.filter p) (fun y r => F y (x :: r)) = _
      rw [pk_filter p t _ ht]
      congr 1
      refine slQ_congr t fun k hk => ?_
      have : x ≠ k := fun e => hx (e ▸ hk)
      rw [List.filter_cons_of_pos (by simp [hp, this])]
    · rw [List.filter_cons_of_neg hp, if_neg hp, pk_filter p t _ ht, Q4.zero_add]
      refine slQ_congr t fun k hk => ?_
      rw [List.filter_cons_of_neg (by simp [hp])]
def wyQ (a : Nat → Nat → Q4) (n : Nat) : Nat → Nat → Q4
  | 0, _ => 1
  | c + 1, S => sumQ n fun k => if S.testBit k then wyQ a n c (S - 2 ^ k) * a c k else 0
def colsOf (n S : Nat) : List Nat := (List.range n).filter fun k => S.testBit k
theorem bit_out : ∀ S, S < 64 → ∀ k, k < 6 → S.testBit k = true → S - 2 ^ k < 64 ∧ ∀ j, j < 6 → (S - 2 ^ k).testBit j = (S.testBit j && decide (j ≠ k)) := by decide
theorem wyQ_pm (a : Nat → Nat → Q4) {n : Nat} (hn : n ≤ 6) : ∀ c S, S < 64 → wyQ a n c S = pm a (List.range c) (colsOf n S)
  | 0, _, _ => rfl
  | c + 1, S, hS => by
    rw [List.range_succ, pm_last]
    unfold colsOf
    rw [pk_filter _ _ _ List.nodup_range, slQ_range]
    show sumQ n _ = sumQ n _
    have key : ∀ m, m ≤ n → sumQ m (fun k => if S.testBit k then wyQ a n c (S - 2 ^ k) * a c k else 0) = sumQ m fun k => if S.testBit k then pm a (List.range c) ((List.range n).filter fun j => S.testBit j && decide (j ≠ k)) * a c k else 0 := by
      intro m
      induction m with
      | zero => intro _; rfl
      | succ m ih =>
        intro hm
        show sumQ m _ + _ = sumQ m _ + _
        rw [ih (by omega)]
        congr 1
        dsimp only
        by_cases hb : S.testBit m = true
        · rw [if_pos hb, if_pos hb]
          obtain ⟨h1, h2⟩ := bit_out S hS m (by omega) hb
          rw [wyQ_pm a hn c _ h1]
          congr 2
          exact List.filter_congr fun j hj => h2 j (by have := List.mem_range.1 hj; omega)
        · rw [if_neg hb, if_neg hb]
    exact key n (Nat.le_refl _)
theorem cols_full : ∀ n, n ≤ 6 → colsOf n (2 ^ n - 1) = List.range n := by decide
theorem wyQ_full (a : Nat → Nat → Q4) {n : Nat} (hn : n ≤ 6) : wyQ a n n (2 ^ n - 1) = pm a (List.range n) (List.range n) := by
 have h : 2 ^ n - 1 < 64 := by
  have : n = 0 ∨ n = 1 ∨ n = 2 ∨ n = 3 ∨ n = 4 ∨ n = 5 ∨ n = 6 := by omega
  rcases this with rfl | rfl | rfl | rfl | rfl | rfl | rfl <;> decide
 rw [wyQ_pm a hn n _ h, cols_full n hn]
set_option maxHeartbeats 1000000
def sqN (N : Nat) : Nat → (List Nat → Q4) → Q4
  | 0, F => F []
  | p + 1, F => sumQ N fun r => sqN N p fun R => F (r :: R)
theorem sqN_congr {N : Nat} : ∀ (p : Nat) {F G : List Nat → Q4}, (∀ R, R.length = p → F R = G R) → sqN N p F = sqN N p G
  | 0, F, G, h => h [] rfl
  | p + 1, F, G, h => sumQ_congr fun r _ => sqN_congr p fun R hR => h (r :: R) (by simp [hR])
theorem sqN_add {N : Nat} : ∀ (p : Nat) (F G : List Nat → Q4), sqN N p (fun R => F R + G R) = sqN N p F + sqN N p G
  | 0, _, _ => rfl
  | p + 1, F, G => by
    show sumQ N (fun r => sqN N p fun R => F (r :: R) + G (r :: R)) = (sumQ N fun r => sqN N p fun R => F (r :: R)) + sumQ N fun r => sqN N p fun R => G (r :: R)
    rw [← sumQ_add]
    exact sumQ_congr fun r _ => sqN_add p _ _
theorem sqN_zero {N : Nat} : ∀ p, sqN N p (fun _ => 0) = 0
  | 0 => rfl
  | p + 1 => (sumQ_congr fun r _ => sqN_zero p).trans (sumQ_zero N)
theorem sqN_mul {N : Nat} (c : Q4) : ∀ (p : Nat) (F : List Nat → Q4), sqN N p (fun R => c * F R) = c * sqN N p F
  | 0, _ => rfl
  | p + 1, F => by
    show sumQ N (fun r => sqN N p fun R => c * F (r :: R)) = c * sumQ N fun r => sqN N p fun R => F (r :: R)
    rw [← sumQ_mul]
    exact sumQ_congr fun r _ => sqN_mul c p _
theorem sqN_pk {N : Nat} {α : Type} : ∀ (p : Nat) (l : List α) (F : List Nat → α → List α → Q4), sqN N p (fun R => pk l (F R)) = pk l fun x q => sqN N p fun R => F R x q
  | p, [], F => sqN_zero p
  | p, x :: t, F => by
    show sqN N p (fun R => F R x t + pk t fun y r => F R y (x :: r)) = (sqN N p fun R => F R x t) + pk t fun y r => sqN N p fun R => F R y (x :: r)
    rw [sqN_add, sqN_pk p t]
theorem pk_conj {α : Type} : ∀ (l : List α) (F : α → List α → Q4), Q4.conj (pk l F) = pk l fun x q => Q4.conj (F x q)
  | [], _ => Q4.conj_zero
  | x :: t, F => by
    show Q4.conj (F x t + pk t fun y r => F y (x :: r)) = Q4.conj (F x t) + pk t fun y r => Q4.conj (F y (x :: r))
    rw [Q4.conj_add, pk_conj t]
theorem sumQ_pk {α : Type} (N : Nat) (l : List α) (F : Nat → α → List α → Q4) : sumQ N (fun r => pk l (F r)) = pk l fun x q => sumQ N fun r => F r x q := by
 have : ∀ (l : List α) (F : Nat → α → List α → Q4), sumQ N (fun r => pk l (F r)) = pk l fun x q => sumQ N fun r => F r x q := by
  intro l
  induction l with
  | nil => intro F; exact sumQ_zero N
  | cons x t ih =>
   intro F
   show sumQ N (fun r => F r x t + pk t fun y q => F r y (x :: q)) = (sumQ N fun r => F r x t) + pk t fun y q => sumQ N fun r => F r y (x :: q)
   rw [sumQ_add, ih]
 exact this l F
theorem pm_rows' {α β : Type} (a : α → β → Q4) {R R' : List α} {l : List β} (h : R.Perm R') (hl : R.length = l.length) : pm a R l = pm a R' l := by
 rw [pm_T a l R hl, pm_cols _ l h, ← pm_T a l R' (by rw [← h.length_eq]; exact hl)]
def qna : Nat → Q4
  | 0 => 0
  | n + 1 => qna n + 1
theorem qna_add (m : Nat) : ∀ n, qna (m + n) = qna m + qna n
  | 0 => (Q4.add_zero _).symm
  | n + 1 => by
    show qna (m + n) + 1 = qna m + (qna n + 1)
    rw [qna_add m n, Q4.add_assoc]
theorem qna_mul (m : Nat) : ∀ n, qna (m * n) = qna m * qna n
  | 0 => (Q4.mul_zero _).symm
  | n + 1 => by
    rw [Nat.mul_succ, qna_add, qna_mul m n]
    show _ = qna m * (qna n + 1)
    rw [Q4.mul_add, Q4.mul_one]
theorem qna_one : qna 1 = 1 := Q4.zero_add _
def mfN : List Nat → Nat
  | [] => 1
  | x :: t => (t.count x + 1) * mfN t
theorem mfN_perm {l l' : List Nat} (h : l.Perm l') : mfN l = mfN l' := by
 induction h with
 | nil => rfl
 | cons x h ih => unfold mfN; rw [ih, h.count_eq]
 | swap x y t =>
  show ((x :: t).count y + 1) * ((t.count x + 1) * mfN t) = ((y :: t).count x + 1) * ((t.count y + 1) * mfN t)
  by_cases e : x = y
  ·subst e; rfl
  ·rw [List.count_cons_of_ne e, List.count_cons_of_ne (fun h => e h.symm), ← Nat.mul_assoc, ← Nat.mul_assoc, Nat.mul_comm (t.count y + 1)]
 | trans _ _ ih1 ih2 => exact ih1.trans ih2
theorem mfN_pick {x : Nat} {q l : List Nat} (h : (x :: q).Perm l) : mfN l = l.count x * mfN q := by
 rw [← mfN_perm h, ← h.count_eq, List.count_cons_self]
 rfl
theorem pk_count (x : Nat) : ∀ l : List Nat, pk l (fun y _ => dl y x) = qna (l.count x)
  | [] => rfl
  | y :: t => by
    show dl y x + pk t (fun z _ => dl z x) = _
    rw [pk_count x t]
    unfold dl
    by_cases e : y = x
    · subst e; rw [if_pos rfl, List.count_cons_self, Q4.add_comm]; rfl
    · rw [if_neg e, List.count_cons_of_ne e, Q4.zero_add]
theorem pk_const (c : Q4) : ∀ l : List Nat, pk l (fun _ _ => c) = qna l.length * c
  | [] => (Q4.zero_mul c).symm
  | x :: t => by
    show c + pk t (fun _ _ => c) = (qna t.length + 1) * c
    rw [pk_const c t, Q4.add_mul, Q4.one_mul, Q4.add_comm]
def fcN : Nat → Nat
  | 0 => 1
  | n + 1 => (n + 1) * fcN n
theorem sq_perm {N : Nat} {a : Nat → Nat → Q4} (hu : UnC N a) : ∀ (p : Nat) (l : List Nat), l.length = p → (∀ x ∈ l, x < N) → sqN N p (fun R => pm a R l * Q4.conj (pm a R l)) = qna (fcN p * mfN l)
  | 0, l, hl, _ => by
    obtain rfl : l = [] := List.length_eq_zero_iff.1 hl
    show (1 : Q4) * Q4.conj 1 = _
    rw [Q4.conj_one, Q4.mul_one]
    exact qna_one.symm
  | p + 1, l, hl, hN => by
    have h1 : sqN N (p + 1) (fun R => pm a R l * Q4.conj (pm a R l)) = pk l fun x q => pk l fun y q' => sumQ N fun r => sqN N p fun R => (a r x * Q4.conj (a r y)) * (pm a R q * Q4.conj (pm a R q')) := by
      show sumQ N (fun r => sqN N p fun R => pm a (r :: R) l * Q4.conj (pm a (r :: R) l)) = _
      have e1 : ∀ r R, pm a (r :: R) l * Q4.conj (pm a (r :: R) l) = pk l fun x q => pk l fun y q' => (a r x * Q4.conj (a r y)) * (pm a R q * Q4.conj (pm a R q')) := fun r R => by
        show (pk l fun x q => a r x * pm a R q) * Q4.conj (pk l fun x q => a r x * pm a R q) = _
        rw [pk_conj, ← pk_mulr]
        refine pk_congr l fun x q => ?_
        rw [← pk_mul]
        refine pk_congr l fun y q' => ?_
        rw [Q4.conj_mul, Q4.mul_assoc, ← Q4.mul_assoc (pm a R q), Q4.mul_comm (pm a R q), Q4.mul_assoc, ← Q4.mul_assoc, ← Q4.mul_assoc]
      have e2 : (fun r => sqN N p fun R => pm a (r :: R) l * Q4.conj (pm a (r :: R) l)) = fun r => pk l fun x q => pk l fun y q' => sqN N p fun R => (a r x * Q4.conj (a r y)) * (pm a R q * Q4.conj (pm a R q')) := by
        funext r
        rw [sqN_congr p fun R _ => e1 r R, sqN_pk]
        exact pk_congr l fun x q => sqN_pk p l _
      rw [e2, sumQ_pk]
      exact pk_congr l fun x q => sumQ_pk N l _
    rw [h1]
    have h2 : (pk l fun x q => pk l fun y q' => sumQ N fun r => sqN N p fun R => (a r x * Q4.conj (a r y)) * (pm a R q * Q4.conj (pm a R q'))) = pk l fun x q => qna (fcN p * mfN l) := by
      refine pk_congr' l fun x q hp => ?_
      have hx : x ∈ l := hp.mem_iff.1 (by simp)
      have hql : q.length = p := by have := hp.length_eq; simp at this; omega
      have hq : ∀ z ∈ q, z < N := fun z hz => hN z (hp.mem_iff.1 (by simp [hz]))
      have h3 : (pk l fun y q' => sumQ N fun r => sqN N p fun R => (a r x * Q4.conj (a r y)) * (pm a R q * Q4.conj (pm a R q'))) = pk l fun y q' => dl y x * qna (fcN p * mfN q) := by
        refine pk_congr' l fun y q' hp' => ?_
        have hy : y ∈ l := hp'.mem_iff.1 (by simp)
        have e3 : (sumQ N fun r => sqN N p fun R => (a r x * Q4.conj (a r y)) * (pm a R q * Q4.conj (pm a R q'))) = dl y x * sqN N p fun R => pm a R q * Q4.conj (pm a R q') := by
          have e4 : (sumQ N fun r => a r x * Q4.conj (a r y)) = dl y x := by
            rw [← hu y x (hN y hy) (hN x hx)]
            exact sumQ_congr fun r _ => Q4.mul_comm _ _
          rw [← e4, ← sumQ_mulr]
          exact sumQ_congr fun r _ => sqN_mul _ p _
        rw [e3]
        by_cases e : y = x
        · subst e
          have hqq : q'.Perm q := List.perm_cons y |>.1 (hp'.trans hp.symm)
          have e5 : sqN N p (fun R => pm a R q * Q4.conj (pm a R q')) = qna (fcN p * mfN q) := by
            rw [← sq_perm hu p q hql hq]
            exact sqN_congr p fun R _ => by rw [pm_cols a R hqq]
          rw [e5]
        · unfold dl; rw [if_neg e, Q4.zero_mul, Q4.zero_mul]
      rw [h3, pk_mulr (qna (fcN p * mfN q)) l (fun y _ => dl y x), pk_count, ← qna_mul]
      rw [mfN_pick hp, ← Nat.mul_assoc, ← Nat.mul_assoc, Nat.mul_comm (l.count x)]
    rw [h2, pk_const, ← qna_mul, hl, ← Nat.mul_assoc]
    rfl
open Go.RowKit
structure El (α : Type) where
  sz : Nat
  ec : α → List Value
  dflt : α
  pos : 0 < sz
  len : ∀ x, (ec x).length = sz
  one : ∀ x, ∀ v ∈ ec x, v.oneCell' = true
section
variable {α : Type} (E : El α)
def El.flat (xs : List α) : List Value := xs.flatMap E.ec
def El.at (xs : List α) (k : Nat) : α := xs.getD k E.dflt
theorem El.flat_cons (x : α) (xs : List α) : E.flat (x :: xs) = E.ec x ++ E.flat xs := by simp [El.flat]
theorem El.flat_app (xs ys : List α) : E.flat (xs ++ ys) = E.flat xs ++ E.flat ys := by simp [El.flat]
theorem El.flat_one (x : α) : E.flat [x] = E.ec x := by simp [El.flat]
theorem El.flat_len : ∀ xs : List α, (E.flat xs).length = xs.length * E.sz
  | [] => by simp [El.flat]
  | x :: xs => by rw [E.flat_cons, List.length_append, E.len, El.flat_len xs, List.length_cons, Nat.add_mul]; omega
theorem El.at_mem {xs : List α} {k : Nat} (h : k < xs.length) : E.at xs k ∈ xs := by
 unfold El.at; rw [List.getD_eq_getElem?_getD, List.getElem?_eq_getElem h]; exact List.getElem_mem h
theorem El.at_app {xs : List α} {k : Nat} (ys : List α) (h : k < xs.length) : E.at (xs ++ ys) k = E.at xs k := by
 unfold El.at; rw [List.getD_eq_getElem?_getD, List.getD_eq_getElem?_getD, List.getElem?_append_left h]
theorem El.at_snoc (xs : List α) (y : α) : E.at (xs ++ [y]) xs.length = y := by
 unfold El.at; rw [List.getD_eq_getElem?_getD]; simp
theorem El.get : ∀ (l : List α) (k r : Nat), k < l.length → r < E.sz → (E.flat l)[k * E.sz + r]? = (E.ec (E.at l k))[r]?
  | [], k, r, hk, _ => by simp at hk
  | x :: l, 0, r, _, hr => by
    rw [E.flat_cons, Nat.zero_mul, Nat.zero_add, List.getElem?_append_left (by rw [E.len]; exact hr)]
    simp [El.at]
  | x :: l, k + 1, r, hk, hr => by
    have e2 : (k + 1) * E.sz + r - (E.ec x).length = k * E.sz + r := by rw [E.len, Nat.add_mul]; omega
    rw [E.flat_cons, List.getElem?_append_right (by rw [E.len, Nat.add_mul]; omega), e2, El.get l k r (by simpa using hk) hr]
    simp [El.at]
theorem El.flat_one' (xs : List α) : ∀ v ∈ E.flat xs, v.oneCell' = true := by
 intro v hv
 obtain ⟨x, _, hx⟩ := List.mem_flatMap.1 hv
 exact E.one x v hx
def At (w : World) (b off : Nat) (x : α) : Prop := ∀ r, r < E.sz → w.cell? ⟨b, off + r, none⟩ = (E.ec x)[r]?
variable {E}
theorem AS.openG {w : World} {a : Option Addr} {xs : List α} (h : AS w a (E.flat xs)) (hn : 0 < xs.length) :
    ∃ b off, a = some ⟨b, off, none⟩ ∧ b < w.heap.size ∧ ∀ j, j < xs.length → At E w b (off + j * E.sz) (E.at xs j) := by
  have hl := E.flat_len xs
  have hp := E.pos
  have hne : E.flat xs ≠ [] := by
    intro e; rw [e, List.length_nil] at hl
    have := Nat.mul_pos hn hp
    omega
  obtain ⟨b, off, rfl, hlt, hc⟩ := h hne
  refine ⟨b, off, rfl, hlt, fun j hj r hr => ?_⟩; rw [Nat.add_assoc, hc (j * E.sz + r) (by rw [hl]; have := Nat.mul_le_mul_right E.sz (show j + 1 ≤ xs.length by omega); rw [Nat.add_mul] at this; omega)]
  exact E.get xs j r hj hr
theorem At.kn {B w : World} {F : List Nat} {s : List Blk} {b off : Nat} {x : α} (h : At E B b off x) (K : Kn B F s w) (hb : b < B.heap.size) (hF : b ∉ F) : At E w b off x :=
  fun r hr => (K.cellB hb hF _).trans (h r hr)
theorem At.below {w w' : World} {b off : Nat} {x : α} (h : At E w b off x) (hb : b < w.heap.size) (hB : Below w.heap.size w w') : At E w' b off x :=
  fun r hr => (hB.cell (p := ⟨b, off + r, none⟩) hb).trans (h r hr)
def OwnG (E : El α) (e : Nat) (u : List Blk) (v : Value) (xs : List α) : Prop := Own e E.sz u v xs.length (E.flat xs)
theorem OwnG.nil {e : Nat} : OwnG E e [] (.slice none 0 0) [] := Own.nil _ _
theorem OwnG.as {e : Nat} {u s : List Blk} {v : Value} {xs : List α} {B w : World} {F : List Nat} (h : OwnG E e u v xs) (K : Kn B F (u ++ s) w) : ∃ a cap, v = .slice a xs.length cap ∧ AS w a (E.flat xs) := Own.as h K
end
section
variable {R : Option Nat} {P : Program} {ops : Array Oper} {Q : Exit → Act → World → Prop} {B : World} {F : List Nat} {s0 : Option (List Blk × List Blk)}
variable {l : List (Oper × Nat)} {a : Act} {s S : List Blk} {d : Option Tmp} {op : Op} {t : TypeId} {p : String} {af : Array Edge} {v : Value}
variable {α : Type} {E : El α}
theorem rg_appendG {so xo : Operand} {ty e : Nat} {i : TypeInfo} {z : Value} {u : List Blk} {xs ys : List α} {ad : Addr} {c m : Nat} {gd : Option (Nat × Bool)} (hg : Region.wanted ⟨d, .call ⟨.builtin .append, #[so, xo], #[ty, ty]⟩, t, p, af, gd⟩ (yielded ops a.tmps) = true)
    (ht : P.underlying ty = some (.slice e)) (hi : P.info? e = some i) (hz : i.zero = some z) (hsize : i.size = E.sz) (hzs : z.cells.size = E.sz) (hby : i.bytes ≤ 1000)
    (hs : a.eval so = v) (hown : OwnG E e u v xs) (hx : a.eval xo = .slice (some ad) m c) (hm : m = ys.length) (hn : xs.length + ys.length ≤ 100000000) (hp : S.Perm (u ++ s))
    (hnews : ∀ w, Kn B F S w → ∀ j x, (E.flat ys)[j]? = some x → w.cell? (ad.add j) = some x)
    (hzz : ∀ z ∈ s0, z.1.Sublist s) (h : ∀ u' v', OwnG E e u' v' (xs ++ ys) → Rg R P ops Q B F s0 l (a.put d v') (u' ++ s)) :
    Rg R P ops Q B F s0 ((⟨d, .call ⟨.builtin .append, #[so, xo], #[ty, ty]⟩, t, p, af, gd⟩, 1) :: l) a S := by
  subst hm
  refine rg_append (u := u) (s := s) (i := i) (z := z) (size := E.sz) (bytes := i.bytes) (n := xs.length) (m := ys.length) (c := c) (xs := E.flat xs) (news := E.flat ys) (ad := ad) hg ht hi hz hsize rfl hzs E.pos hs hown hx
    (E.flat_len ys) hnews (E.flat_one' ys) (by simp only [maxLen]; omega) (by have := Nat.mul_le_mul hn hby; omega) hp hzz ?_
  intro u' v' hO _; refine h u' v' ?_
  unfold OwnG
  rw [E.flat_app, List.length_append]
  exact hO
theorem rg_append1 {so xo : Operand} {ty e : Nat} {i : TypeInfo} {z : Value} {u : List Blk} {xs : List α} {x : α} {g : Nat} {gd : Option (Nat × Bool)} (hg : Region.wanted ⟨d, .call ⟨.builtin .append, #[so, xo], #[ty, ty]⟩, t, p, af, gd⟩ (yielded ops a.tmps) = true)
    (ht : P.underlying ty = some (.slice e)) (hi : P.info? e = some i) (hz : i.zero = some z) (hsize : i.size = E.sz) (hzs : z.cells.size = E.sz) (hby : i.bytes ≤ 1000)
    (hs : a.eval so = v) (hown : OwnG E e u v xs) (hx : a.eval xo = .slice (some ⟨g, 0, none⟩) 1 1) (hn : xs.length ≤ 10000000) (hp : S.Perm (u ++ s))
    (hnews : ∀ w, Kn B F S w → Hd w g e (E.ec x).toArray)
    (hzz : ∀ z ∈ s0, z.1.Sublist s) (h : ∀ u' v', OwnG E e u' v' (xs ++ [x]) → Rg R P ops Q B F s0 l (a.put d v') (u' ++ s)) :
    Rg R P ops Q B F s0 ((⟨d, .call ⟨.builtin .append, #[so, xo], #[ty, ty]⟩, t, p, af, gd⟩, 1) :: l) a S :=
  rg_appendG (ys := [x]) hg ht hi hz hsize hzs hby hs hown hx rfl (by simp; omega) hp (fun w K j y hj => by
    have hd := (hnews w K).cell j
    have e1 : (⟨g, 0, none⟩ : Addr).add j = ⟨g, j, none⟩ := by unfold Addr.add; split <;> simp_all
    rw [E.flat_one] at hj; rw [e1, hd, ← hj]
    simp) hzz h
theorem rg_or {f : Nat} {cargs : Array Operand} {at_ : Array TypeId} {args : Array Value} {gd : Option (Nat × Bool)} {X : Value → Prop}
    (hg : Region.wanted ⟨d, .call ⟨.value (.func f), cargs, at_⟩, t, p, af, gd⟩ (yielded ops a.tmps) = true) (hgo : isGo P f = true)
    (h : ∀ w, Kn B F s w → Calls P f args w (fun e w' => ∃ v, e = .returned v ∧ X v ∧ Below w.heap.size w w')) (hargs : cargs.map a.eval = args)
    (hz : ∀ z ∈ s0, z.1.Sublist s) (k : ∀ v, X v → Rg R P ops Q B F s0 l (a.put d v) s) :
    Rg R P ops Q B F s0 ((⟨d, .call ⟨.value (.func f), cargs, at_⟩, t, p, af, gd⟩, 1) :: l) a s :=
  rg_call hg hgo hargs fun w K => (h w K).mono fun e w' ⟨v, he, hX, hb⟩ => ⟨v, s, he, K.call hb, hz, k v hX⟩
end
abbrev nmC (z : Nm) : List Value := [.int .i64 z.a, .int .i64 z.b, .int .i64 z.c, .int .i64 z.d, .int .i64 z.k]
abbrev nmV (z : Nm) : Value := .agg #[.int .i64 z.a, .int .i64 z.b, .int .i64 z.c, .int .i64 z.d, .int .i64 z.k]
abbrev NmE : El Nm := ⟨5, nmC, Nm.zero, by decide, fun _ => rfl, fun x v hv => by simp at hv; rcases hv with rfl | rfl | rfl | rfl | rfl <;> rfl⟩
abbrev nms (xs : List Nm) : List Value := NmE.flat xs
abbrev nm (xs : List Nm) (k : Nat) : Nm := NmE.at xs k
structure NmAt (w : World) (b off : Nat) (z : Nm) : Prop where
  c0 : w.cell? ⟨b, off, none⟩ = some (.int .i64 z.a)
  c1 : w.cell? ⟨b, off + 1, none⟩ = some (.int .i64 z.b)
  c2 : w.cell? ⟨b, off + 2, none⟩ = some (.int .i64 z.c)
  c3 : w.cell? ⟨b, off + 3, none⟩ = some (.int .i64 z.d)
  c4 : w.cell? ⟨b, off + 4, none⟩ = some (.int .i64 z.k)
theorem AS.openN {w : World} {a : Option Addr} {xs : List Nm} (h : AS w a (nms xs)) (hn : 0 < xs.length) :
    ∃ b off, a = some ⟨b, off, none⟩ ∧ b < w.heap.size ∧ ∀ j, j < xs.length → NmAt w b (off + j * 5) (nm xs j) := by
  obtain ⟨b, off, ha, hb, hc⟩ := h.openG hn
  exact ⟨b, off, ha, hb, fun j hj => ⟨hc j hj 0 (by decide), hc j hj 1 (by decide), hc j hj 2 (by decide), hc j hj 3 (by decide), hc j hj 4 (by decide)⟩⟩
theorem NmAt.kn {B w : World} {F : List Nat} {s : List Blk} {b off : Nat} {z : Nm} (h : NmAt B b off z) (K : Kn B F s w) (hb : b < B.heap.size) (hF : b ∉ F) : NmAt w b off z :=
  ⟨(K.cellB hb hF _).trans h.c0, (K.cellB hb hF _).trans h.c1, (K.cellB hb hF _).trans h.c2, (K.cellB hb hF _).trans h.c3, (K.cellB hb hF _).trans h.c4⟩
def numV (r : NR) : Value := match r with
  | .ok z => .tuple #[nmV z, .int .i64 0]
  | .error c => .tuple #[nmV Nm.zero, .int .i64 c]
section
variable {R : Option Nat} {P : Program} {ops : Array Oper} {Q : Exit → Act → World → Prop} {B : World} {F : List Nat} {s0 : Option (List Blk × List Blk)}
variable {l : List (Oper × Nat)} {a : Act} {s S : List Blk} {d : Option Tmp} {op : Op} {t : TypeId} {p : String} {af : Array Edge} {v : Value}
theorem rg_num {f : Nat} {cargs : Array Operand} {at_ : Array TypeId} {args : Array Value} {r : NR} {c0 : Int} {gd : Option (Nat × Bool)} (hg : Region.wanted ⟨d, .call ⟨.value (.func f), cargs, at_⟩, t, p, af, gd⟩ (yielded ops a.tmps) = true) (hgo : isGo P f = true)
    (h : ∀ w, Kn B F s w → Calls P f args w (fun e w' => e = .returned (numV r) ∧ Below w.heap.size w w')) (hargs : cargs.map a.eval = args)
    (hz : ∀ z ∈ s0, z.1.Sublist s) (hc : ∀ c, r = .error c → c = c0) (ke : r = .error c0 → Rg R P ops Q B F s0 l (a.put d (.tuple #[nmV Nm.zero, .int .i64 c0])) s)
    (k : ∀ z, r = .ok z → Rg R P ops Q B F s0 l (a.put d (.tuple #[nmV z, .int .i64 0])) s) :
    Rg R P ops Q B F s0 ((⟨d, .call ⟨.value (.func f), cargs, at_⟩, t, p, af, gd⟩, 1) :: l) a s := by
  refine rg_pure hg hgo h hargs hz ?_
  cases hr : r with
  | ok z => exact k z hr
  | error c => have := hc c hr; subst this; exact ke hr
end
abbrev LR := Except Int (List Nm)
def gather (f : Nat → NR) : Nat → LR
  | 0 => .ok []
  | t + 1 => match gather f t with
    | .error c => .error c
    | .ok l => match f t with
      | .ok z => .ok (l ++ [z])
      | .error c => .error c
theorem gather_ok {f : Nat → NR} {t : Nat} {l : List Nm} {z : Nm} (h : gather f t = .ok l) (hz : f t = .ok z) : gather f (t + 1) = .ok (l ++ [z]) := by
 simp only [gather, h, hz]
theorem gather_err {f : Nat → NR} {t : Nat} {l : List Nm} {c : Int} (h : gather f t = .ok l) (hz : f t = .error c) : ∀ m, t < m → gather f m = .error c := by
 intro m hm
 induction m with
 | zero => omega
 | succ m ih =>
  rcases (by omega : t = m ∨ t < m) with rfl | hm
  ·simp only [gather, h, hz]
  ·simp only [gather, ih hm]
theorem gather_len {f : Nat → NR} : ∀ {t : Nat} {l : List Nm}, gather f t = .ok l → l.length = t
  | 0, l, h => by cases h; rfl
  | t + 1, l, h => by
    simp only [gather] at h
    split at h
    · cases h
    · next l0 h0 =>
      split at h
      · cases h
        simp [gather_len h0]
      · cases h
theorem gather_get {f : Nat → NR} : ∀ {t : Nat} {l : List Nm}, gather f t = .ok l → ∀ i, i < t → f i = .ok (nm l i)
  | 0, _, _, i, hi => by omega
  | t + 1, l, h, i, hi => by
    simp only [gather] at h
    split at h
    · cases h
    · next l0 h0 =>
      split at h
      · next z hz =>
        cases h
        have hl := gather_len h0
        rcases (by omega : i < t ∨ i = t) with h1 | rfl
        · rw [gather_get h0 i h1]
          exact congrArg _ (NmE.at_app [z] (by omega)).symm
        · rw [hz, ← hl]
          exact congrArg _ (NmE.at_snoc l0 z).symm
      · cases h
theorem gather_congr {f g : Nat → NR} : ∀ t, (∀ i, i < t → f i = g i) → gather f t = gather g t
  | 0, _ => rfl
  | t + 1, h => by simp only [gather, gather_congr t fun i hi => h i (by omega), h t (by omega)]
theorem gather_err_mem {f : Nat → NR} {c : Int} : ∀ {t : Nat}, gather f t = .error c → ∃ i, i < t ∧ f i = .error c
  | 0, h => by cases h
  | t + 1, h => by
    simp only [gather] at h
    split at h
    · next c' h0 =>
      cases h
      obtain ⟨i, hi, he⟩ := gather_err_mem h0
      exact ⟨i, by omega, he⟩
    · split at h
      · cases h
      · next c' he =>
        cases h
        exact ⟨t, by omega, he⟩
theorem gather_pure (f : Nat → Nm) : ∀ t, gather (fun i => .ok (f i)) t = .ok ((List.range t).map f)
  | 0 => rfl
  | t + 1 => by simp only [gather, gather_pure f t, List.range_succ, List.map_append, List.map_cons, List.map_nil]
def rN (N : Nat) (r : LR) : Int := match r with
  | .ok _ => N
  | .error _ => 0
def rL (r : LR) : List Nm := match r with
  | .ok l => l
  | .error _ => []
def rC (r : LR) : Int := match r with
  | .ok _ => 0
  | .error c => c
def madeR (N : Nat) (f : Nat → Nat → NR) : LR := gather (fun t => f (t / N) (t % N)) (N * N)
theorem ix_div {N i k : Nat} (hk : k < N) : (i * N + k) / N = i := by
 rw [Nat.mul_comm, Nat.mul_add_div (by omega), Nat.div_eq_of_lt hk, Nat.add_zero]
theorem ix_mod {N i k : Nat} (hk : k < N) : (i * N + k) % N = k := by
 rw [Nat.mul_comm, Nat.mul_add_mod, Nat.mod_eq_of_lt hk]
theorem ix_lt {N i k : Nat} (hi : i < N) (hk : k < N) : i * N + k < N * N := by
 have := Nat.mul_le_mul_right N (show i + 1 ≤ N by omega)
 rw [Nat.add_mul, Nat.one_mul] at this
 omega
theorem made_get {N : Nat} {f : Nat → Nat → NR} {l : List Nm} (h : madeR N f = .ok l) {i k : Nat} (hi : i < N) (hk : k < N) : f i k = .ok (nm l (i * N + k)) := by
 have := gather_get h (i * N + k) (ix_lt hi hk)
 rwa [ix_div hk, ix_mod hk] at this
theorem made_len {N : Nat} {f : Nat → Nat → NR} {l : List Nm} (h : madeR N f = .ok l) : l.length = N * N := gather_len h
def downs : Nat → List Nat
  | 0 => [0]
  | p + 1 => (p + 1) :: downs p
def pats : Nat → Nat → List (List Int)
  | 0, _ => []
  | 1, p => [[(p : Int)]]
  | m + 2, p => (downs p).flatMap fun f => (pats (m + 1) (p - f)).map ((f : Int) :: ·)
def patsT (m p : Nat) : Nat → List (List Int)
  | 0 => []
  | t + 1 => patsT m p t ++ (pats m t).map (((p - t : Nat) : Int) :: ·)
theorem pats_T (m p : Nat) : pats (m + 2) p = patsT (m + 1) p (p + 1) := by
 have key : ∀ q d, d + q = p → patsT (m + 1) p d ++ (downs q).flatMap (fun f => (pats (m + 1) (p - f)).map ((f : Int) :: ·)) = patsT (m + 1) p (p + 1) := by
  intro q
  induction q with
  | zero =>
   intro d hd
   obtain rfl : d = p := by omega
   simp only [downs, List.flatMap_cons, List.flatMap_nil, List.append_nil, patsT, Nat.sub_self]
   rfl
  | succ q ih =>
   intro d hd
   have e := ih (d + 1) (by omega)
   rw [← e]
   simp only [downs, List.flatMap_cons, patsT, List.append_assoc]
   rw [show p - (q + 1) = d by omega, show p - d = q + 1 by omega]
 exact key p 0 (by omega)
theorem patsT_len (m p : Nat) : ∀ t d, (patsT m p t).length ≤ (patsT m p (t + d)).length
  | t, 0 => Nat.le_refl _
  | t, d + 1 => by
    have := patsT_len m p t d
    show _ ≤ (patsT m p (t + d) ++ _).length
    rw [List.length_append]
    omega
theorem patsT_le {m p t : Nat} (h : t ≤ p) : (patsT (m + 1) p t).length + (pats (m + 1) t).length ≤ (pats (m + 2) p).length := by
 rw [pats_T]
 have h1 := patsT_len (m + 1) p (t + 1) (p - t)
 rw [show t + 1 + (p - t) = p + 1 by omega] at h1
 have h2 : (patsT (m + 1) p (t + 1)).length = (patsT (m + 1) p t).length + (pats (m + 1) t).length := by
  show (patsT (m + 1) p t ++ _).length = _
  rw [List.length_append, List.length_map]
 omega
set_option maxHeartbeats 1000000
def gI (xs : List Int) (i : Nat) : Int := xs.getD i 0
def okP (xs : List Int) : Bool := decide (∀ j, j < xs.length → 0 ≤ gI xs j ∧ gI xs j ≤ 5)
theorem okP_true {xs : List Int} (h : ∀ j, j < xs.length → 0 ≤ gI xs j ∧ gI xs j ≤ 5) : okP xs = true := by
 unfold okP; rw [decide_eq_true_eq]; exact h
theorem okP_at {xs : List Int} (h : okP xs = true) {i : Nat} (hi : i < xs.length) : 0 ≤ gI xs i ∧ gI xs i ≤ 5 := by
 unfold okP at h; rw [decide_eq_true_eq] at h; exact h i hi
def sT (xs : List Int) : Nat → Int
  | 0 => 0
  | i + 1 => sT xs i + gI xs i
theorem sT_bd {xs : List Int} (h : ∀ j, j < xs.length → 0 ≤ gI xs j ∧ gI xs j ≤ 5) : ∀ i, i ≤ xs.length → 0 ≤ sT xs i ∧ sT xs i ≤ 5 * i
  | 0, _ => by show (0 : Int) ≤ 0 ∧ (0 : Int) ≤ _; omega
  | i + 1, hi => by
    have := sT_bd h i (by omega)
    have := h i (by omega)
    show 0 ≤ sT xs i + gI xs i ∧ sT xs i + gI xs i ≤ _
    omega
theorem sT_mono {xs : List Int} (h : ∀ j, j < xs.length → 0 ≤ gI xs j ∧ gI xs j ≤ 5) {i : Nat} : ∀ m, i ≤ m → m ≤ xs.length → sT xs i ≤ sT xs m
  | 0, h1, _ => by obtain rfl : i = 0 := by omega
                   exact Int.le_refl _
  | m + 1, h1, h2 => by
    rcases (by omega : i = m + 1 ∨ i ≤ m) with rfl | h3
    · exact Int.le_refl _
    · have h4 := sT_mono h m h3 (by omega)
      have h5 := h m (by omega)
      show sT xs i ≤ sT xs m + gI xs m
      omega
def patB (xs : List Int) : Bool := okP xs && decide (sT xs xs.length ≤ 5)
def fm : Nat → Int
  | 0 => 1
  | j + 1 => fm j * ((j : Int) + 2)
def fT (xs : List Int) : Nat → Int
  | 0 => 1
  | i + 1 => fT xs i * fm ((gI xs i).toNat - 1)
theorem fm_bd : ∀ j, j ≤ 4 → 1 ≤ fm j ∧ fm j ≤ 120 := by decide
theorem fm_pow : ∀ n, n ≤ 5 → fm (n - 1) ≤ 5 ^ n := by decide
theorem mul_le2 {a b A B : Int} (h1 : 1 ≤ a) (h2 : a ≤ A) (h3 : 1 ≤ b) (h4 : b ≤ B) : 1 ≤ a * b ∧ a * b ≤ A * B := by
 have h5 := Int.mul_le_mul h2 h4 (by omega) (by omega)
 have h6 : 1 * 1 ≤ a * b := Int.mul_le_mul h1 h3 (by omega) (by omega)
 omega
theorem fT_pow {xs : List Int} (h : ∀ j, j < xs.length → 0 ≤ gI xs j ∧ gI xs j ≤ 5) : ∀ i, i ≤ xs.length → 1 ≤ fT xs i ∧ fT xs i ≤ 5 ^ (sT xs i).toNat
  | 0, _ => by show (1 : Int) ≤ 1 ∧ (1 : Int) ≤ 5 ^ (0 : Int).toNat; decide
  | i + 1, hi => by
    have h1 := fT_pow h i (by omega)
    have h2 := h i (by omega)
    have h3 := sT_bd h i (by omega)
    have h4 := fm_bd ((gI xs i).toNat - 1) (by omega)
    have h5 := fm_pow (gI xs i).toNat (by omega)
    have h6 := mul_le2 h1.1 h1.2 h4.1 h5
    refine ⟨h6.1, ?_⟩
    show fT xs i * fm _ ≤ 5 ^ (sT xs i + gI xs i).toNat
    rw [show (sT xs i + gI xs i).toNat = (sT xs i).toNat + (gI xs i).toNat by omega, Int.pow_add]
    exact h6.2
theorem fT_bd {xs : List Int} (h : okP xs = true) (h5 : sT xs xs.length ≤ 5) {i : Nat} (hi : i ≤ xs.length) : 1 ≤ fT xs i ∧ fT xs i ≤ 3125 := by
 have hh : ∀ j, j < xs.length → 0 ≤ gI xs j ∧ gI xs j ≤ 5 := fun j hj => okP_at h hj
 have h1 := fT_pow hh i hi
 have h2 := sT_mono hh xs.length hi (Nat.le_refl _)
 have h3 := sT_bd hh i hi
 refine ⟨h1.1, ?_⟩
 have key : ∀ n, n ≤ 5 → (5 : Int) ^ n ≤ 3125 := by decide
 have := key (sT xs i).toNat (by omega)
 omega
theorem fv_bd {xs : List Int} (h : okP xs = true) (h5 : sT xs xs.length ≤ 5) {i m : Nat} (hi : i ≤ xs.length) (hm : m ≤ 4) {v : Int} (hv : fT xs i * fm m = v) : 1 ≤ v ∧ v ≤ 375000 ∧ 1 ≤ v * ((m : Int) + 2) ∧ v * ((m : Int) + 2) ≤ 2250000 := by
 have h1 := fT_bd h h5 hi
 have h2 := fm_bd m hm
 have h3 := mul_le2 h1.1 h1.2 h2.1 h2.2
 rw [hv] at h3
 have h4 := mul_le2 (a := v) (b := (m : Int) + 2) (A := 375000) (B := 6) h3.1 (by omega) (by omega) (by omega)
 omega
def modes (xs : List Int) : Nat → List Int
  | 0 => []
  | i + 1 => modes xs i ++ List.replicate (gI xs i).toNat (i : Int)
theorem modes_len {xs : List Int} (h : ∀ j, j < xs.length → 0 ≤ gI xs j ∧ gI xs j ≤ 5) : ∀ i, i ≤ xs.length → ((modes xs i).length : Int) = sT xs i
  | 0, _ => rfl
  | i + 1, hi => by
    have h1 := modes_len h i (by omega)
    have h2 := h i (by omega)
    show ((modes xs i ++ List.replicate _ _).length : Int) = sT xs i + gI xs i
    rw [List.length_append, List.length_replicate]
    omega
theorem modes_mem {xs : List Int} : ∀ {i : Nat} {m : Int}, m ∈ modes xs i → 0 ≤ m ∧ m < i
  | 0, m, h => by simp [modes] at h
  | i + 1, m, h => by
    rcases List.mem_append.1 (show m ∈ modes xs i ++ _ from h) with h1 | h1
    · have := modes_mem h1; omega
    · have := List.eq_of_mem_replicate h1; omega
set_option maxHeartbeats 1000000
def mdN (o : List Int) : List Nat := (modes o o.length).map Int.toNat
def seqL (N : Nat) : Nat → List (List Nat)
  | 0 => [[]]
  | p + 1 => (List.range N).flatMap fun r => (seqL N p).map fun R => r :: R
theorem slQ_map {α β : Type} (g : α → β) (f : β → Q4) : ∀ l : List α, slQ (l.map g) f = slQ l fun x => f (g x)
  | [] => rfl
  | x :: t => by
    show f (g x) + slQ (t.map g) f = _
    rw [slQ_map g f t]; rfl
theorem slQ_flatMap {α β : Type} (g : α → List β) (f : β → Q4) : ∀ l : List α, slQ (l.flatMap g) f = slQ l fun x => slQ (g x) f
  | [] => rfl
  | x :: t => by
    rw [List.flatMap_cons, slQ_app, slQ_flatMap g f t]; rfl
theorem slQ_rep {α : Type} (x : α) (f : α → Q4) : ∀ n, slQ (List.replicate n x) f = qna n * f x
  | 0 => (Q4.zero_mul _).symm
  | n + 1 => by
    show f x + slQ (List.replicate n x) f = (qna n + 1) * f x
    rw [slQ_rep x f n, Q4.add_mul, Q4.one_mul, Q4.add_comm]
theorem slQ_perm {α : Type} (f : α → Q4) {l l' : List α} (h : l.Perm l') : slQ l f = slQ l' f := by
 induction h with
 | nil => rfl
 | cons x h ih => show f x + _ = f x + _; rw [ih]
 | swap x y t => show f y + (f x + slQ t f) = f x + (f y + slQ t f); rw [← Q4.add_assoc, ← Q4.add_assoc, Q4.add_comm (f y)]
 | trans _ _ ih1 ih2 => exact ih1.trans ih2
theorem slQ_mul {α : Type} (c : Q4) (f : α → Q4) : ∀ l : List α, slQ l (fun x => c * f x) = c * slQ l f
  | [] => (Q4.mul_zero c).symm
  | x :: t => by
    show c * f x + slQ t (fun x => c * f x) = c * (f x + slQ t f)
    rw [slQ_mul c f t, Q4.mul_add]
theorem sqN_list {N : Nat} : ∀ (p : Nat) (F : List Nat → Q4), sqN N p F = slQ (seqL N p) F
  | 0, F => (Q4.add_zero _).symm
  | p + 1, F => by
    show sumQ N (fun r => sqN N p fun R => F (r :: R)) = _
    unfold seqL
    rw [slQ_flatMap, slQ_range]
    exact sumQ_congr fun r _ => by rw [sqN_list p, slQ_map]
theorem seqL_len {N : Nat} : ∀ (p : Nat) (R : List Nat), R ∈ seqL N p → R.length = p
  | 0, R, h => by
    obtain rfl : R = [] := by simpa [seqL] using h
    rfl
  | p + 1, R, h => by
    obtain ⟨r, -, h1⟩ := List.mem_flatMap.1 h
    obtain ⟨R', h2, rfl⟩ := List.mem_map.1 h1
    simp [seqL_len p R' h2]
theorem seqL_mem {N : Nat} : ∀ (p : Nat) (R : List Nat), R.length = p → (∀ x ∈ R, x < N) → R ∈ seqL N p
  | 0, R, h, _ => by
    obtain rfl : R = [] := List.length_eq_zero_iff.1 h
    simp [seqL]
  | p + 1, [], h, _ => by simp at h
  | p + 1, r :: R, h, hN => List.mem_flatMap.2 ⟨r, by simpa using hN r (by simp), List.mem_map.2 ⟨R, seqL_mem p R (by simpa using h) (fun x hx => hN x (by simp [hx])), rfl⟩⟩
def cnN (N : Nat) (R : List Nat) : List Nat := (List.range N).flatMap fun i => List.replicate (R.count i) i
def muN (o : List Int) : Nat := fcN (mdN o).length / mfN (mdN o)
def chkQ (N p : Nat) : Bool := (seqL N p).all (fun R => R.isPerm (cnN N R)) && ((seqL N p).map (cnN N)).isPerm ((pats N p).flatMap fun o => List.replicate (muN o) (mdN o))
theorem chkQ_ok {N p : Nat} (h1 : 1 ≤ N) (h4 : N ≤ 4) (hp : p ≤ 3) : chkQ N p = true := by
 rcases (by omega : N = 1 ∨ N = 2 ∨ N = 3 ∨ N = 4) with rfl | rfl | rfl | rfl <;> rcases (by omega : p = 0 ∨ p = 1 ∨ p = 2 ∨ p = 3) with rfl | rfl | rfl | rfl <;> decide +kernel
theorem sq_pats {N p : Nat} (h : chkQ N p = true) {F : List Nat → Q4} (hF : ∀ R R', R.length = p → R.Perm R' → F R = F R') : sqN N p F = slQ (pats N p) fun o => qna (muN o) * F (mdN o) := by
 unfold chkQ at h
 obtain ⟨ha, hb⟩ := Bool.and_eq_true_iff.1 h
 rw [sqN_list]
 have h1 : slQ (seqL N p) F = slQ ((seqL N p).map (cnN N)) F := by
  rw [slQ_map]
  exact slQ_congr _ fun R hR => hF R _ (seqL_len p R hR) (List.isPerm_iff.1 (List.all_eq_true.1 ha R hR))
 rw [h1, slQ_perm F (List.isPerm_iff.1 hb), slQ_flatMap]
 exact slQ_congr _ fun o _ => slQ_rep _ _ _
def chkO (N p : Nat) : Bool := (pats N p).all fun o => decide (o.length = N) && okP o && decide (sT o o.length = p) && decide (fT o o.length = mfN (mdN o)) && decide ((mdN o).length = p) && (mdN o).all (fun x => decide (x < N)) && (pats N p).all fun i =>
  decide (36 % (mfN (mdN i) * mfN (mdN o)) = 0) && decide (36 / (fcN p * mfN (mdN i)) * (fcN p * mfN (mdN i)) = 36) && decide (36 / (fcN p * mfN (mdN i)) * muN o = 36 / (mfN (mdN i) * mfN (mdN o))) && decide (1 ≤ mfN (mdN i) * mfN (mdN o)) && decide (mfN (mdN i) * mfN (mdN o) ≤ 36)
theorem chkO_ok {N p : Nat} (h1 : 1 ≤ N) (h4 : N ≤ 4) (hp : p ≤ 3) : chkO N p = true := by
 rcases (by omega : N = 1 ∨ N = 2 ∨ N = 3 ∨ N = 4) with rfl | rfl | rfl | rfl <;> rcases (by omega : p = 0 ∨ p = 1 ∨ p = 2 ∨ p = 3) with rfl | rfl | rfl | rfl <;> decide +kernel
def chkI (N : Nat) : Bool := (seqL 4 N).all fun R => let o := R.map Int.ofNat; !decide (sT o o.length ≤ 3) || (pats N (sT o o.length).toNat).contains o
theorem chkI_ok {N : Nat} (h1 : 1 ≤ N) (h4 : N ≤ 4) : chkI N = true := by
 rcases (by omega : N = 1 ∨ N = 2 ∨ N = 3 ∨ N = 4) with rfl | rfl | rfl | rfl <;> decide +kernel
theorem in_pats {N : Nat} {o : List Int} (h1 : 1 ≤ N) (h4 : N ≤ 4) (hl : o.length = N) (hb : ∀ i, i < N → 0 ≤ gI o i ∧ gI o i ≤ 3) (hs : sT o o.length ≤ 3) : o ∈ pats N (sT o o.length).toNat := by
 have hm : ∀ x ∈ o, 0 ≤ x ∧ x ≤ 3 := fun x hx => by
  obtain ⟨i, hi⟩ := List.mem_iff_getElem?.1 hx
  have hlt : i < N := by
   rcases Nat.lt_or_ge i o.length with h | h
   ·omega
   ·rw [List.getElem?_eq_none h] at hi; cases hi
  have := hb i hlt
  unfold gI at this
  rwa [List.getD_eq_getElem?_getD, hi] at this
 have he : (o.map Int.toNat).map Int.ofNat = o := by
  rw [List.map_map]
  conv => rhs; rw [← List.map_id o]
  exact List.map_congr_left fun x hx => by
   have := hm x hx
   show ((x.toNat : Nat) : Int) = x
   omega
 have hR := seqL_mem (N := 4) N (o.map Int.toNat) (by simpa using hl) (fun x hx => by
  obtain ⟨y, hy, rfl⟩ := List.mem_map.1 hx
  have := hm y hy
  omega)
 have hc := List.all_eq_true.1 (chkI_ok h1 h4) _ hR
 rw [he] at hc
 simpa [hs] using hc
structure PatO (N p : Nat) (o : List Int) : Prop where
  len : o.length = N
  ok : okP o = true
  sum : sT o o.length = p
  fac : fT o o.length = mfN (mdN o)
  mlen : (mdN o).length = p
  lt : ∀ x ∈ mdN o, x < N
theorem pat_o {N p : Nat} (h1 : 1 ≤ N) (h4 : N ≤ 4) (hp : p ≤ 3) {o : List Int} (ho : o ∈ pats N p) : PatO N p o := by
 have h := List.all_eq_true.1 (chkO_ok h1 h4 hp) o ho
 simp only [Bool.and_eq_true, decide_eq_true_eq] at h
 obtain ⟨⟨⟨⟨⟨⟨a, b⟩, c⟩, d⟩, e⟩, f⟩, -⟩ := h
 exact ⟨a, b, c, d, e, fun x hx => by simpa using List.all_eq_true.1 f x hx⟩
theorem pat_io {N p : Nat} (h1 : 1 ≤ N) (h4 : N ≤ 4) (hp : p ≤ 3) {o i : List Int} (ho : o ∈ pats N p) (hi : i ∈ pats N p) :
    36 % (mfN (mdN i) * mfN (mdN o)) = 0 ∧ 36 / (fcN p * mfN (mdN i)) * (fcN p * mfN (mdN i)) = 36 ∧ 36 / (fcN p * mfN (mdN i)) * muN o = 36 / (mfN (mdN i) * mfN (mdN o)) ∧ 1 ≤ mfN (mdN i) * mfN (mdN o) ∧ mfN (mdN i) * mfN (mdN o) ≤ 36 := by
  have h := List.all_eq_true.1 (chkO_ok h1 h4 hp) o ho
  rw [Bool.and_eq_true] at h
  have h2 := List.all_eq_true.1 h.2 i hi
  simp only [Bool.and_eq_true, decide_eq_true_eq] at h2
  obtain ⟨⟨⟨⟨a, b⟩, c⟩, d⟩, e⟩ := h2
  exact ⟨a, b, c, d, e⟩
theorem all_36 {N p : Nat} {a : Nat → Nat → Q4} (h1 : 1 ≤ N) (h4 : N ≤ 4) (hp : p ≤ 3) (hu : UnC N a) {i : List Int} (hi : i ∈ pats N p) :
    slQ (pats N p) (fun o => (pm a (mdN o) (mdN i) * Q4.conj (pm a (mdN o) (mdN i))) * qna (36 / (mfN (mdN i) * mfN (mdN o)))) = qna 36 := by
  have hI := pat_o h1 h4 hp hi
  have e1 := sq_perm hu p (mdN i) hI.mlen hI.lt
  rw [sq_pats (chkQ_ok h1 h4 hp) (fun R R' hR hq => by rw [pm_rows' a hq (hR.trans hI.mlen.symm)])] at e1
  have e2 : ∀ o ∈ pats N p, (pm a (mdN o) (mdN i) * Q4.conj (pm a (mdN o) (mdN i))) * qna (36 / (mfN (mdN i) * mfN (mdN o))) = qna (36 / (fcN p * mfN (mdN i))) * (qna (muN o) * (pm a (mdN o) (mdN i) * Q4.conj (pm a (mdN o) (mdN i)))) := fun o ho => by
    rw [← (pat_io h1 h4 hp ho hi).2.2.1, qna_mul, ← Q4.mul_assoc (qna _) (qna _), Q4.mul_comm]
  rw [slQ_congr _ e2, slQ_mul, e1, ← qna_mul, (pat_io h1 h4 hp hi hi).2.1]
section
variable {P : Program} {ops : Array Oper} {Q : Exit → Act → World → Prop} {B : World} {F : List Nat} {z : List Blk} {fuel : Nat} {listed : Array Bool} {a : Act} {s : List Blk}
def RT (P : Program) (ops : Array Oper) (Q : Exit → Act → World → Prop) (B : World) (F : List Nat) (z : List Blk) (fuel : Nat) (listed : Array Bool) (a : Act) (s : List Blk) : Prop :=
  ∀ w, Kn B F s w → wpT P .any ops Q (Kn B F z) fuel listed a w
abbrev QT (P : Program) (ops : Array Oper) (Q : Exit → Act → World → Prop) (B : World) (F : List Nat) (z : List Blk) (fuel : Nat) (listed : Array Bool) : Exit → Act → World → Prop :=
  Exit.then (fun a' w' => Kn B F z w' ∧ wpT P .any ops Q (Kn B F z) fuel listed a' w') Q
theorem ek_rt (hz : z.Sublist s) (h : RT P ops Q B F z fuel listed a s) : Ek B F (QT P ops Q B F z fuel listed) .normal a s := fun w K => ⟨K.sub hz, h w K⟩
theorem rt_soft {i : Nat} {o : Oper} (ho : ops[i]? = some o) (hB : (Region.noSelect ops && (Region.free .any ops listed i && (Region.ready .any ops listed).contains i)) = true)
    (hQ : ∀ c d v a w, Q (.panic c) (Act.put a d v) w → Q (.panic c) a w) (hz : z.Sublist s)
    (h : Rg none P ops (QT P ops Q B F z fuel (listed.setIfInBounds i true)) B F (some (z, z)) [(o, 0)] a s) : RT P ops Q B F z (fuel + 1) listed a s := fun w K => by
  obtain ⟨v, hy, hk⟩ := h
  simp only [Bool.and_eq_true] at hB
  exact wpAnyH_take ho hB.1 hB.2.1 hB.2.2 (fun c a w => hQ c _ _ a w) hy (K.sub hz) (hk w K).2
theorem hop_panic {Q1 : Exit → Act → World → Prop} (hq : ∀ c a w, Q1 (.panic c) a w → Q (.panic c) a w) (hq' : LetsOut Q1 → LetsOut Q) {K : Act → World → Prop} {o : Oper} {w : World} (h : hop P ops Q1 K o a w) : hop P ops Q K o a w := by
 unfold hop at *
 split
 ·rename_i hw
  rw [if_pos hw] at h
  unfold Oper.wp at *
  generalize (execOp a.eval o).run P w = r at *
  cases r with
  | ok n w' =>
   cases n <;> simp only [Oper.upon] at h ⊢ <;>
    first
     | exact h
     | exact Calls.mono h (fun e w'' he => by cases e <;> first | exact he | exact hq _ _ _ he | exact hq' he)
  | halt x w' => cases x <;> simp only [Oper.upon] at h ⊢ <;> first | exact h | exact hq _ _ _ h | exact hq' h
 ·rename_i hw
  rw [if_neg hw] at h
  exact h
theorem rg_one {o : Oper} {listed' : Array Bool} (h : Rg none P ops (QT P ops Q B F z fuel listed') B F (some (z, z)) [(o, 1)] a s) (w : World) (K : Kn B F s w) :
    wpList P ops (Exit.then (fun a' w' => Kn B F z w' ∧ wpT P .any ops Q (Kn B F z) fuel listed' a' w') Q) [o] a w := by
  rcases h with h | ⟨hn, _⟩
  · refine hop_list (hop_mono ?_ (hop_panic (Q1 := QT P ops Q B F z fuel listed') (Q := Q) (fun c a w h => h) (fun ⟨a₀, w₀, h₀⟩ => ⟨a₀, w₀, h₀⟩) (h w K)))
    rintro a' w' ⟨s', K', _, h'⟩
    exact h' w' K'
  · cases hn
theorem rt_hard1 {i : Nat} {o : Oper} (hr : Region.ready .any ops listed = [i]) (ho : ops[i]? = some o)
    (h : Rg none P ops (QT P ops Q B F z fuel (listed.setIfInBounds i true)) B F (some (z, z)) [(o, 1)] a s) : RT P ops Q B F z (fuel + 1) listed a s := fun w K => tr_hard1 hr ho (rg_one h w K)
theorem rt_hard2 {i j : Nat} {o u : Oper} (hr : Region.ready .any ops listed = [i, j]) (ho : ops[i]? = some o) (hu : ops[j]? = some u)
    (h : Rg none P ops (QT P ops Q B F z fuel (listed.setIfInBounds i true)) B F (some (z, z)) [(o, 1)] a s)
    (h' : Rg none P ops (QT P ops Q B F z fuel (listed.setIfInBounds j true)) B F (some (z, z)) [(u, 1)] a s) : RT P ops Q B F z (fuel + 1) listed a s := fun w K => tr_hard2 hr ho hu (rg_one h w K) (rg_one h' w K)
theorem ek_perm {e : Exit} {s' : List Blk} (hs : s.Perm s') (h : Ek B F Q e a s') : Ek B F Q e a s := fun w K => h w (K.perm hs)
theorem perm_at {b : Blk} {l r t : List Blk} (h : (l ++ r).Perm t) : (l ++ b :: r).Perm (b :: t) := List.perm_middle.trans (h.cons b)
theorem perm_atU {u l r t : List Blk} (h : (l ++ r).Perm t) : (l ++ (u ++ r)).Perm (u ++ t) :=
  (List.perm_append_comm_assoc l u r).trans (h.append_left u)
theorem rt_nil (hr : (Region.ready .any ops listed).isEmpty = true) (h : Ek B F Q .normal a s) : RT P ops Q B F z 0 listed a s := fun w K => tr_nil hr (h w K)
theorem wk_rt {id : Nat} {l : List Oper} (z : List Blk) (hm : P.follows .mixedOrders = true) (hz : z.Sublist s) (h : RT P l.toArray Q B F z l.length (Array.replicate l.length false) a s) :
    Wk none P B F Q a s (Code.region id l.toArray true) := fun w K => wpIn_wide.2 (wp_region_tr (Kn B F z) hm (by simpa using h w.drew K.drew))
end
section
variable {R : Option Nat} {P : Program} {ops : Array Oper} {Q : Exit → Act → World → Prop} {B : World} {F : List Nat} {fuel : Nat} {listed : Array Bool} {a : Act} {s : List Blk}
def RR (R : Option Nat) (P : Program) (ops : Array Oper) (Q : Exit → Act → World → Prop) (B : World) (F : List Nat) (fuel : Nat) (listed : Array Bool) (a : Act) (s : List Blk) : Prop :=
  ∀ w, Kn B F s w → wpAnyIn (FR R) 0 P .any ops Q fuel listed a w
abbrev QR (R : Option Nat) (P : Program) (ops : Array Oper) (Q : Exit → Act → World → Prop) (fuel : Nat) (listed : Array Bool) : Exit → Act → World → Prop :=
  Exit.then (wpAnyIn (FR R) 0 P .any ops Q fuel listed) Q
theorem ek_rr (h : RR R P ops Q B F fuel listed a s) : Ek B F (QR R P ops Q fuel listed) .normal a s := h
theorem oper_out {K : Act → World → Prop} {o : Oper} {w : World} (h : o.wpIn (FR R) 0 P a w K (Exit.then K Q)) : o.wpIn (FR R) 0 P a w K Q := by
 unfold Oper.wpIn at *
 refine ⟨h.1, ?_⟩
 have h := h.2
 generalize (o.semAt (FR R).round a.eval).run P w = r at *
 cases r with
 | ok n w' =>
  cases n <;> simp only [Oper.uponIn] at h ⊢ <;>
   first
    | exact h
    | exact ⟨h.1, CallsIn.mono h.2 (fun e w'' he => by cases e <;> first | exact he | (obtain ⟨a₀, w₀, h₀⟩ := he; exact ⟨a₀, w₀, h₀⟩))⟩
    | exact ⟨h.1, RoundIn.mono h.2 (fun e w'' he => by cases e <;> first | exact he | (obtain ⟨a₀, w₀, h₀⟩ := he; exact ⟨a₀, w₀, h₀⟩))⟩
 | halt x w' => cases x <;> simp only [Oper.uponIn] at h ⊢ <;> exact h
theorem op_one {i : Nat} {o : Oper} {K : Act → World → Prop} {w : World} (ho : ops[i]? = some o) (h : wpListIn (FR R) 0 P ops (Exit.then K Q) [o] a w) : wpOpIn (FR R) 0 P ops Q i K a w := by
 unfold wpOpIn
 simp only [ho]
 unfold wpListIn at h
 split
 ·next hw =>
  rw [if_pos hw] at h
  exact oper_out h
 ·next hw =>
  rw [if_neg hw] at h
  exact h
theorem rr_step {f : Nat} {o : Oper} {listed' : Array Bool} (hd : noDefer [o] = true) (h : Rg R P ops (QR R P ops Q fuel listed') B F none [(o, f)] a s) (w : World) (K : Kn B F s w) :
    wpListIn (FR R) 0 P ops (QR R P ops Q fuel listed') [o] a w := rg_text [(o, f)] a s hd h w K
theorem any_ready {rs : List Nat} {w : World} (hr : Region.ready .any ops listed = rs) (hne : rs ≠ []) (h : ∀ i ∈ rs, wpOpIn (FR R) 0 P ops Q i (wpAnyIn (FR R) 0 P .any ops Q fuel (listed.setIfInBounds i true)) a w) : wpAnyIn (FR R) 0 P .any ops Q (fuel + 1) listed a w :=
  ⟨fun h0 => absurd (hr ▸ h0) hne, hr ▸ h⟩
theorem rr_hard1 {i f : Nat} {o : Oper} (hr : Region.ready .any ops listed = [i]) (ho : ops[i]? = some o) (hd : noDefer [o] = true)
    (h : Rg R P ops (QR R P ops Q fuel (listed.setIfInBounds i true)) B F none [(o, f)] a s) : RR R P ops Q B F (fuel + 1) listed a s := fun w K =>
  any_ready hr (by simp) fun k hk => by
    obtain rfl : k = i := by simpa using hk
    exact op_one ho (rr_step hd h w K)
theorem rr_hard2 {i j f g : Nat} {o u : Oper} (hr : Region.ready .any ops listed = [i, j]) (ho : ops[i]? = some o) (hu : ops[j]? = some u) (hd : noDefer [o] = true) (hd' : noDefer [u] = true)
    (h : Rg R P ops (QR R P ops Q fuel (listed.setIfInBounds i true)) B F none [(o, f)] a s)
    (h' : Rg R P ops (QR R P ops Q fuel (listed.setIfInBounds j true)) B F none [(u, g)] a s) : RR R P ops Q B F (fuel + 1) listed a s := fun w K =>
  any_ready hr (by simp) fun k hk => by
    rcases (by simpa using hk : k = i ∨ k = j) with rfl | rfl
    · exact op_one ho (rr_step hd h w K)
    · exact op_one hu (rr_step hd' h' w K)
theorem rr_hard3 {i j k f g e : Nat} {o u v : Oper} (hr : Region.ready .any ops listed = [i, j, k]) (ho : ops[i]? = some o) (hu : ops[j]? = some u) (hv : ops[k]? = some v) (hd : noDefer [o] = true) (hd' : noDefer [u] = true) (hd'' : noDefer [v] = true)
    (h : Rg R P ops (QR R P ops Q fuel (listed.setIfInBounds i true)) B F none [(o, f)] a s)
    (h' : Rg R P ops (QR R P ops Q fuel (listed.setIfInBounds j true)) B F none [(u, g)] a s)
    (h'' : Rg R P ops (QR R P ops Q fuel (listed.setIfInBounds k true)) B F none [(v, e)] a s) : RR R P ops Q B F (fuel + 1) listed a s := fun w K =>
  any_ready hr (by simp) fun x hx => by
    rcases (by simpa using hx : x = i ∨ x = j ∨ x = k) with rfl | rfl | rfl
    · exact op_one ho (rr_step hd h w K)
    · exact op_one hu (rr_step hd' h' w K)
    · exact op_one hv (rr_step hd'' h'' w K)
theorem rr_nil (hr : (Region.ready .any ops listed).isEmpty = true) (h : Ek B F Q .normal a s) : RR R P ops Q B F 0 listed a s := fun w K => ⟨by simpa using hr, h w K⟩
theorem wk_rr {id : Nat} {l : List Oper} (hm : P.follows .mixedOrders = true) (h : RR R P l.toArray Q B F l.length (Array.replicate l.length false) a s) :
    Wk R P B F Q a s (Code.region id l.toArray true) := fun w K => wpIn_region_any hm (by
      have := h w.drew K.drew
      simpa using this)
end
namespace CV
section
variable {R : Option Nat} {P : Program} {ops : Array Oper} {Q : Exit → Act → World → Prop} {B : World} {F : List Nat} {s0 : Option (List Blk × List Blk)}
variable {l : List (Oper × Nat)} {a : Act} {s : List Blk} {d : Option Tmp} {t : TypeId} {p : String} {af : Array Edge}
theorem rg_callV {fo : Operand} {f : Nat} {cargs : Array Operand} {at_ : Array TypeId} {caps vs : Array Value} {v : Value} {gd : Option (Nat × Bool)} (hg : Region.wanted ⟨d, .call ⟨.value fo, cargs, at_⟩, t, p, af, gd⟩ (yielded ops a.tmps) = true)
    (hf : a.eval fo = .func (.func f) #[] caps) (hgo : isGo P f = true) (hargs : cargs.map a.eval = vs)
    (h : ∀ w, Kn B F s w → Calls P f (vs ++ caps) w (fun e w' => e = .returned v ∧ Below w.heap.size w w'))
    (hz : ∀ z ∈ s0, z.1.Sublist s) (k : Rg R P ops Q B F s0 l (a.put d v) s) :
    Rg R P ops Q B F s0 ((⟨d, .call ⟨.value fo, cargs, at_⟩, t, p, af, gd⟩, 1) :: l) a s := by
  refine .inl fun w K => ?_
  unfold hop
  rw [if_pos hg]
  unfold Oper.wp
  have hr : (execOp a.eval ⟨d, .call ⟨.value fo, cargs, at_⟩, t, p, af, gd⟩).run P w = .ok (.enter f (vs ++ caps)) w := by
    have hx : execOp a.eval ⟨d, .call ⟨.value fo, cargs, at_⟩, t, p, af, gd⟩ = (do let d ← resolve a.eval ⟨.value fo, cargs, at_⟩ t; invoke d.target d.args) := rfl
    have hv : (resolve a.eval ⟨.value fo, cargs, at_⟩ t) = pure { target := .fn (.func f) caps, args := #[] ++ vs } := by
      simp only [resolve, hf, hargs, Deferred.ofValue]
    rw [hx, hv]
    have : (#[] ++ vs : Array Value) = vs := by simp
    rw [this]
    exact run_callFunc_go hgo _ w
  rw [hr]
  refine (h w K).mono fun e w' ⟨he, hb⟩ => ?_
  subst he
  exact ⟨s, K.call hb, hz, k⟩
theorem rg_callVb {fo : Operand} {f : Nat} {cargs : Array Operand} {at_ : Array TypeId} {caps vs : Array Value} {b : Bool} {gd : Option (Nat × Bool)} (hg : Region.wanted ⟨d, .call ⟨.value fo, cargs, at_⟩, t, p, af, gd⟩ (yielded ops a.tmps) = true)
    (hf : a.eval fo = .func (.func f) #[] caps) (hgo : isGo P f = true) (hargs : cargs.map a.eval = vs)
    (h : ∀ w, Kn B F s w → Calls P f (vs ++ caps) w (fun e w' => e = .returned (.bool b) ∧ Below w.heap.size w w'))
    (hz : ∀ z ∈ s0, z.1.Sublist s) (k : ∀ x, b = x → Rg R P ops Q B F s0 l (a.put d (.bool x)) s) :
    Rg R P ops Q B F s0 ((⟨d, .call ⟨.value fo, cargs, at_⟩, t, p, af, gd⟩, 1) :: l) a s := rg_callV hg hf hgo hargs h hz (k b rfl)
end
end CV
theorem setMany_list : ∀ (vs l : List Value) (i : Nat), i + vs.length ≤ l.length → setMany l.toArray i vs = (l.take i ++ (vs ++ l.drop (i + vs.length))).toArray
  | [], l, i, _ => by
    show l.toArray = (l.take i ++ ([] ++ l.drop (i + 0))).toArray
    rw [List.nil_append, Nat.add_zero, List.take_append_drop]
  | v :: vs, l, i, h => by
    have hi : i < l.length := by simp at h; omega
    have e1 : l.toArray.setIfInBounds i v = (l.set i v).toArray := by simp
    rw [setMany, e1, setMany_list vs (l.set i v) (i + 1) (by simp at h ⊢; omega)]
    congr 1
    have e2 : (l.set i v).take (i + 1) = l.take i ++ [v] := by
      rw [List.take_add_one, List.take_set_of_le (Nat.le_refl i), List.getElem?_set_self hi]
      rfl
    have e3 : (l.set i v).drop (i + 1 + vs.length) = l.drop (i + (v :: vs).length) := by
      rw [List.drop_set_of_lt Ox]
      congr 1
      simp only [List.length_cons]; omega
    rw [e2, e3, List.append_assoc]
    rfl
section
variable {α : Type} {E : El α}
theorem El.row_get : ∀ (xs : List α) (rest : List Value) (k : Nat), k < xs.length → ((E.flat xs ++ rest).drop (k * E.sz)).take E.sz = E.ec (E.at xs k)
  | [], _, k, h => by simp at h
  | x :: t, rest, 0, _ => by
    rw [El.flat_cons, Nat.zero_mul, List.drop_zero, List.append_assoc, List.take_append_of_le_length (by rw [E.len]; exact Nat.le_refl _), List.take_of_length_le (by rw [E.len]; exact Nat.le_refl _)]
    rfl
  | x :: t, rest, k + 1, h => by
    have e : (k + 1) * E.sz = (E.ec x).length + k * E.sz := by rw [E.len, Nat.add_mul]; omega
    rw [El.flat_cons, List.append_assoc, e, List.drop_append, List.drop_eq_nil_of_le Ox, List.nil_append, Nat.add_sub_cancel_left, El.row_get t rest k (by simpa using h)]
    rfl
theorem fl_range {w : World} {g t k : Nat} {xs : List α} {rest : List Value} (h : Hd w g t (E.flat xs ++ rest).toArray) (hk : k < xs.length) : w.rangeAt g (0 + k * E.sz) (E.ec (E.at xs k)) := by
 have := cells_range h (0 + k * E.sz) E.sz
 rw [Nat.zero_add] at this ⊢
 have e : (((E.flat xs ++ rest).toArray.toList.drop (k * E.sz)).take E.sz) = E.ec (E.at xs k) := El.row_get xs rest k hk
 rwa [e] at this
theorem El.flat_set : ∀ (xs : List α) (k : Nat) (y : α) (rest : List Value), k < xs.length → (E.flat xs ++ rest).take (k * E.sz) ++ (E.ec y ++ (E.flat xs ++ rest).drop (k * E.sz + E.sz)) = E.flat (xs.set k y) ++ rest
  | [], k, _, _, h => by simp at h
  | x :: t, 0, y, rest, _ => by
    have hx := E.len x
    rw [List.set_cons_zero, El.flat_cons, El.flat_cons, Nat.zero_mul, List.take_zero, List.nil_append, Nat.zero_add, List.append_assoc, List.append_assoc, ← hx, List.drop_left]
  | x :: t, k + 1, y, rest, h => by
    have hx := E.len x
    have e : (k + 1) * E.sz = (E.ec x).length + k * E.sz := by rw [hx, Nat.add_mul]; omega
    rw [List.set_cons_succ, El.flat_cons, El.flat_cons, List.append_assoc, List.append_assoc, e, List.take_length_add_append, List.append_assoc, Nat.add_assoc, List.drop_length_add_append, El.flat_set t k y rest (by simpa using h)]
theorem fl_set {xs : List α} {k : Nat} {y : α} {rest : List Value} (hk : k < xs.length) : setMany (E.flat xs ++ rest).toArray (0 + k * E.sz) (E.ec y) = (E.flat (xs.set k y) ++ rest).toArray := by
 have hl := E.flat_len xs
 have hb := Nat.mul_le_mul_right E.sz (show k + 1 ≤ xs.length by omega)
 rw [Nat.add_mul, Nat.one_mul] at hb
 rw [Nat.zero_add, setMany_list _ _ _ (by rw [E.len, List.length_append]; omega), E.len, El.flat_set xs k y rest hk]
theorem fl_size {xs : List α} {k : Nat} {rest : List Value} {y : α} (hk : k < xs.length) : 0 + k * E.sz + (E.ec y).length ≤ ((E.flat xs ++ rest).toArray).size := by
 have hl := E.flat_len xs
 have hb := Nat.mul_le_mul_right E.sz (show k + 1 ≤ xs.length by omega)
 rw [Nat.add_mul, Nat.one_mul] at hb
 rw [E.len]
 simp only [List.size_toArray, List.length_append]
 omega
theorem El.at_set (xs : List α) (k j : Nat) (y : α) (hk : k < xs.length) : E.at (xs.set k y) j = if j = k then y else E.at xs j := by
 unfold El.at
 rw [List.getD_eq_getElem?_getD, List.getElem?_set, List.getD_eq_getElem?_getD]
 by_cases h : k = j
 ·subst h; rw [if_pos rfl, if_pos hk, if_pos rfl]; rfl
 ·rw [if_neg h, if_neg (fun e => h e.symm)]
theorem made_fl (x : α) (n : Nat) : madeCells (E.ec x).toArray (n * E.sz) = (E.flat (List.replicate n x)).toArray := by
 have hp := E.pos
 refine Array.ext (by rw [size_madeCells]; simp [El.flat_len]) fun i h1 h2 => ?_
 rw [size_madeCells] at h1
 have hq : i / E.sz < n := Nat.div_lt_of_lt_mul (by rw [Nat.mul_comm]; exact h1)
 have hr : i % E.sz < E.sz := Nat.mod_lt _ hp
 have hg := E.get (List.replicate n x) (i / E.sz) (i % E.sz) (by simpa using hq) hr
 have hi : i / E.sz * E.sz + i % E.sz = i := by rw [Nat.mul_comm]; exact Nat.div_add_mod i E.sz
 have ha : E.at (List.replicate n x) (i / E.sz) = x := by
  unfold El.at
  rw [List.getD_eq_getElem?_getD, List.getElem?_replicate, if_pos hq]
  rfl
 rw [hi, ha] at hg
 have hx : i % E.sz < (E.ec x).length := by rw [E.len]; exact hr
 have e1 : (E.flat (List.replicate n x))[i]? = some ((E.ec x)[i % E.sz]) := by rw [hg, List.getElem?_eq_getElem hx]
 have hl : i < (E.flat (List.replicate n x)).length := by simpa using h2
 have e2 : (E.flat (List.replicate n x))[i] = (E.ec x)[i % E.sz] := by
  rw [List.getElem?_eq_getElem hl] at e1
  exact Option.some.inj e1
 simp only [List.getElem_toArray]
 rw [e2]
 unfold madeCells
 simp only [Array.getElem_map, Array.getElem_range, List.size_toArray, E.len]
 rw [getElem!_pos _ _ (by simpa [E.len] using hr)]
 rfl
end
theorem numInfo : (Tryz.prog.info? 44).map (fun i => (i.zero, i.size, i.bytes)) = some (some (.agg #[.int .i64 0, .int .i64 0, .int .i64 0, .int .i64 0, .int .i64 0]), 5, 40) := by kernel_rfl
theorem info_partsN {α β γ : Type} {o : Option TypeInfo} {f : TypeInfo → α} {g : TypeInfo → β} {h : TypeInfo → γ} {x : α} {y : β} {z : γ} (e : o.map (fun i => (f i, g i, h i)) = some (x, y, z)) : ∃ i, o = some i ∧ f i = x ∧ g i = y ∧ h i = z := by
 cases o with
 | none => simp at e
 | some i => simp at e; exact ⟨i, rfl, e.1, e.2.1, e.2.2⟩
abbrev OwnN (u : List Blk) (v : Value) (xs : List Nm) : Prop := OwnG NmE 44 u v xs
def RetM (w : World) (n : Int) (zs : List Nm) (c : Int) (e : Ending) (w' : World) : Prop :=
  ∃ v u, e = .returned (.tuple #[.agg #[.int .i64 n, v], .int .i64 c]) ∧ OwnN u v zs ∧ Made w u w'
def RetM1 (w : World) (n : Int) (zs : List Nm) (e : Ending) (w' : World) : Prop :=
  ∃ v u, e = .returned (.agg #[.int .i64 n, v]) ∧ OwnN u v zs ∧ Made w u w'
abbrev RetR (w : World) (N : Nat) (r : LR) (e : Ending) (w' : World) : Prop := RetM w (rN N r) (rL r) (rC r) e w'
def FnV (w : World) (fv : Value) (D : Array Value → Value → Prop) : Prop :=
  ∃ fn pre caps, fv = .func (.func fn) pre caps ∧ isGo Tryz.prog fn = true ∧ ∀ w', Below w.heap.size w w' → ∀ vs r, D vs r → Calls Tryz.prog fn (pre ++ vs ++ caps) w' fun e w'' => e = .returned r ∧ Below w'.heap.size w' w''
theorem below_trans {w w' w'' : World} (h : Below w.heap.size w w') (h' : Below w'.heap.size w' w'') : Below w.heap.size w w'' := h.trans (h'.mono h.size)
theorem FnV.below {w w' : World} {fv : Value} {D : Array Value → Value → Prop} (h : FnV w fv D) (hb : Below w.heap.size w w') : FnV w' fv D := by
 obtain ⟨fn, pre, caps, rfl, hgo, h⟩ := h
 exact ⟨fn, pre, caps, rfl, hgo, fun w1 h1 => h w1 (below_trans hb h1)⟩
abbrev D2 (N M : Nat) (f : Nat → Nat → Value) : Array Value → Value → Prop := fun vs r => ∃ i k, i < N ∧ k < M ∧ vs = #[.int .i64 (i : Int), .int .i64 (k : Int)] ∧ r = f i k
abbrev D1 (N : Nat) (f : Nat → Value) : Array Value → Value → Prop := fun vs r => ∃ i, i < N ∧ vs = #[.int .i64 (i : Int)] ∧ r = f i
section
variable {R : Option Nat} {ops : Array Oper} {Q : Exit → Act → World → Prop} {B : World} {F : List Nat} {s0 : Option (List Blk × List Blk)}
variable {l : List (Oper × Nat)} {a : Act} {s S : List Blk} {d : Option Tmp} {op : Op} {t : TypeId} {p : String} {af : Array Edge} {v : Value}
theorem rg_callF {fo : Operand} {f : Nat} {cargs : Array Operand} {at_ : Array TypeId} {pre caps vs : Array Value} {P : Program} {gd : Option (Nat × Bool)} (hg : Region.wanted ⟨d, .call ⟨.value fo, cargs, at_⟩, t, p, af, gd⟩ (yielded ops a.tmps) = true)
    (hf : a.eval fo = .func (.func f) pre caps) (hgo : isGo P f = true) (hargs : cargs.map a.eval = vs)
    (h : ∀ w, Kn B F s w → Calls P f (pre ++ vs ++ caps) w (fun e w' => ∃ v s', e = .returned v ∧ Kn B F s' w' ∧ (∀ z ∈ s0, z.1.Sublist s') ∧ Rg R P ops Q B F s0 l (a.put d v) s')) :
    Rg R P ops Q B F s0 ((⟨d, .call ⟨.value fo, cargs, at_⟩, t, p, af, gd⟩, 1) :: l) a s := by
  refine .inl fun w K => ?_
  unfold hop
  rw [if_pos hg]
  unfold Oper.wp
  have hr : (execOp a.eval ⟨d, .call ⟨.value fo, cargs, at_⟩, t, p, af, gd⟩).run P w = .ok (.enter f (pre ++ vs ++ caps)) w := by
    have hx : execOp a.eval ⟨d, .call ⟨.value fo, cargs, at_⟩, t, p, af, gd⟩ = (do let d ← resolve a.eval ⟨.value fo, cargs, at_⟩ t; invoke d.target d.args) := rfl
    have hv : (resolve a.eval ⟨.value fo, cargs, at_⟩ t) = pure { target := .fn (.func f) caps, args := pre ++ vs } := by
      simp only [resolve, hf, hargs, Deferred.ofValue]
    rw [hx, hv]
    exact run_callFunc_go hgo _ w
  rw [hr]
  refine (h w K).mono fun e w' he => ?_
  obtain ⟨v, s', rfl, K', hz, h'⟩ := he
  exact ⟨s', K', hz, h'⟩
theorem rg_fnv {fo : Operand} {cargs : Array Operand} {at_ : Array TypeId} {vs : Array Value} {fv : Value} {D : Array Value → Value → Prop} {gd : Option (Nat × Bool)} (r : Value) (hg : Region.wanted ⟨d, .call ⟨.value fo, cargs, at_⟩, t, p, af, gd⟩ (yielded ops a.tmps) = true)
    (hF : FnV B fv D) (hf : a.eval fo = fv) (hargs : cargs.map a.eval = vs) (hD : D vs r)
    (hz : ∀ z ∈ s0, z.1.Sublist s) (k : Rg R Tryz.prog ops Q B [] s0 l (a.put d r) s) : Rg R Tryz.prog ops Q B [] s0 ((⟨d, .call ⟨.value fo, cargs, at_⟩, t, p, af, gd⟩, 1) :: l) a s := by
  obtain ⟨fn, pre, caps, rfl, hgo, h⟩ := hF
  exact rg_callF hg hf hgo hargs fun w K => (h w K.below vs r hD).mono fun e w' ⟨he, hb⟩ => ⟨r, s, he, K.call hb, hz, k⟩
theorem rg_appN {so xo : Operand} {u : List Blk} {xs : List Nm} {x : Nm} {g : Nat} {gd : Option (Nat × Bool)} (hg : Region.wanted ⟨d, .call ⟨.builtin .append, #[so, xo], #[26, 26]⟩, t, p, af, gd⟩ (yielded ops a.tmps) = true)
    (hs : a.eval so = v) (hown : OwnN u v xs) (hx : a.eval xo = .slice (some ⟨g, 0, none⟩) 1 1) (hn : xs.length ≤ 10000000) (hp : S.Perm (u ++ s))
    (hnews : ∀ w, Kn B F S w → Hd w g 44 (nmC x).toArray)
    (hzz : ∀ z ∈ s0, z.1.Sublist s) (h : ∀ u' a' c', OwnN u' (.slice a' (xs.length + 1) c') (xs ++ [x]) → Rg R Tryz.prog ops Q B F s0 l (a.put d (.slice a' (xs.length + 1) c')) (u' ++ s)) :
    Rg R Tryz.prog ops Q B F s0 ((⟨d, .call ⟨.builtin .append, #[so, xo], #[26, 26]⟩, t, p, af, gd⟩, 1) :: l) a S := by
  obtain ⟨i, hi, hz, hsz, hb⟩ := info_partsN numInfo
  refine rg_append1 (E := NmE) (u := u) (s := s) (i := i) hg UU26 hi hz hsz rfl Ox hs hown hx hn hp hnews hzz fun u' v' hO => ?_
  obtain ⟨a', c', rfl, -⟩ := Own.val hO
  have e : (xs ++ [x]).length = xs.length + 1 := by simp
  rw [e] at hO ⊢
  exact h u' a' c' hO
theorem rg_retM {f : Nat} {cargs : Array Operand} {at_ : Array TypeId} {args : Array Value} {n c : Int} {zs : List Nm} {P : Program} {gd : Option (Nat × Bool)} (hg : Region.wanted ⟨d, .call ⟨.value (.func f), cargs, at_⟩, t, p, af, gd⟩ (yielded ops a.tmps) = true) (hgo : isGo P f = true)
    (h : ∀ w, Kn B F s w → Calls P f args w (RetM w n zs c)) (hargs : cargs.map a.eval = args)
    (hz : ∀ z ∈ s0, z.1.Sublist s) (k : ∀ (va : Option Addr) (vc : Nat) (u : List Blk), OwnN u (.slice va zs.length vc) zs → Rg R P ops Q B F s0 l (a.put d (.tuple #[.agg #[.int .i64 n, .slice va zs.length vc], .int .i64 c])) (u ++ s)) :
    Rg R P ops Q B F s0 ((⟨d, .call ⟨.value (.func f), cargs, at_⟩, t, p, af, gd⟩, 1) :: l) a s :=
  rg_call hg hgo hargs fun w K => (h w K).mono fun e w' ⟨v, u, he, hO, hm⟩ => by
    obtain ⟨a', c', rfl, -⟩ := Own.val hO
    exact ⟨_, u ++ s, he, K.add hm, fun z hz' => (hz z hz').trans (Sr _ _), k a' c' u hO⟩
theorem rg_retM1 {f : Nat} {cargs : Array Operand} {at_ : Array TypeId} {args : Array Value} {n : Int} {zs : List Nm} {P : Program} {gd : Option (Nat × Bool)} (hg : Region.wanted ⟨d, .call ⟨.value (.func f), cargs, at_⟩, t, p, af, gd⟩ (yielded ops a.tmps) = true) (hgo : isGo P f = true)
    (h : ∀ w, Kn B F s w → Calls P f args w (RetM1 w n zs)) (hargs : cargs.map a.eval = args)
    (hz : ∀ z ∈ s0, z.1.Sublist s) (k : ∀ (va : Option Addr) (vc : Nat) (u : List Blk), OwnN u (.slice va zs.length vc) zs → Rg R P ops Q B F s0 l (a.put d (.agg #[.int .i64 n, .slice va zs.length vc])) (u ++ s)) :
    Rg R P ops Q B F s0 ((⟨d, .call ⟨.value (.func f), cargs, at_⟩, t, p, af, gd⟩, 1) :: l) a s :=
  rg_call hg hgo hargs fun w K => (h w K).mono fun e w' ⟨v, u, he, hO, hm⟩ => by
    obtain ⟨a', c', rfl, -⟩ := Own.val hO
    exact ⟨_, u ++ s, he, K.add hm, fun z hz' => (hz z hz').trans (Sr _ _), k a' c' u hO⟩
end
theorem FnV.lit {fn : Nat} {D : Array Value → Value → Prop} {w : World} (hgo : isGo Tryz.prog fn = true) (h : ∀ w' vs r, D vs r → Calls Tryz.prog fn vs w' fun e w'' => e = .returned r ∧ Below w'.heap.size w' w'') : FnV w (.func (.func fn) #[] #[]) D :=
  ⟨fn, #[], #[], rfl, hgo, fun w' _ vs r hD => by simpa using h w' vs r hD⟩
abbrev zs (xs : List Int) : List Value := xs.map (.int .i64 ·)
theorem zInfo : (Tryz.prog.info? 3).map (fun i => (i.zero, i.size, i.bytes)) = some (some (.int .i64 0), 1, 8) := by kernel_rfl
def OwnZ (u : List Blk) (v : Value) (xs : List Int) : Prop := Own 3 1 u v xs.length (zs xs)
theorem OwnZ.one {g : Nat} (x : Int) : OwnZ [(g, .cells #[.int .i64 x] 3)] (.slice (some ⟨g, 0, none⟩) 1 1) [x] :=
  Own.whole (cur := #[.int .i64 x]) rfl (by simp only [maxLen]; omega)
theorem OwnZ.addr {u : List Blk} {av : Option Addr} {n c : Nat} {row : List Int} (h : OwnZ u (.slice av n c) row) (hn : 0 < row.length) : ∃ ad, av = some ad ∧ ∀ {B w : World} {F : List Nat} {s : List Blk}, Kn B F s w → u.Sublist s → AS w (some ad) (zs row) := by
 rcases h.2 with ⟨_, e, h0⟩ | ⟨g, cap, cur, _, e, _⟩
 ·omega
 ·cases e
  refine ⟨_, rfl, fun K hs => ?_⟩
  obtain ⟨a, cap, e, hA⟩ := Own.as (s := []) h (by rw [List.append_nil]; exact K.sub hs)
  cases e
  exact hA
theorem Own.open1 {e n : Nat} {u : List Blk} {v : Value} {xs : List Value} (h : Own e 1 u v n xs) (hn : 0 < n) : ∃ g cap rest, u = [(g, .cells (xs ++ rest).toArray e)] ∧ v = .slice (some ⟨g, 0, none⟩) n cap ∧ xs.length = n := by
 obtain ⟨hl, ⟨rfl, rfl, h0⟩ | ⟨g, cap, cur, rfl, rfl, hc, hm, hs, ht⟩⟩ := h
 ·omega
 ·refine ⟨g, cap, cur.toList.drop (n * 1), ?_, rfl, by omega⟩
  rw [← ht, List.take_append_drop]
theorem sInfo : (Tryz.prog.info? 23).map (fun i => (i.zero, i.size, i.bytes)) = some (some (.slice none 0 0), 1, 24) := by kernel_rfl
inductive RowsZ : List Blk → List Value → List (List Int) → Prop
  | nil : RowsZ [] [] []
  | snoc {us : List Blk} {hs : List Value} {rows : List (List Int)} {u : List Blk} {h : Value} {row : List Int} : RowsZ us hs rows → OwnZ u h row → RowsZ (u ++ us) (hs ++ [h]) (rows ++ [row])
theorem RowsZ.len {us : List Blk} {hs : List Value} {rows : List (List Int)} (h : RowsZ us hs rows) : hs.length = rows.length := by
 induction h with
 | nil => rfl
 | snoc _ _ ih => simp [ih]
theorem RowsZ.cells {us : List Blk} {hs : List Value} {rows : List (List Int)} (h : RowsZ us hs rows) : ∀ v ∈ hs, v.oneCell' = true := by
 induction h with
 | nil => intro v hv; simp at hv
 | snoc _ hO ih =>
  intro v hv
  rcases List.mem_append.1 hv with hv | hv
  ·exact ih v hv
  ·obtain ⟨a, c, e, _⟩ := Own.val hO
   simp at hv
   rw [hv, e]
   rfl
theorem RowsZ.as {us : List Blk} {hs : List Value} {rows : List (List Int)} (h : RowsZ us hs rows) : ∀ {B w : World} {F : List Nat} {s : List Blk}, Kn B F s w → us.Sublist s → ∀ k, k < rows.length → ∃ a c, hs[k]? = some (.slice a (rows.getD k []).length c) ∧ AS w a (zs (rows.getD k [])) := by
 induction h with
 | nil => intro B w F s K hs k hk; simp at hk
 | @snoc us hs rows u h row h0 hO ih =>
  intro B w F s K hsub k hk
  have hl := h0.len
  rcases (by simp at hk; omega : k < rows.length ∨ k = rows.length) with hk | rfl
  ·obtain ⟨a, c, h1, h2⟩ := ih K ((List.sublist_append_right _ _).trans hsub) k hk
   have e : (rows ++ [row]).getD k [] = rows.getD k [] := by rw [List.getD_eq_getElem?_getD, List.getElem?_append_left hk, ← List.getD_eq_getElem?_getD]
   rw [e]
   exact ⟨a, c, by rw [List.getElem?_append_left Ox]; exact h1, h2⟩
  ·have e : (rows ++ [row]).getD rows.length [] = row := by simp [List.getD_eq_getElem?_getD]
   rw [e]
   have K' := K.sub ((List.sublist_append_left u us).trans hsub)
   obtain ⟨a, c, e1, e2⟩ := Own.as (s := []) hO (by rw [List.append_nil]; exact K')
   refine ⟨a, c, ?_, e2⟩
   rw [List.getElem?_append_right Ox]
   simp [hl, e1]
theorem RowsZ.row {us : List Blk} {hs : List Value} {rows : List (List Int)} (h : RowsZ us hs rows) : ∀ k, k < rows.length → ∃ a c u, hs[k]? = some (.slice a (rows.getD k []).length c) ∧ OwnZ u (.slice a (rows.getD k []).length c) (rows.getD k []) ∧ u.Sublist us := by
 induction h with
 | nil => intro k hk; simp at hk
 | @snoc us hs rows u h row h0 hO ih =>
  intro k hk
  have hl := h0.len
  rcases (by simp at hk; omega : k < rows.length ∨ k = rows.length) with hk | rfl
  ·obtain ⟨a, c, u', h1, h2, h3⟩ := ih k hk
   have e : (rows ++ [row]).getD k [] = rows.getD k [] := by rw [List.getD_eq_getElem?_getD, List.getElem?_append_left hk, ← List.getD_eq_getElem?_getD]
   rw [e]
   exact ⟨a, c, u', by rw [List.getElem?_append_left Ox]; exact h1, h2, h3.trans (List.sublist_append_right _ _)⟩
  ·have e : (rows ++ [row]).getD rows.length [] = row := by simp [List.getD_eq_getElem?_getD]
   rw [e]
   obtain ⟨a, c, rfl, _⟩ := Own.val hO
   exact ⟨a, c, u, by rw [List.getElem?_append_right Ox]; simp [hl], hO, List.sublist_append_left _ _⟩
def OwnL (U : List Blk) (v : Value) (rows : List (List Int)) : Prop := ∃ u us hs, U = u ++ us ∧ Own 23 1 u v rows.length hs ∧ RowsZ us hs rows
theorem OwnL.nil : OwnL [] (.slice none 0 0) [] := ⟨[], [], [], rfl, Own.nil _ _, .nil⟩
def RetL (w : World) (rows : List (List Int)) (c : Int) (e : Ending) (w' : World) : Prop := ∃ v U, e = .returned (.tuple #[v, .int .i64 c]) ∧ OwnL U v rows ∧ Made w U w'
def RoundsP (L M lp : Nat) (r : Loop) (C : List (List Int) → List Blk → Prop) : Prop :=
  r.params.size = 1 ∧ (∀ ys s, C ys s → (lp, Obj.loop r) ∈ s) ∧
  ∀ (R : Option Nat) (B : World) (F : List Nat) (ys : List (List Int)) (row : List Int) (u : List Blk) (v : Value) (s rest : List Blk) (w : World), 0 < row.length → row.length = M → ys.length < L → C ys s → OwnZ u v row → Kn B F (u ++ (s ++ rest)) w →
    RoundIn (FR R) 0 Tryz.prog lp r.fn ((r.params.zip #[v]).foldl (fun tmps (t, a) => tmps.setIfInBounds t a) r.tmps) r.assign r.body w
      (fun e w' => ∃ s', e = .returned (.bool true) ∧ C (ys ++ [row]) s' ∧ Kn B F (s' ++ rest) w')
section
variable {R : Option Nat} {ops : Array Oper} {Q : Exit → Act → World → Prop} {B : World} {F : List Nat} {s0 : Option (List Blk × List Blk)}
variable {l lst : List (Oper × Nat)} {a : Act} {s S : List Blk} {d : Option Tmp} {op : Op} {t : TypeId} {p : String} {af : Array Edge} {v : Value}
theorem rg_yieldP {C : List (List Int) → List Blk → Prop} {L M lp : Nat} {r : Loop} {ys : List (List Int)} {row : List Int} {u sC rest : List Blk} {fo : Operand} {cargs : Array Operand} {at_ : Array TypeId} {gd : Option (Nat × Bool)}
    (hR : RoundsP L M lp r C) (hC : C ys sC) (hl0 : 0 < row.length) (hl1 : row.length = M) (hy : ys.length < L) (hO : OwnZ u v row) (hp : S.Perm (u ++ (sC ++ rest)))
    (hg : Region.wanted ⟨d, .call ⟨.value fo, cargs, at_⟩, t, p, af, gd⟩ (yielded ops a.tmps) = true)
    (hf : a.eval fo = .func (.yield lp) #[] #[]) (hargs : cargs.map a.eval = #[v])
    (h : ∀ s', C (ys ++ [row]) s' → Rg R Tryz.prog ops Q B F none lst (a.put d (.bool true)) (s' ++ rest)) :
    Rg R Tryz.prog ops Q B F none ((⟨d, .call ⟨.value fo, cargs, at_⟩, t, p, af, gd⟩, 1) :: lst) a S := by
  refine rg_yield (r := r) hg hf hargs hR.1.symm (hp.mem_iff.2 (List.mem_append_right _ (List.mem_append_left _ (hR.2.1 ys sC hC)))) fun w K => ?_
  exact (hR.2.2 R B F ys row u v sC rest w hl0 hl1 hy hC hO (K.perm hp)).mono fun e w' ⟨s', he, hC', hK⟩ => ⟨_, _, he, hK, h s' hC'⟩
theorem rg_consZ {so xo : Operand} {row : List Int} {g : Nat} {x : Int} {gd : Option (Nat × Bool)} (hg : Region.wanted ⟨d, .call ⟨.builtin .append, #[so, xo], #[23, 23]⟩, t, p, af, gd⟩ (yielded ops a.tmps) = true)
    (hs : a.eval so = .slice (some ⟨g, 0, none⟩) 1 1) {ad : Addr} {c : Nat} (hx : a.eval xo = .slice (some ad) row.length c) (hA : ∀ w, Kn B F S w → AS w (some ad) (zs row)) (hn : row.length ≤ 1000) (hne : 0 < row.length)
    (hp : S.Perm ((g, .cells #[.int .i64 x] 3) :: s)) (hzz : ∀ z ∈ s0, z.1.Sublist s)
    (h : ∀ u' a' c', OwnZ u' (.slice a' (row.length + 1) c') (x :: row) → Rg R Tryz.prog ops Q B F s0 l (a.put d (.slice a' (row.length + 1) c')) (u' ++ s)) :
    Rg R Tryz.prog ops Q B F s0 ((⟨d, .call ⟨.builtin .append, #[so, xo], #[23, 23]⟩, t, p, af, gd⟩, 1) :: l) a S := by
  obtain ⟨i, hi, hz, hsz, hb⟩ := info_partsN zInfo
  refine rg_append (u := [(g, .cells #[.int .i64 x] 3)]) (s := s) (i := i) (z := .int .i64 0) (size := 1) (bytes := 8) (n := 1) (m := row.length) (xs := [.int .i64 x]) (news := zs row) (ad := ad) hg
    UU23 hi hz hsz hb rfl (by decide) hs (Own.whole (cur := #[.int .i64 x]) rfl (by simp only [maxLen]; omega)) hx (by simp) ?_ (by simp [Value.oneCell']) (by simp only [maxLen]; omega) Ox hp hzz ?_
  · intro w K j y hj
    have hne' : zs row ≠ [] := by intro e; simp at e; subst e; simp at hne
    obtain ⟨b, off, e, _, hc⟩ := hA w K hne'
    cases e
    have hj' : j < (zs row).length := by
      rcases Nat.lt_or_ge j (zs row).length with h | h
      · exact h
      · rw [List.getElem?_eq_none h] at hj; cases hj
    have hq := hc j hj'
    have e1 : (⟨b, off, none⟩ : Addr).add j = ⟨b, off + j, none⟩ := Addr.add_mid ..
    rw [e1, hq, hj]
  · intro u' v' hO _
    obtain ⟨a', c', rfl, -⟩ := Own.val hO
    have e : 1 + row.length = row.length + 1 := by omega
    rw [e] at hO ⊢
    exact h u' a' c' hO
theorem rg_appL {so xo : Operand} {u : List Blk} {hs : List Value} {n g : Nat} {h : Value} {gd : Option (Nat × Bool)} (hg : Region.wanted ⟨d, .call ⟨.builtin .append, #[so, xo], #[33, 33]⟩, t, p, af, gd⟩ (yielded ops a.tmps) = true)
    (hs0 : a.eval so = v) (hown : Own 23 1 u v n hs) (hx : a.eval xo = .slice (some ⟨g, 0, none⟩) 1 1) (hn : n ≤ 1000000) (h1 : h.oneCell' = true) (hp : S.Perm (u ++ s))
    (hnews : ∀ w, Kn B F S w → Hd w g 23 #[h]) (hzz : ∀ z ∈ s0, z.1.Sublist s)
    (k : ∀ u' a' c', Own 23 1 u' (.slice a' (n + 1) c') (n + 1) (hs ++ [h]) → Rg R Tryz.prog ops Q B F s0 l (a.put d (.slice a' (n + 1) c')) (u' ++ s)) :
    Rg R Tryz.prog ops Q B F s0 ((⟨d, .call ⟨.builtin .append, #[so, xo], #[33, 33]⟩, t, p, af, gd⟩, 1) :: l) a S := by
  obtain ⟨i, hi, hz, hsz, hb⟩ := info_partsN sInfo
  refine rg_append (u := u) (s := s) (i := i) (z := .slice none 0 0) (size := 1) (bytes := 24) (n := n) (m := 1) (c := 1) (xs := hs) (news := [h]) (ad := ⟨g, 0, none⟩) hg
    UU33 hi hz hsz hb rfl (by decide) hs0 hown hx Rx ?_ (by simpa using h1) (by simp only [maxLen]; omega) Ox hp hzz ?_
  · intro w K j y hj
    have hd := (hnews w K).cell
    match j, hj with
    | 0, hj => simp only [List.getElem?_cons_zero, Option.some.injEq] at hj; subst hj; exact hd 0
    | j + 1, hj => simp at hj
  · intro u' v' hO _
    obtain ⟨a', c', rfl, -⟩ := Own.val hO
    exact k u' a' c' hO
end
section
variable {R : Option Nat} {ops : Array Oper} {Q : Exit → Act → World → Prop} {B : World} {F : List Nat} {s0 : Option (List Blk × List Blk)}
variable {l : List (Oper × Nat)} {a : Act} {s S : List Blk} {d : Option Tmp} {op : Op} {t : TypeId} {p : String} {af : Array Edge} {v : Value}
theorem rg_retL {f : Nat} {cargs : Array Operand} {at_ : Array TypeId} {args : Array Value} {c : Int} {rows : List (List Int)} {P : Program} {gd : Option (Nat × Bool)} (hg : Region.wanted ⟨d, .call ⟨.value (.func f), cargs, at_⟩, t, p, af, gd⟩ (yielded ops a.tmps) = true) (hgo : isGo P f = true)
    (h : ∀ w, Kn B F s w → Calls P f args w (RetL w rows c)) (hargs : cargs.map a.eval = args)
    (hz : ∀ z ∈ s0, z.1.Sublist s) (k : ∀ (va : Option Addr) (vc : Nat) (u : List Blk), OwnL u (.slice va rows.length vc) rows → Rg R P ops Q B F s0 l (a.put d (.tuple #[.slice va rows.length vc, .int .i64 c])) (u ++ s)) :
    Rg R P ops Q B F s0 ((⟨d, .call ⟨.value (.func f), cargs, at_⟩, t, p, af, gd⟩, 1) :: l) a s :=
  rg_call hg hgo hargs fun w K => (h w K).mono fun e w' ⟨v, u, he, hO, hm⟩ => by
    obtain ⟨u1, us, hs, e1, hO1, hR1⟩ := hO
    obtain ⟨a', c', rfl, -⟩ := Own.val hO1
    exact ⟨_, u ++ s, he, K.add hm, fun z hz' => (hz z hz').trans (List.sublist_append_right _ _), k a' c' u ⟨u1, us, hs, e1, hO1, hR1⟩⟩
end
def marksD (ds : List Nat) : List Blk := ds.map fun d => (d, .deferred (some []))
def collD (ds : List Nat) : List Deferred := ds.map fun d => ⟨.collected d, #[]⟩
section
variable {R : Option Nat} {P : Program} {Q : Exit → Act → World → Prop} {B : World} {F : List Nat} {a : Act} {s : List Blk} {X : Ending → World → Prop}
theorem leaves_marks {fn : Func} {tmps : Array Value} (h : ∀ w, Kn B F s w → ∃ v, (results fn tmps).run P w = .ok v w ∧ X (.returned v) w) : ∀ (ds : List Nat) (w : World), Kn B F (marksD ds ++ s) w → LeavesInM (FR none) 0 P fn tmps X (collD ds) .returning w
  | [], w, K => h w K
  | d :: ds, w, K => ⟨by simp, .inl ⟨d, _, rfl, run_takeDeferred (K.own (d, .deferred (some [])) (by simp [marksD])), leaves_marks h ds _ ((K.rep (Rep.here _)).tl)⟩⟩
theorem ek_normMn {fn : Func} {tmps : Array Value} (ds : List Nat) (h : ∀ w, Kn B F s w → ∃ v, (results fn tmps).run P w = .ok v w ∧ X (.returned v) w) :
    Ek B F (bodyPostM (FR none) 0 P fn X) .normal ⟨tmps, collD ds⟩ (marksD ds ++ s) := fun w K => leaves_marks h ds w K
theorem ek_retMn {fn : Func} {tmps : Array Value} (ds : List Nat) (h : ∀ w, Kn B F s w → ∃ v, (results fn tmps).run P w = .ok v w ∧ X (.returned v) w) :
    Ek B F (bodyPostM (FR none) 0 P fn X) .ret ⟨tmps, collD ds⟩ (marksD ds ++ s) := fun w K => leaves_marks h ds w K
def RelD (W : List Nat) (a0 : Act) (J : Nat → (Nat → Value) → List Deferred → List Blk → Prop) : Nat → Act → List Blk → Prop := fun n a s => ∃ f, a = ⟨(Act.putF a0 W f).tmps, a.defers⟩ ∧ J n f a.defers s
theorem wk_loopD {c : Code} (W : List Nat) (J : Nat → (Nat → Value) → List Deferred → List Blk → Prop) (n : Nat) (h0 : J n (Act.valF a) a.defers s) (ha : a = Act.putF a W (Act.valF a))
    (round : ∀ n f ds s, J n f ds s → Wk R P B F (Exit.then (Rnd B F (RelD W a J) n) Q) ⟨(Act.putF a W f).tmps, ds⟩ s c) : Wk R P B F Q a s (.loop c) :=
  wk_loop (RelD W a J) n ⟨_, ha, h0⟩ fun n a' s' h => by
    obtain ⟨f, ha', hJ⟩ := h
    rw [ha']
    exact round n f a'.defers s' hJ
theorem ek_roundD {W : List Nat} {a0 : Act} {J : Nat → (Nat → Value) → List Deferred → List Blk → Prop} {n : Nat} (m : Nat) (hm : m < n) (ha : a = ⟨(Act.putF a0 W (Act.valF a)).tmps, a.defers⟩) (h : J m (Act.valF a) a.defers s) :
    Ek B F (Exit.then (Rnd B F (RelD W a0 J) n) Q) .normal a s := ek_round m hm ⟨_, ha, h⟩
end
theorem AS.openI {w : World} {a : Option Addr} {xs : List Int} (h : AS w a (zs xs)) (hn : 0 < xs.length) : ∃ b off, a = some ⟨b, off, none⟩ ∧ b < w.heap.size ∧ ∀ j, j < xs.length → w.cell? ⟨b, off + j, none⟩ = some (.int .i64 (gI xs j)) := by
 have hne : zs xs ≠ [] := by intro e; simp at e; subst e; simp at hn
 obtain ⟨b, off, e, hlt, hc⟩ := h hne
 refine ⟨b, off, e, hlt, fun j hj => ?_⟩
 rw [hc j (by simpa using hj), List.getElem?_map, List.getElem?_eq_getElem hj]
 unfold gI
 rw [List.getD_eq_getElem?_getD, List.getElem?_eq_getElem hj]
 rfl
theorem mfac_any (xs : List Int) (a : Option Addr) (c : Nat) (hl : xs.length ≤ 1000000) (hok : okP xs = true) (h5 : sT xs xs.length ≤ 5) (w : World) (hA : AS w a (zs xs)) : Calls Tryz.prog 42 #[.slice a xs.length c] w fun e w' => e = .returned (.int .i64 (fT xs xs.length)) ∧ Below w.heap.size w w' := by
 go_enter Tryz.func42, Tryz.ntmps42
 refine wk_start ?_
 refine wk_seq ?_
 refine wk_region [0] rfl Kx ?_
 simp only [qy]
 refine rg_assign ?_
 simp only [qz]
 refine rg_nil (ek_next (wk_seq ?_))
 refine wk_region [0] rfl Kx ?_
 simp only [qy]
 refine rg_assign ?_
 simp only [qz]
 refine rg_nil (ek_next (wk_seq (wk_seq ?_)))
 refine wk_region [0, 0, 0] rfl Kx ?_
 simp only [qy]
 refine rg_move ?_
 simp only [qz]
 refine rf_len rfl rfl rfl UU23 ?_
 simp only [qz]
 refine rg_move ?_
 simp only [qz]
 refine rg_nil (ek_next (wk_block ?_))
 refine wk_loopF [3, 5, 6, 9, 10, 11, 12, 13, 14, 15, 16, 17, 18, 19, 20, 21] (fun mz f s => ∃ (i : Nat) (all : Int), f 3 = .int .i64 all ∧ f 9 = .int .i64 i ∧ s = [] ∧ mz = xs.length - i ∧ i ≤ xs.length ∧ Hid (fT xs i = all)) ((fun (i : Nat) (all : Int) => xs.length - i) (0) (1)) ?_ Kx ?_
 ·exact ⟨0, 1, rfl, rfl, rfl, rfl, by omega, Lib.hid rfl⟩
 rintro mz f1 s ⟨i, all, hs1_3, hs1_9, rfl, hn, hd1, hd2⟩
 simp only [Act.putF, List.foldl_cons, List.foldl_nil, hs1_3, hs1_9, Act.put, Act.eval, q1, q2, q3, q4, q5, q6, q7, q8, q9, q10, q11, q12, q13, q14, q15, q16, q17, q18, Nat.reduceAdd, Bool.not_true, Bool.not_false]
 clear hs1_3 hs1_9
 have hall := hd2
 refine wk_seq ?_
 refine wk_region [0] rfl Kx ?_
 simp only [qy]
 refine rfb_lss rfl rfl rfl rfl ?_
 intro x h1
 cases x
 ·(try simp only [qd, ne_eq] at h1)
  simp only [qz]
  refine rg_nil (ek_next (wk_seq (wk_cond_f rfl (wk_exit (ek_then_exit (ek_then_exit (ek_block_exit (ek_next (wk_seq ?_)))))))))
  refine wk_region [0, 0] rfl Kx ?_
  simp only [qy]
  refine rg_move ?_
  simp only [qz]
  refine rg_assign ?_
  simp only [qz]
  refine rg_nil (ek_next (wk_ret ?_))
  refine ek_ret (fun w hw => ⟨rfl, _, res_t _ rfl, ?_⟩)
  (try simp only [qz])
  obtain rfl : i = xs.length := by omega
  exact ⟨by rw [hall.out], hw.below⟩
 (try simp only [qd, ne_eq] at h1)
 simp only [qz]
 refine rg_nil (ek_next (wk_seq (wk_cond_t rfl (wk_skip (ek_next (wk_seq (wk_block (wk_seq ?_))))))))
 obtain ⟨b, off, rfl, hlt, hcell⟩ := AS.openI hA Ox
 have hx5 := okP_at hok (i := i) Ox
 refine wk_region [0, 0, 0] rfl Kx ?_
 simp only [qy]
 refine rf_indexS (n := i) (sz := 1) (j := off + i) rfl rfl rfl rfl UU23 Kx Ox Ox Ox ?_
 simp only [qz]
 refine rf_load (v := .int .i64 (gI xs i)) rfl rfl rfl UU3 rfl (fun w hw => (Kn.cellB hw hlt (by simp) (off + i)).trans (hcell i Ox)) ?_
 simp only [qz]
 refine rg_assign ?_
 simp only [qz]
 refine rg_nil (ek_next (wk_seq ?_))
 refine wk_region [0] rfl Kx ?_
 simp only [qy]
 refine rg_assign ?_
 simp only [qz]
 refine rg_nil (ek_next (wk_block ?_))
 refine wk_loopF [3, 6, 13, 14, 15, 16, 17, 18, 19, 20] (fun mz f s => ∃ (m : Nat) (v : Int), f 3 = .int .i64 v ∧ f 6 = .int .i64 ((m : Int) + 2) ∧ s = [] ∧ mz = (gI xs i).toNat - m ∧ m ≤ (gI xs i).toNat - 1 ∧ Hid (fT xs i * fm m = v)) ((fun (m : Nat) (v : Int) => (gI xs i).toNat - m) (0) (all)) ?_ Kx ?_
 ·exact ⟨0, all, rfl, rfl, rfl, rfl, by omega, Lib.hid (by rw [hall.out]; exact Int.mul_one _)⟩
 rintro mz f2 s ⟨m, v, hs2_3, hs2_6, rfl, hn, he1, he2⟩
 simp only [Act.putF, List.foldl_cons, List.foldl_nil, hs2_3, hs2_6, Act.put, Act.eval, q1, q2, q3, q4, q5, q6, q7, q8, q9, q10, q11, q12, q13, q14, q15, q16, q17, q18, Nat.reduceAdd, Bool.not_true, Bool.not_false]
 clear hs2_3 hs2_6
 have hv := he2
 clear he2
 refine wk_seq (wk_seq ?_)
 refine wk_region [0, 0, 0] rfl Kx ?_
 simp only [qy]
 refine rg_move ?_
 simp only [qz]
 refine rg_move ?_
 simp only [qz]
 refine rfb_leq rfl rfl rfl rfl ?_
 intro x h2
 cases x
 ·(try simp only [qd, ne_eq] at h2)
  simp only [qz]
  refine rg_nil (ek_next (wk_cond_f rfl (wk_exit (ek_then_exit (ek_then_exit (ek_block_exit (ek_block (ek_next ?_))))))))
  refine wk_region [0, 0] rfl Kx ?_
  simp only [qy]
  refine rf_add rfl rfl rfl rfl (wrap_ok Ox Ox) ?_
  simp only [qz]
  refine rg_move ?_
  simp only [qz]
  refine rg_nil ?_
  have hmx : m = (gI xs i).toNat - 1 := by omega
  subst hmx
  refine ek_roundF (xs.length - (i + 1)) Ox Kx ?_
  exact ⟨i + 1, v, rfl, rfl, by rfl, by rfl, Ox, (Lib.hid (by rw [fT, hv.out]))⟩
 (try simp only [qd, ne_eq] at h2)
 simp only [qz]
 refine rg_nil (ek_next (wk_cond_t rfl (wk_skip (ek_next (wk_seq (wk_block ?_))))))
 have hvb := fv_bd hok h5 (i := i) (m := m) Ox Ox hv.out
 refine wk_region [0, 0, 0, 0] rfl Kx ?_
 simp only [qy]
 refine rg_move ?_
 simp only [qz]
 refine rg_move ?_
 simp only [qz]
 refine rf_mul rfl rfl rfl rfl (wrap_ok Ox Ox) ?_
 simp only [qz]
 refine rg_assign ?_
 simp only [qz]
 refine rg_nil (ek_block (ek_next ?_))
 refine wk_region [0, 0, 0] rfl Kx ?_
 simp only [qy]
 refine rg_move ?_
 simp only [qz]
 refine rf_add rfl rfl rfl rfl (wrap_ok Ox Ox) ?_
 simp only [qz]
 refine rg_assign ?_
 simp only [qz]
 refine rg_nil ?_
 refine ek_roundF ((gI xs i).toNat - (m + 1)) Ox Kx ?_
 exact ⟨m + 1, v * ((m : Int) + 2), rfl, rfl, by rfl, by rfl, Ox, (Lib.hid (by rw [fm, ← Int.mul_assoc, hv.out]))⟩
structure W6 where
  w0 : Int
  w1 : Int
  w2 : Int
  w3 : Int
  w4 : Int
  w5 : Int
deriving DecidableEq, Inhabited
def W6.val (x : W6) : Int := x.w0 + 18446744073709551616 * (x.w1 + 18446744073709551616 * (x.w2 + 18446744073709551616 * (x.w3 + 18446744073709551616 * (x.w4 + 18446744073709551616 * x.w5))))
structure W6.Wf (x : W6) : Prop where
  a0 : 0 ≤ x.w0
  b0 : x.w0 < 18446744073709551616
  a1 : 0 ≤ x.w1
  b1 : x.w1 < 18446744073709551616
  a2 : 0 ≤ x.w2
  b2 : x.w2 < 18446744073709551616
  a3 : 0 ≤ x.w3
  b3 : x.w3 < 18446744073709551616
  a4 : 0 ≤ x.w4
  b4 : x.w4 < 18446744073709551616
  a5 : 0 ≤ x.w5
  b5 : x.w5 < 18446744073709551616
def W6.of (n : Int) : W6 := ⟨n % 18446744073709551616, n / 18446744073709551616 % 18446744073709551616, n / 18446744073709551616 / 18446744073709551616 % 18446744073709551616, n / 18446744073709551616 / 18446744073709551616 / 18446744073709551616 % 18446744073709551616, n / 18446744073709551616 / 18446744073709551616 / 18446744073709551616 / 18446744073709551616 % 18446744073709551616, n / 18446744073709551616 / 18446744073709551616 / 18446744073709551616 / 18446744073709551616 / 18446744073709551616 % 18446744073709551616⟩
theorem W6.of_wf (n : Int) : (W6.of n).Wf := ⟨by simp only [W6.of]; omega, by simp only [W6.of]; omega, by simp only [W6.of]; omega, by simp only [W6.of]; omega, by simp only [W6.of]; omega, by simp only [W6.of]; omega, by simp only [W6.of]; omega, by simp only [W6.of]; omega, by simp only [W6.of]; omega, by simp only [W6.of]; omega, by simp only [W6.of]; omega, by simp only [W6.of]; omega⟩
theorem W6.of_val (n : Int) : (W6.of n).val = n - 39402006196394479212279040100143613805079739270465446667948293404245721771497210611414266254884915640806627990306816 * (n / 18446744073709551616 / 18446744073709551616 / 18446744073709551616 / 18446744073709551616 / 18446744073709551616 / 18446744073709551616) := by simp only [W6.val, W6.of]; omega
theorem W6.ext' {x y : W6} (hx : x.Wf) (hy : y.Wf) (h : x.val = y.val) : x = y := by
 obtain ⟨a0, a1, a2, a3, a4, a5⟩ := x
 obtain ⟨b0, b1, b2, b3, b4, b5⟩ := y
 obtain ⟨h1, h2, h3, h4, h5, h6, h7, h8, h9, h10, h11, h12⟩ := hx
 obtain ⟨k1, k2, k3, k4, k5, k6, k7, k8, k9, k10, k11, k12⟩ := hy
 simp only [W6.val] at *
 congr 1 <;> omega
theorem W6.val_range {x : W6} (hx : x.Wf) : 0 ≤ x.val ∧ x.val < 39402006196394479212279040100143613805079739270465446667948293404245721771497210611414266254884915640806627990306816 := by
 obtain ⟨h1, h2, h3, h4, h5, h6, h7, h8, h9, h10, h11, h12⟩ := hx
 simp only [W6.val]
 omega
theorem W6.of_eq {x : W6} {n : Int} (hx : x.Wf) (q : Int) (h : x.val = n + 39402006196394479212279040100143613805079739270465446667948293404245721771497210611414266254884915640806627990306816 * q) : x = W6.of n := by
 refine W6.ext' hx (W6.of_wf n) ?_
 have h1 := W6.val_range hx
 have h2 := W6.val_range (W6.of_wf n)
 rw [W6.of_val] at h2 ⊢
 omega
def In384 (n : Int) : Prop := -19701003098197239606139520050071806902539869635232723333974146702122860885748605305707133127442457820403313995153408 ≤ n ∧ n < 19701003098197239606139520050071806902539869635232723333974146702122860885748605305707133127442457820403313995153408
theorem W6.of_inj {m n : Int} (hm : In384 m) (hn : In384 n) (h : W6.of m = W6.of n) : m = n := by
 have h1 := W6.of_val m
 have h2 := W6.of_val n
 rw [h] at h1
 unfold In384 at hm hn
 omega
theorem W6.of_whole {n : Int} (h0 : -9223372036854775808 ≤ n) (h1 : n < 9223372036854775808) : W6.of n = ⟨n % 18446744073709551616, (if n < 0 then 18446744073709551615 else 0), (if n < 0 then 18446744073709551615 else 0), (if n < 0 then 18446744073709551615 else 0), (if n < 0 then 18446744073709551615 else 0), (if n < 0 then 18446744073709551615 else 0)⟩ := by
 simp only [W6.of]
 split <;> congr 1 <;> omega
theorem W6.add_eq {m n : Int} {s0 s1 s2 s3 s4 s5 c0 c1 c2 c3 c4 c5 : Int} (hw : (⟨s0, s1, s2, s3, s4, s5⟩ : W6).Wf)
    (h0 : s0 + 18446744073709551616 * c0 = (W6.of m).w0 + (W6.of n).w0) (h1 : s1 + 18446744073709551616 * c1 = (W6.of m).w1 + (W6.of n).w1 + c0) (h2 : s2 + 18446744073709551616 * c2 = (W6.of m).w2 + (W6.of n).w2 + c1)
    (h3 : s3 + 18446744073709551616 * c3 = (W6.of m).w3 + (W6.of n).w3 + c2) (h4 : s4 + 18446744073709551616 * c4 = (W6.of m).w4 + (W6.of n).w4 + c3) (h5 : s5 + 18446744073709551616 * c5 = (W6.of m).w5 + (W6.of n).w5 + c4) :
    (⟨s0, s1, s2, s3, s4, s5⟩ : W6) = W6.of (m + n) := by
  have e1 := W6.of_val m
  have e2 := W6.of_val n
  refine W6.of_eq hw (-(m / 18446744073709551616 / 18446744073709551616 / 18446744073709551616 / 18446744073709551616 / 18446744073709551616 / 18446744073709551616) - (n / 18446744073709551616 / 18446744073709551616 / 18446744073709551616 / 18446744073709551616 / 18446744073709551616 / 18446744073709551616) - c5) ?_
  generalize (m / 18446744073709551616 / 18446744073709551616 / 18446744073709551616 / 18446744073709551616 / 18446744073709551616 / 18446744073709551616) = p at *
  generalize (n / 18446744073709551616 / 18446744073709551616 / 18446744073709551616 / 18446744073709551616 / 18446744073709551616 / 18446744073709551616) = q at *
  generalize W6.of m = x at *
  generalize W6.of n = y at *
  simp only [W6.val] at *
  omega
theorem W6.neg_eq {m : Int} {s0 s1 s2 s3 s4 s5 c0 c1 c2 c3 c4 c5 : Int} (hw : (⟨s0, s1, s2, s3, s4, s5⟩ : W6).Wf)
    (h0 : s0 = 18446744073709551616 * c0 - (W6.of m).w0) (h1 : s1 = 18446744073709551616 * c1 - (W6.of m).w1 - c0) (h2 : s2 = 18446744073709551616 * c2 - (W6.of m).w2 - c1)
    (h3 : s3 = 18446744073709551616 * c3 - (W6.of m).w3 - c2) (h4 : s4 = 18446744073709551616 * c4 - (W6.of m).w4 - c3) (h5 : s5 = 18446744073709551616 * c5 - (W6.of m).w5 - c4) :
    (⟨s0, s1, s2, s3, s4, s5⟩ : W6) = W6.of (-m) := by
  have e1 := W6.of_val m
  refine W6.of_eq hw ((m / 18446744073709551616 / 18446744073709551616 / 18446744073709551616 / 18446744073709551616 / 18446744073709551616 / 18446744073709551616) + c5) ?_
  generalize (m / 18446744073709551616 / 18446744073709551616 / 18446744073709551616 / 18446744073709551616 / 18446744073709551616 / 18446744073709551616) = p at *
  generalize W6.of m = x at *
  simp only [W6.val] at *
  omega
theorem W6.times_eq {m n : Int} {s0 s1 s2 s3 s4 s5 c0 c1 c2 c3 c4 c5 : Int} (hw : (⟨s0, s1, s2, s3, s4, s5⟩ : W6).Wf)
    (h0 : s0 + 18446744073709551616 * c0 = (W6.of m).w0 * n) (h1 : s1 + 18446744073709551616 * c1 = (W6.of m).w1 * n + c0) (h2 : s2 + 18446744073709551616 * c2 = (W6.of m).w2 * n + c1)
    (h3 : s3 + 18446744073709551616 * c3 = (W6.of m).w3 * n + c2) (h4 : s4 + 18446744073709551616 * c4 = (W6.of m).w4 * n + c3) (h5 : s5 + 18446744073709551616 * c5 = (W6.of m).w5 * n + c4) :
    (⟨s0, s1, s2, s3, s4, s5⟩ : W6) = W6.of (m * n) := by
  have e1 := W6.of_val m
  refine W6.of_eq hw (-(m / 18446744073709551616 / 18446744073709551616 / 18446744073709551616 / 18446744073709551616 / 18446744073709551616 / 18446744073709551616) * n - c5) ?_
  generalize (m / 18446744073709551616 / 18446744073709551616 / 18446744073709551616 / 18446744073709551616 / 18446744073709551616 / 18446744073709551616) = p at *
  generalize W6.of m = x at *
  simp only [W6.val] at *
  grind
theorem W6.half_eq {m : Int} (hm : In384 m) (he : m % 2 = 0) :
    (⟨(W6.of m).w0 / 2 + (W6.of m).w1 % 2 * 9223372036854775808, (W6.of m).w1 / 2 + (W6.of m).w2 % 2 * 9223372036854775808, (W6.of m).w2 / 2 + (W6.of m).w3 % 2 * 9223372036854775808,
      (W6.of m).w3 / 2 + (W6.of m).w4 % 2 * 9223372036854775808, (W6.of m).w4 / 2 + (W6.of m).w5 % 2 * 9223372036854775808, (W6.of m).w5 / 2 + (W6.of m).w5 / 9223372036854775808 * 9223372036854775808⟩ : W6) = W6.of (m / 2) := by
  have e1 := W6.of_val m
  have hw := W6.of_wf m
  have h0 : (W6.of m).w0 % 2 = 0 := by simp only [W6.of]; omega
  unfold In384 at hm
  have hp : (m / 18446744073709551616 / 18446744073709551616 / 18446744073709551616 / 18446744073709551616 / 18446744073709551616 / 18446744073709551616) = if m < 0 then -1 else 0 := by split <;> omega
  rw [hp] at e1
  clear hp
  generalize W6.of m = x at e1 h0 hw ⊢
  obtain ⟨x0, x1, x2, x3, x4, x5⟩ := x
  obtain ⟨h1, h2, h3, h4, h5, h6, h7, h8, h9, h10, h11, h12⟩ := hw
  simp only [W6.val] at *
  have t0 : x5 / 9223372036854775808 = if m < 0 then 1 else 0 := by split at e1 <;> split <;> omega
  rw [t0]
  refine W6.of_eq ⟨by dsimp only; omega, by dsimp only; omega, by dsimp only; omega, by dsimp only; omega, by dsimp only; omega, by dsimp only; omega, by dsimp only; omega, by dsimp only; omega, by dsimp only; omega, by dsimp only; omega, by dsimp only; split <;> omega, by dsimp only; split at e1 <;> split <;> omega⟩ (if m < 0 then 1 else 0) ?_
  simp only [W6.val]
  split at e1 <;> split <;> omega
theorem W6.odd_eq (m : Int) : (W6.of m).w0 % 2 = m % 2 := by simp only [W6.of]; omega
section
variable {R : Option Nat} {P : Program} {ops : Array Oper} {Q : Exit → Act → World → Prop} {B : World} {F : List Nat} {s0 : Option (List Blk × List Blk)}
variable {l : List (Oper × Nat)} {a : Act} {s s' : List Blk} {d : Option Tmp} {op : Op} {t : TypeId} {p : String} {af : Array Edge} {v : Value} {gd : Option (Nat × Bool)} {m : Nat}
theorem rg_ext {f : Nat} {cargs : Array Operand} {at_ : Array TypeId} {args : Array Value} (hg : Region.wanted ⟨d, .call ⟨.value (.func f), cargs, at_⟩, t, p, af, gd⟩ (yielded ops a.tmps) = true)
    (h : ∀ w : World, (callFunc f args).run P w = .ok (.value v) w) (hargs : cargs.map a.eval = args)
    (hz : ∀ z ∈ s0, z.1.Sublist s) (k : Rg R P ops Q B F s0 l (a.put d v) s) :
    Rg R P ops Q B F s0 ((⟨d, .call ⟨.value (.func f), cargs, at_⟩, t, p, af, gd⟩, 1) :: l) a s :=
  rg_run hg fun w K => ⟨v, w, s, .inl (by
    have he : #[] ++ cargs.map a.eval ++ #[] = args := by simpa using hargs
    rw [execOp_call_go, he]
    exact h w), K, hz, k⟩
theorem rf_quo {x y : Operand} {T z : TypeId} {k : IntKind} {n q r : Int} (hm : soft03 m = true) (hg : Region.wanted ⟨d, .binOp .quo T x y z, t, p, af, gd⟩ (yielded ops a.tmps) = true)
    (hx : a.eval x = .int k n) (hy : a.eval y = .int k q) (hq : q ≠ 0) (hr : k.wrap (n.tdiv q) = r) (h : Rg R P ops Q B F s0 l (a.put d (.int k r)) s) : Rg R P ops Q B F s0 ((⟨d, .binOp .quo T x y z, t, p, af, gd⟩, m) :: l) a s := by
  refine rg_any hm hg (fun w => ?_) h
  unfold Yld
  simp [execOp, hx, hy, eqGuard, binOp, Op.intDiv, hq, hr]
theorem rf_rem {x y : Operand} {T z : TypeId} {k : IntKind} {n q r : Int} (hm : soft03 m = true) (hg : Region.wanted ⟨d, .binOp .rem T x y z, t, p, af, gd⟩ (yielded ops a.tmps) = true)
    (hx : a.eval x = .int k n) (hy : a.eval y = .int k q) (hq : q ≠ 0) (hr : n.tmod q = r) (h : Rg R P ops Q B F s0 l (a.put d (.int k r)) s) : Rg R P ops Q B F s0 ((⟨d, .binOp .rem T x y z, t, p, af, gd⟩, m) :: l) a s := by
  refine rg_any hm hg (fun w => ?_) h
  unfold Yld
  simp [execOp, hx, hy, eqGuard, binOp, Op.intDiv, hq, hr]
theorem rf_and {x y : Operand} {T z : TypeId} {k : IntKind} {n q r : Int} (hm : soft03 m = true) (hg : Region.wanted ⟨d, .binOp .and T x y z, t, p, af, gd⟩ (yielded ops a.tmps) = true)
    (hx : a.eval x = .int k n) (hy : a.eval y = .int k q) (hr : bits .and k n q = r) (h : Rg R P ops Q B F s0 l (a.put d (.int k r)) s) : Rg R P ops Q B F s0 ((⟨d, .binOp .and T x y z, t, p, af, gd⟩, m) :: l) a s := by
  refine rg_any hm hg (fun w => ?_) h
  unfold Yld
  subst hr
  simp [execOp, hx, hy, eqGuard, binOp, Op.intBits, bits]
theorem rf_or {x y : Operand} {T z : TypeId} {k : IntKind} {n q r : Int} (hm : soft03 m = true) (hg : Region.wanted ⟨d, .binOp .or T x y z, t, p, af, gd⟩ (yielded ops a.tmps) = true)
    (hx : a.eval x = .int k n) (hy : a.eval y = .int k q) (hr : bits .or k n q = r) (h : Rg R P ops Q B F s0 l (a.put d (.int k r)) s) : Rg R P ops Q B F s0 ((⟨d, .binOp .or T x y z, t, p, af, gd⟩, m) :: l) a s := by
  refine rg_any hm hg (fun w => ?_) h
  unfold Yld
  subst hr
  simp [execOp, hx, hy, eqGuard, binOp, Op.intBits, bits]
theorem rf_shrV {x y : Operand} {T z : TypeId} {k k' : IntKind} {n q e : Int} {c : Nat} (hm : soft03 m = true) (hg : Region.wanted ⟨d, .binOp .shr T x y z, t, p, af, gd⟩ (yielded ops a.tmps) = true)
    (hx : a.eval x = .int k n) (hy : a.eval y = .int k' e) (he : e = (c : Int)) (hc : c ≤ k.bits) (hq : (2 : Int) ^ c = q) (h : Rg R P ops Q B F s0 l (a.put d (.int k (n / q))) s) : Rg R P ops Q B F s0 ((⟨d, .binOp .shr T x y z, t, p, af, gd⟩, m) :: l) a s := by
  subst he
  exact rf_shr hm hg hx hy (Nat.ble_eq_true_of_le hc) hq h
theorem rf_shlV {x y : Operand} {T z : TypeId} {k k' : IntKind} {n q e r : Int} {c : Nat} (hm : soft03 m = true) (hg : Region.wanted ⟨d, .binOp .shl T x y z, t, p, af, gd⟩ (yielded ops a.tmps) = true)
    (hx : a.eval x = .int k n) (hy : a.eval y = .int k' e) (he : e = (c : Int)) (hc : c ≤ k.bits) (hq : (2 : Int) ^ c = q) (hr : k.wrap (n * q) = r) (h : Rg R P ops Q B F s0 l (a.put d (.int k r)) s) : Rg R P ops Q B F s0 ((⟨d, .binOp .shl T x y z, t, p, af, gd⟩, m) :: l) a s := by
  subst he
  exact rf_shl hm hg hx hy (Nat.ble_eq_true_of_le hc) hq hr h
end
theorem rem_ok {n q : Int} (h0 : 0 ≤ n) : n.tmod q = n % q := Int.tmod_eq_emod_of_nonneg h0
theorem and_mask (x : Int) (m : Nat) (hm : m ≤ 62) : bits .and .i64 x (2 ^ m - 1 : Nat) = x % (2 ^ m : Nat) := by
 show IntKind.i64.wrap ((BitVec.ofInt 64 x &&& BitVec.ofInt 64 ((2 ^ m - 1 : Nat) : Int)).toNat : Int) = _
 have hp : 2 ^ m ≤ 2 ^ 62 := Nat.pow_le_pow_right Ox hm
 have hp0 : 0 < 2 ^ m := Nat.two_pow_pos m
 have h1 : (BitVec.ofInt 64 ((2 ^ m - 1 : Nat) : Int)).toNat = 2 ^ m - 1 := by
  rw [BitVec.toNat_ofInt]
  have : (2 : Nat) ^ 62 = 4611686018427387904 := by decide
  omega
 rw [BitVec.toNat_and, h1, Nat.and_two_pow_sub_one_eq_mod, BitVec.toNat_ofInt, IntKind.wrap_i64]
 have h62 : (2 : Nat) ^ 62 = 4611686018427387904 := by decide
 have hd : ((2 ^ m : Nat) : Int) ∣ 18446744073709551616 := by
  have : (18446744073709551616 : Int) = ((2 ^ m * 2 ^ (64 - m) : Nat) : Int) := by rw [← Nat.pow_add, show m + (64 - m) = 64 by omega]; decide
  rw [this, Int.natCast_mul]
  exact Int.dvd_mul_right _ _
 have h2 : (((x % ((2 ^ 64 : Nat) : Int)).toNat % 2 ^ m : Nat) : Int) = x % (2 ^ m : Nat) := by
  rw [Int.natCast_emod, Int.toNat_of_nonneg (Int.emod_nonneg _ (by decide))]
  exact Int.emod_emod_of_dvd x hd
 rw [h2]
 have h3 := Int.emod_nonneg x (b := ((2 ^ m : Nat) : Int)) Ox
 have h4 := Int.emod_lt_of_pos x (b := ((2 ^ m : Nat) : Int)) Ox
 omega
theorem run_Add64 (x y c s r : Int) (hx : 0 ≤ x) (hy : 0 ≤ y) (hc0 : 0 ≤ c) (hc : c ≤ 1) (hs : (x + y + c) % 18446744073709551616 = s) (hr : (x + y + c) / 18446744073709551616 = r) (w : World) :
    (callFunc 156 #[.int .u64 x, .int .u64 y, .int .u64 c]).run Tryz.prog w = .ok (.value (.tuple #[.int .u64 s, .int .u64 r])) w := by
  rw [run_callFunc_extern Tryz.func156 Kx Kx Kx (e := add64Entry) Kx, run_add64 x y c hx hy hc0 hc, hs, hr]
  rfl
theorem run_Sub64 (x y b s r : Nat) (hb : b ≤ 1) (hs : (x + 18446744073709551616 - y - b) % 18446744073709551616 = s) (hr : (if x < y + b then 1 else 0) = r) (w : World) :
    (callFunc 157 #[.int .u64 x, .int .u64 y, .int .u64 b]).run Tryz.prog w = .ok (.value (.tuple #[.int .u64 s, .int .u64 r])) w := by
  rw [run_callFunc_extern Tryz.func157 Kx Kx Kx (e := sub64Entry) Kx, run_sub64 x y b hb, hs, hr]
  rfl
theorem run_Sub64I (x y b s r : Int) (x0 : 0 ≤ x) (y0 : 0 ≤ y) (y1 : y < 18446744073709551616) (b0 : 0 ≤ b) (hb : b ≤ 1) (hs : (x + 18446744073709551616 - y - b) % 18446744073709551616 = s) (hr : (if x < y + b then 1 else 0) = r) (w : World) :
    (callFunc 157 #[.int .u64 x, .int .u64 y, .int .u64 b]).run Tryz.prog w = .ok (.value (.tuple #[.int .u64 s, .int .u64 r])) w := by
  obtain ⟨x, rfl⟩ := Int.eq_ofNat_of_zero_le x0
  obtain ⟨y, rfl⟩ := Int.eq_ofNat_of_zero_le y0
  obtain ⟨b, rfl⟩ := Int.eq_ofNat_of_zero_le b0
  have h := run_Sub64 x y b _ _ Ox rfl rfl w
  have e1 : (((x + 18446744073709551616 - y - b) % 18446744073709551616 : Nat) : Int) = s := by rw [← hs]; omega
  have e2 : (((if x < y + b then 1 else 0 : Nat)) : Int) = r := by rw [← hr]; split <;> split <;> omega
  rw [e1, e2] at h
  exact h
set_option maxHeartbeats 1000000
def sel4 {α : Type} (a b c d : α) : Nat → α
  | 0 => a
  | 1 => b
  | 2 => c
  | _ => d
def upd {α : Type} (T : Nat → α) (j : Nat) (t : α) : Nat → α := fun m => if m = j then t else T m
theorem upd_same {α : Type} (T : Nat → α) (j : Nat) (t : α) : upd T j t j = t := if_pos rfl
theorem upd_other {α : Type} (T : Nat → α) {j m : Nat} (t : α) (h : m ≠ j) : upd T j t m = T m := if_neg h
theorem lt4 {m : Nat} (h : m < 4) : m = 0 ∨ m = 1 ∨ m = 2 ∨ m = 3 := by omega
def acc (X Y : Nat → Int) : Nat → Nat → Int
  | 0, _ => 0
  | n + 1, m => if m = (n / 4 + n % 4) % 4 then acc X Y n m + (if 4 ≤ n / 4 + n % 4 then -(X (n / 4) * Y (n % 4)) else X (n / 4) * Y (n % 4)) else acc X Y n m
theorem acc_bound {X Y : Nat → Int} {M : Int} (h0 : 0 ≤ M) (h : ∀ i k, i < 4 → k < 4 → -M ≤ X i * Y k ∧ X i * Y k ≤ M) : ∀ n m, n ≤ 16 → -(n * M) ≤ acc X Y n m ∧ acc X Y n m ≤ n * M
  | 0, m, _ => by simp [acc]
  | n + 1, m, hn => by
    have ih := acc_bound h0 h n m (by omega)
    have hb := h (n / 4) (n % 4) (by omega) (by omega)
    have e : ((n + 1 : Nat) : Int) * M = n * M + M := by rw [Int.natCast_add, Int.add_mul]; simp
    rw [e]
    simp only [acc]
    split
    · split <;> omega
    · omega
theorem acc_16 (x y : Nm) : (⟨acc (sel4 x.a x.b x.c x.d) (sel4 y.a y.b y.c y.d) 16 0, acc (sel4 x.a x.b x.c x.d) (sel4 y.a y.b y.c y.d) 16 1, acc (sel4 x.a x.b x.c x.d) (sel4 y.a y.b y.c y.d) 16 2, acc (sel4 x.a x.b x.c x.d) (sel4 y.a y.b y.c y.d) 16 3, x.k + y.k⟩ : Nm) = x.mulR y := by
 unfold Nm.mulR
 congr 1 <;> simp [acc, sel4] <;> omega
theorem acc_step {X Y T : Nat → Int} {i k : Nat} (hk : k < 4) (h : acc X Y (i * 4 + k) = T) : acc X Y (i * 4 + (k + 1)) = upd T ((i + k) % 4) (T ((i + k) % 4) + (if 4 ≤ i + k then -(X i * Y k) else X i * Y k)) := by
 funext m
 have e1 : (i * 4 + k) / 4 = i := by omega
 have e2 : (i * 4 + k) % 4 = k := by omega
 rw [show i * 4 + (k + 1) = i * 4 + k + 1 by omega]
 simp only [acc]
 rw [e1, e2, h]
 unfold upd
 split
 ·next hm => rw [hm]
 ·rfl
theorem sel_cases {p : Nat → Prop} (h0 : p 0) (h1 : p 1) (h2 : p 2) (h3 : p 3) : ∀ m, m < 4 → p m := fun m hm => by
  rcases lt4 hm with rfl | rfl | rfl | rfl <;> assumption
def smB (n : Int) : Bool := decide (-1000000000 ≤ n) && decide (n ≤ 1000000000)
def numOk (y : Nm) : Bool := smB y.a && (smB y.b && (smB y.c && smB y.d))
def wnum (z : Nm) : Nm × Bool := if numOk z.nf = true then (z.nf, decide (z.nf.k ≤ 40)) else (Nm.zero, false)
theorem wnum_numV {z : Nm} : numV z.mk' = if (wnum z).2 = true then .tuple #[nmV (wnum z).1, .int .i64 0] else .tuple #[nmV Nm.zero, .int .i64 4] := by
 have hs : z.nf.small = (decide (z.nf.k ≤ 40) && numOk z.nf) := by
  rw [Bool.eq_iff_iff, small_iff]
  simp only [numOk, smB, Bool.and_eq_true, decide_eq_true_eq]
  constructor
  ·rintro ⟨h, h1, h2, h3, h4, h5, h6, h7, h8⟩
   exact ⟨h, ⟨h1, h2⟩, ⟨h3, h4⟩, ⟨h5, h6⟩, h7, h8⟩
  ·rintro ⟨h, ⟨h1, h2⟩, ⟨h3, h4⟩, ⟨h5, h6⟩, h7, h8⟩
   exact ⟨h, h1, h2, h3, h4, h5, h6, h7, h8⟩
 unfold Nm.mk' wnum
 rw [hs]
 cases numOk z.nf with
 | false => simp [numV]
 | true =>
  by_cases h : z.nf.k ≤ 40
  ·simp [h, numV]
  ·simp [h, numV]
section
variable {R : Option Nat} {P : Program} {ops : Array Oper} {Q : Exit → Act → World → Prop} {B : World} {F : List Nat} {s0 : Option (List Blk × List Blk)}
variable {l : List (Oper × Nat)} {a : Act} {s s' : List Blk} {d : Option Tmp} {op : Op} {t : TypeId} {p : String} {af : Array Edge} {v : Value} {gd : Option (Nat × Bool)} {m : Nat}
theorem run_isAgg {T : TypeId} {dd : TypeDesc} (hu : P.underlying T = some dd) (w : World) : (isAgg T).run P w = .ok (isRow dd) w := by
 unfold isAgg
 rw [Sem.run_bind, run_underlying hu w]
 cases dd <;> simp_all [isRow]
theorem rf_idxR {T : Nat} {x y : Operand} {n len e sz : Nat} {cs : Array Value} {k : IntKind} {dd : TypeDesc} (hm : soft03 m = true) (hg : Region.wanted ⟨d, .index T x y, t, p, af, gd⟩ (yielded ops a.tmps) = true)
    (hx : a.eval x = .agg cs) (hy : a.eval y = .int k (n : Int)) (hu : P.underlying T = some (.array len e)) (he : P.underlying e = some dd) (hr : isRow dd = true) (hs : (P.info? e).map (·.size) = some sz) (hn : n < len)
    {vs : Array Value} (hv : cs.extract (n * sz) (n * sz + sz) = vs) (h : Rg R P ops Q B F s0 l (a.put d (.agg vs)) s) : Rg R P ops Q B F s0 ((⟨d, .index T x y, t, p, af, gd⟩, m) :: l) a s := by
  subst hv
  refine rg_any hm hg (fun w => ?_) h
  unfold Yld
  cases hq : P.info? e with
  | none => simp [hq] at hs
  | some q =>
    have hs' : q.size = sz := by simpa [hq] using hs
    have ha := run_isAgg he w
    rw [hr] at ha
    simp [execOp, hx, hy, Instr.index, run_underlying hu, asIntOf, part, ha, sizeOf, typeInfo, hq, hs', hn]
theorem rf_idx1 {T : Nat} {x y : Operand} {n len e : Nat} {cs : Array Value} {k : IntKind} {dd : TypeDesc} (hm : soft03 m = true) (hg : Region.wanted ⟨d, .index T x y, t, p, af, gd⟩ (yielded ops a.tmps) = true)
    (hx : a.eval x = .agg cs) (hy : a.eval y = .int k (n : Int)) (hu : P.underlying T = some (.array len e)) (he : P.underlying e = some dd) (hr : isRow dd = false) (hs : (P.info? e).map (·.size) = some 1) (hn : n < len)
    (hv : cs[n]? = some v) (h : Rg R P ops Q B F s0 l (a.put d v) s) : Rg R P ops Q B F s0 ((⟨d, .index T x y, t, p, af, gd⟩, m) :: l) a s := by
  refine rg_any hm hg (fun w => ?_) h
  unfold Yld
  cases hq : P.info? e with
  | none => simp [hq] at hs
  | some q =>
    have hs' : q.size = 1 := by simpa [hq] using hs
    have ha := run_isAgg he w
    rw [hr] at ha
    simp [execOp, hx, hy, Instr.index, run_underlying hu, asIntOf, part, ha, sizeOf, typeInfo, hq, hs', hn, hv]
end
end Go.Proofs.YthjjkajjpejcdaaGreat
