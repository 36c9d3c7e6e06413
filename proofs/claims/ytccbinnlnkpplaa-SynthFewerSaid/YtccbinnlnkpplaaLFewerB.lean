/- Texts in one: PgM, PgO, PgQ, PgS, AlPl, Sg, MtPl, Sh, Fa, Sq, WdPl, Xt, Add64, Sub64, WtP, Xi, Am1. -/
import Derived.Test.YtccbinnlnkpplaaLFewerA
import Derived.Deep.MidRow
import Derived.Laws.BitsAllLaws
import Derived.Laws.Externs
import Derived.Laws.Bits64b
import Derived.Shelf.Spec.BitsCarry
import Derived.IntWalk
namespace Go.Proofs.Ytccbinnlnkpplaa
set_option linter.all false

def sumE (z : Nm) : Int := z.a + z.b + z.c + z.d
/-- 1, 2: a number with the exponent K of which the sum is odd, or not; 0: its exponent is less. -/
def kindN (z : Nm) (K : Int) : Int := if z.k < K then 0 else if sumE z % 2 = 1 then 1 else 2
/-- Twice the exponent; one less where the sum is even. -/
def dexp (z : Nm) : Nat := if z.k ≤ 0 then 0 else if sumE z % 2 = 1 then (2 * z.k).toNat else (2 * z.k - 1).toNat
theorem dexp_le (z : Nm) {K : Int} (h : z.k ≤ K) (h0 : 0 ≤ K) : (dexp z : Int) ≤ 2 * K := by
  unfold dexp
  split
  · omega
  · split <;> omega
theorem nf_dexp {z : Nm} {K : Int} (h0 : 0 ≤ z.k) (hk : z.k ≤ K) : (dexp z.nf : Int) ≤ 2 * K := dexp_le _ (by have := nf_k h0; omega) (by omega)
theorem nf_dexp1 {z : Nm} {K : Int} (h0 : 0 ≤ z.k) (hk : z.k ≤ K) (hK : 0 < K) (he : sumE z % 2 = 0) : (dexp z.nf : Int) ≤ 2 * K - 1 := by
  by_cases hn : 0 < z.k ∧ z.even
  · have h1 := nf_step hn.1 hn.2
    rw [h1]
    have := nf_dexp (z := z.step) (K := K - 1) (by show 0 ≤ z.k - 1; omega) (by show z.k - 1 ≤ _; omega)
    omega
  · rw [nf_stop hn]
    unfold dexp
    rw [if_neg (show ¬ sumE z % 2 = 1 by omega)]
    split <;> omega

def AllE (z : Nm) : Prop := z.a % 2 = 0 ∧ z.b % 2 = 0 ∧ z.c % 2 = 0 ∧ z.d % 2 = 0
def AllO (z : Nm) : Prop := z.a % 2 = 1 ∧ z.b % 2 = 1 ∧ z.c % 2 = 1 ∧ z.d % 2 = 1
theorem drop_core {s : Nm} {K : Int} (hK : 0 < K) (hs : s.k = K + 1) :
    (AllE s → ∃ t : Nm, 0 ≤ t.k ∧ t.k = K - 1 ∧ t.val = s.val) ∧ (AllO s → ∃ t : Nm, t.k = K ∧ sumE t % 2 = 0 ∧ t.val = s.val) := by
  obtain ⟨a, b, c, d, k⟩ := s
  simp only at hs
  subst hs
  constructor
  · rintro ⟨h1, h2, h3, h4⟩
    simp only at h1 h2 h3 h4
    refine ⟨⟨a / 2, b / 2, c / 2, d / 2, K - 1⟩, by show 0 ≤ K - 1; omega, rfl, ?_⟩
    have e : (⟨a, b, c, d, K + 1⟩ : Nm) = (⟨a / 2, b / 2, c / 2, d / 2, K - 1⟩ : Nm).tr.tr := by
      rw [Nm.tr2]
      simp only [Nm.mk.injEq]
      omega
    rw [e, val_tr (by show 0 ≤ K - 1 + 1; omega), val_tr (by show 0 ≤ K - 1; omega)]
  · rintro ⟨h1, h2, h3, h4⟩
    simp only at h1 h2 h3 h4
    refine ⟨(⟨a, b, c, d, K + 1⟩ : Nm).step, by show K + 1 - 1 = K; omega, ?_, ?_⟩
    · unfold sumE Nm.step
      simp only
      omega
    · have he : (⟨a, b, c, d, K + 1⟩ : Nm).even := ⟨by show (a + c) % 2 = 0; omega, by show (b + d) % 2 = 0; omega⟩
      rw [← val_tr (z := (⟨a, b, c, d, K + 1⟩ : Nm).step) (by show 0 ≤ K + 1 - 1; omega), Nm.tr_step he]

/-! ### Which turn matches -/
def wtE (z : Nm) : Int := z.a % 2 + z.b % 2 + z.c % 2 + z.d % 2
/-- The elements of y are odd where those of x are, or, where their numbers differ, where those of x are not. -/
def okM (x y : Nm) : Bool := if wtE x = wtE y then decide (x.a % 2 = y.a % 2 ∧ x.b % 2 = y.b % 2 ∧ x.c % 2 = y.c % 2 ∧ x.d % 2 = y.d % 2) else decide (x.a % 2 = 1 - y.a % 2 ∧ x.b % 2 = 1 - y.b % 2 ∧ x.c % 2 = 1 - y.c % 2 ∧ x.d % 2 = 1 - y.d % 2)
def turnN (n : Nat) (z : Nm) : Nm := match n with
  | 0 => z
  | 1 => z.rot
  | 2 => z.rot.rot
  | _ => z.rot.rot.rot
def matchN (x y : Nm) : Nat := if okM x (turnN 0 y) then 0 else if okM x (turnN 1 y) then 1 else if okM x (turnN 2 y) then 2 else if okM x (turnN 3 y) then 3 else 0
theorem mod2 (a : Int) : a % 2 = 0 ∨ a % 2 = 1 := by omega
theorem neg2 (a : Int) : (-a) % 2 = a % 2 := by omega
def okF (A B C D A' B' C' D' : Fin 2) : Bool := if A.val + B.val + C.val + D.val = A'.val + B'.val + C'.val + D'.val then decide (A = A') && decide (B = B') && decide (C = C') && decide (D = D') else decide (A ≠ A') && decide (B ≠ B') && decide (C ≠ C') && decide (D ≠ D')
theorem okF_key : ∀ A B C D A' B' C' D' : Fin 2, (A.val + B.val + C.val + D.val) % 2 = (A'.val + B'.val + C'.val + D'.val) % 2 → ¬ (A = C ∧ B = D) → ¬ (A' = C' ∧ B' = D') →
    okF A B C D A' B' C' D' = true ∨ okF A B C D D' A' B' C' = true ∨ okF A B C D C' D' A' B' = true ∨ okF A B C D B' C' D' A' = true := by decide
theorem res2 (a : Int) : ∃ A : Fin 2, a % 2 = (A.val : Int) := by
  rcases mod2 a with h | h
  · exact ⟨0, h⟩
  · exact ⟨1, h⟩
theorem okM_F {x y : Nm} {A B C D A' B' C' D' : Fin 2} (h1 : x.a % 2 = (A.val : Int)) (h2 : x.b % 2 = (B.val : Int)) (h3 : x.c % 2 = (C.val : Int)) (h4 : x.d % 2 = (D.val : Int))
    (k1 : y.a % 2 = (A'.val : Int)) (k2 : y.b % 2 = (B'.val : Int)) (k3 : y.c % 2 = (C'.val : Int)) (k4 : y.d % 2 = (D'.val : Int)) (h : okF A B C D A' B' C' D' = true) : okM x y = true := by
  have f1 := A.isLt; have f2 := B.isLt; have f3 := C.isLt; have f4 := D.isLt
  have g1 := A'.isLt; have g2 := B'.isLt; have g3 := C'.isLt; have g4 := D'.isLt
  unfold okF at h
  unfold okM wtE
  rw [h1, h2, h3, h4, k1, k2, k3, k4]
  split at h
  · rename_i e
    simp only [Bool.and_eq_true, decide_eq_true_eq] at h
    obtain ⟨⟨⟨rfl, rfl⟩, rfl⟩, rfl⟩ := h
    rw [if_pos rfl]
    exact decide_eq_true ⟨rfl, rfl, rfl, rfl⟩
  · rename_i e
    simp only [Bool.and_eq_true, decide_eq_true_eq, ne_eq, Fin.ext_iff] at h
    rw [if_neg (by omega)]
    exact decide_eq_true ⟨by omega, by omega, by omega, by omega⟩
theorem match_ok {x y : Nm} (h : sumE x % 2 = sumE y % 2) (hx : ¬ x.even) (hy : ¬ y.even) : okM x (turnN (matchN x y) y) = true := by
  have key : okM x (turnN 0 y) = true ∨ okM x (turnN 1 y) = true ∨ okM x (turnN 2 y) = true ∨ okM x (turnN 3 y) = true := by
    obtain ⟨A, h1⟩ := res2 x.a
    obtain ⟨B, h2⟩ := res2 x.b
    obtain ⟨C, h3⟩ := res2 x.c
    obtain ⟨D, h4⟩ := res2 x.d
    obtain ⟨A', k1⟩ := res2 y.a
    obtain ⟨B', k2⟩ := res2 y.b
    obtain ⟨C', k3⟩ := res2 y.c
    obtain ⟨D', k4⟩ := res2 y.d
    have n1 : (-y.a) % 2 = (A'.val : Int) := by rw [neg2]; exact k1
    have n2 : (-y.b) % 2 = (B'.val : Int) := by rw [neg2]; exact k2
    have n3 : (-y.c) % 2 = (C'.val : Int) := by rw [neg2]; exact k3
    have n4 : (-y.d) % 2 = (D'.val : Int) := by rw [neg2]; exact k4
    have hx' : ¬ ((x.a + x.c) % 2 = 0 ∧ (x.b + x.d) % 2 = 0) := hx
    have hy' : ¬ ((y.a + y.c) % 2 = 0 ∧ (y.b + y.d) % 2 = 0) := hy
    unfold sumE at h
    have f1 := A.isLt; have f2 := B.isLt; have f3 := C.isLt; have f4 := D.isLt
    have g1 := A'.isLt; have g2 := B'.isLt; have g3 := C'.isLt; have g4 := D'.isLt
    rcases okF_key A B C D A' B' C' D' (by omega) (by rw [Fin.ext_iff, Fin.ext_iff]; omega) (by rw [Fin.ext_iff, Fin.ext_iff]; omega) with e | e | e | e
    · exact .inl (okM_F h1 h2 h3 h4 k1 k2 k3 k4 e)
    · exact .inr (.inl (okM_F h1 h2 h3 h4 n4 k1 k2 k3 e))
    · exact .inr (.inr (.inl (okM_F h1 h2 h3 h4 n3 n4 k1 k2 e)))
    · exact .inr (.inr (.inr (okM_F h1 h2 h3 h4 n2 n3 n4 k1 e)))
  unfold matchN
  by_cases h0 : okM x (turnN 0 y) = true
  · rw [if_pos h0]; exact h0
  · rw [if_neg h0]
    by_cases h1 : okM x (turnN 1 y) = true
    · rw [if_pos h1]; exact h1
    · rw [if_neg h1]
      by_cases h2 : okM x (turnN 2 y) = true
      · rw [if_pos h2]; exact h2
      · rw [if_neg h2]
        have h3 : okM x (turnN 3 y) = true := by
          rcases key with h | h | h | h
          · exact absurd h h0
          · exact absurd h h1
          · exact absurd h h2
          · exact h
        rw [if_pos h3]; exact h3
theorem turnN_k (n : Nat) (z : Nm) : (turnN n z).k = z.k := by
  match n with
  | 0 => rfl
  | 1 => rfl
  | 2 => rfl
  | _ + 3 => rfl
theorem turnN_val {n : Nat} (h : n < 4) (z : Nm) : (turnN n z).val = omP n * z.val := by
  match n, h with
  | 0, _ => show z.val = 1 * z.val; rw [Q4.one_mul]
  | 1, _ => show z.rot.val = omQ * 1 * z.val; rw [Q4.mul_one, rot_val]
  | 2, _ => show z.rot.rot.val = omQ * (omQ * 1) * z.val; rw [Q4.mul_one, rot_val, rot_val, Q4.mul_assoc]
  | 3, _ => show z.rot.rot.rot.val = omQ * (omQ * (omQ * 1)) * z.val; rw [Q4.mul_one, rot_val, rot_val, rot_val, Q4.mul_assoc, Q4.mul_assoc]
theorem match_lt (x y : Nm) : matchN x y < 4 := by
  unfold matchN
  split
  · omega
  · split
    · omega
    · split
      · omega
      · split <;> omega
theorem om_back : ∀ n, n < 4 → imQ * omP ((n + 6) % 8) = omP n ∧ omP ((n + 6) % 8) = -(imQ * omP n) := by
  intro n hn
  have e2 : omP 2 = imQ := by show omQ * (omQ * 1) = _; rw [Q4.mul_one, om_im]
  have ii : imQ * imQ = -1 := by apply Q4.ext' <;> simp only [imQ, Q4.ma, Q4.mb, Q4.mc, Q4.md, Q4.na, Q4.nb, Q4.nc, Q4.nd, Q4.oa, Q4.ob, Q4.oc, Q4.od] <;> grind
  have st : ∀ n, omP (n + 2) = imQ * omP n := fun n => by show omQ * (omQ * omP n) = _; rw [← Q4.mul_assoc, om_im]
  have s6 : ∀ n, omP (n + 6) = -(imQ * omP n) := fun n => by
    rw [st (n + 4), st (n + 2), st n, ← Q4.mul_assoc imQ imQ, ii, Q4.neg_mul, Q4.one_mul]
  have s8 : ∀ n, omP (n + 8) = omP n := fun n => by
    rw [st (n + 6), s6, Q4.mul_neg, ← Q4.mul_assoc, ii, Q4.neg_mul, Q4.one_mul, Q4.neg_neg]
  have key : omP ((n + 6) % 8) = -(imQ * omP n) := by
    rcases (by omega : n < 2 ∨ (n + 6) = (n - 2) + 8 ∧ n - 2 < 8) with h | h
    · rw [Nat.mod_eq_of_lt (by omega), s6]
    · rw [h.1, Nat.add_mod_right, Nat.mod_eq_of_lt (by omega), ← s8, ← h.1, s6]
  refine ⟨?_, key⟩
  rw [key, Q4.mul_neg, ← Q4.mul_assoc, ii, Q4.neg_mul, Q4.one_mul, Q4.neg_neg]
theorem nm_valN {z : Nm} {K : Nat} (h : z.k = K) : z = ⟨z.a, z.b, z.c, z.d, K⟩ := by rw [← h]
theorem val_neg4 (a b c d : Int) (k : Int) : (⟨-a, -b, -c, -d, k⟩ : Nm).val = -(⟨a, b, c, d, k⟩ : Nm).val := val_neg ⟨a, b, c, d, k⟩
theorem val_addK (a b c d a' b' c' d' : Int) (K : Nat) : (⟨a + a', b + b', c + c', d + d', K⟩ : Nm).val = (⟨a, b, c, d, K⟩ : Nm).val + (⟨a', b', c', d', K⟩ : Nm).val := by
  rw [valK K _ rfl, valK K _ rfl, valK K _ rfl, ← Q4.dn_add]
  congr 1
  apply Q4.ext' <;> simp only [Nm.co, Q4.aa, Q4.ab, Q4.ac, Q4.ad, Rat.intCast_add]
/-- A coupler makes both smaller, if y is turned to match x. -/
theorem pair_drop {x y : Nm} {K : Nat} (hK : 0 < K) (hx : x.k = K) (hy : y.k = K) (fx : x.Nf) (fy : y.Nf) (hs : sumE x % 2 = sumE y % 2) :
    (∃ t : Nm, 0 ≤ t.k ∧ t.val = hhQ * (x.val + imQ * (omP ((matchN x y + 6) % 8) * y.val)) ∧ dexp t.nf + 1 ≤ dexp x ∧ t.k ≤ K) ∧
    (∃ t : Nm, 0 ≤ t.k ∧ t.val = hhQ * (imQ * x.val + omP ((matchN x y + 6) % 8) * y.val) ∧ dexp t.nf + 1 ≤ dexp x ∧ t.k ≤ K) := by
  have nx : ¬ x.even := fx.resolve_left (by omega)
  have ny : ¬ y.even := fy.resolve_left (by omega)
  have hm := match_ok hs nx ny
  obtain ⟨ob, ob2⟩ := om_back _ (match_lt x y)
  have hv := turnN_val (match_lt x y) y
  have hyk := turnN_k (matchN x y) y
  generalize turnN (matchN x y) y = y' at hm hv hyk
  generalize matchN x y = n at ob ob2 hv
  have hdx : (dexp x : Int) = if sumE x % 2 = 1 then 2 * (K : Int) else 2 * K - 1 := by
    unfold dexp
    rw [if_neg (by omega), hx]
    split <;> omega
  have core : ∀ s : Nm, s.k = (K : Int) + 1 → (AllE s ∨ AllO s ∧ sumE x % 2 = 1) → ∃ t : Nm, 0 ≤ t.k ∧ t.val = s.val ∧ dexp t.nf + 1 ≤ dexp x ∧ t.k ≤ K := by
    intro s hsk h
    obtain ⟨d1, d2⟩ := drop_core (s := s) (K := K) (by omega) hsk
    rcases h with h | ⟨h, h1⟩
    · obtain ⟨t, t0, tk, tv⟩ := d1 h
      have := nf_dexp (z := t) (K := K - 1) t0 (by omega)
      refine ⟨t, t0, tv, ?_, by omega⟩
      split at hdx <;> omega
    · obtain ⟨t, tk, ts, tv⟩ := d2 h
      have := nf_dexp1 (z := t) (K := K) (by omega) (by omega) (by omega) ts
      refine ⟨t, by omega, tv, ?_, by omega⟩
      rw [if_pos h1] at hdx
      omega
  have par : (x.a % 2 = y'.a % 2 ∧ x.b % 2 = y'.b % 2 ∧ x.c % 2 = y'.c % 2 ∧ x.d % 2 = y'.d % 2) ∨
      (x.a % 2 = 1 - y'.a % 2 ∧ x.b % 2 = 1 - y'.b % 2 ∧ x.c % 2 = 1 - y'.c % 2 ∧ x.d % 2 = 1 - y'.d % 2) ∧ sumE x % 2 = 1 := by
    unfold okM at hm
    split at hm
    · exact .inl (of_decide_eq_true hm)
    · rename_i hw
      have h1 := of_decide_eq_true hm
      refine .inr ⟨h1, ?_⟩
      unfold wtE at hw
      have nx' : ¬ ((x.a + x.c) % 2 = 0 ∧ (x.b + x.d) % 2 = 0) := nx
      obtain ⟨c1, c2, c3, c4⟩ := h1
      unfold sumE
      rcases mod2 x.a with a1 | a1 <;> rcases mod2 x.b with a2 | a2 <;> rcases mod2 x.c with a3 | a3 <;> rcases mod2 x.d with a4 | a4 <;> omega
  have ex := nm_valN hx
  have ey := nm_valN (hyk.trans hy)
  constructor
  · obtain ⟨t, t0, tv, td, tk⟩ := core ⟨x.a + y'.a, x.b + y'.b, x.c + y'.c, x.d + y'.d, (K : Int) + 1⟩ rfl (by
      rcases par with ⟨h1, h2, h3, h4⟩ | ⟨⟨h1, h2, h3, h4⟩, h5⟩
      · exact .inl ⟨by show (x.a + y'.a) % 2 = 0; omega, by show (x.b + y'.b) % 2 = 0; omega, by show (x.c + y'.c) % 2 = 0; omega, by show (x.d + y'.d) % 2 = 0; omega⟩
      · exact .inr ⟨⟨by show (x.a + y'.a) % 2 = 1; omega, by show (x.b + y'.b) % 2 = 1; omega, by show (x.c + y'.c) % 2 = 1; omega, by show (x.d + y'.d) % 2 = 1; omega⟩, h5⟩)
    refine ⟨t, t0, tv.trans ?_, td, tk⟩
    rw [val_hh, val_addK, ← ex, ← ey, hv, ← Q4.mul_assoc imQ, ob]
  · obtain ⟨t, t0, tv, td, tk⟩ := core ⟨-(x.c - y'.c), -(x.d - y'.d), x.a - y'.a, x.b - y'.b, (K : Int) + 1⟩ rfl (by
      rcases par with ⟨h1, h2, h3, h4⟩ | ⟨⟨h1, h2, h3, h4⟩, h5⟩
      · exact .inl ⟨by show (-(x.c - y'.c)) % 2 = 0; omega, by show (-(x.d - y'.d)) % 2 = 0; omega, by show (x.a - y'.a) % 2 = 0; omega, by show (x.b - y'.b) % 2 = 0; omega⟩
      · exact .inr ⟨⟨by show (-(x.c - y'.c)) % 2 = 1; omega, by show (-(x.d - y'.d)) % 2 = 1; omega, by show (x.a - y'.a) % 2 = 1; omega, by show (x.b - y'.b) % 2 = 1; omega⟩, h5⟩)
    refine ⟨t, t0, tv.trans ?_, td, tk⟩
    have e1 : (⟨-(x.c - y'.c), -(x.d - y'.d), x.a - y'.a, x.b - y'.b, (K : Int)⟩ : Nm) = (⟨x.a + -y'.a, x.b + -y'.b, x.c + -y'.c, x.d + -y'.d, (K : Int)⟩ : Nm).rot.rot := by
      unfold Nm.rot
      simp only [Nm.mk.injEq]
      exact ⟨by omega, by omega, by omega, by omega, trivial⟩
    rw [val_hh, e1, rot_val, rot_val, val_addK, val_neg4, ← ex, ← ey, hv, ob2, ← Q4.mul_assoc omQ, om_im, Q4.mul_add, Q4.mul_neg, Q4.neg_mul, Q4.mul_assoc]
end Go.Proofs.Ytccbinnlnkpplaa
namespace Go.Proofs.Ytccbinnlnkpplaa
set_option linter.all false

def sqE (z : Nm) : Int := z.a * z.a + z.b * z.b + z.c * z.c + z.d * z.d
def crE' (z : Nm) : Int := z.a * z.b + z.b * z.c + z.c * z.d - z.d * z.a
theorem sqE_tr (z : Nm) : sqE z.tr = 2 * sqE z := by unfold sqE Nm.tr; simp only; grind
theorem crE_tr (z : Nm) : crE' z.tr = 2 * crE' z := by unfold crE' Nm.tr; simp only; grind
theorem sq2 (a : Int) : a * a % 2 = a % 2 := by
  rcases mod2 a with h | h <;> rw [Int.mul_emod, h] <;> rfl
theorem sqE_mod (z : Nm) : sqE z % 2 = sumE z % 2 := by
  unfold sqE sumE
  have h1 := sq2 z.a; have h2 := sq2 z.b; have h3 := sq2 z.c; have h4 := sq2 z.d
  generalize z.a * z.a = p at *
  generalize z.b * z.b = q at *
  generalize z.c * z.c = r at *
  generalize z.d * z.d = s at *
  omega
theorem crE_eq (z : Nm) : crE' z = (z.a + z.c) * (z.b + z.d) - 2 * (z.d * z.a) := by unfold crE'; grind
theorem crE_mod1 (z : Nm) (h : sumE z % 2 = 1) : crE' z % 2 = 0 := by
  rw [crE_eq]
  have h1 : (z.a + z.c) * (z.b + z.d) % 2 = 0 := by
    unfold sumE at h
    rcases (by omega : (z.a + z.c) % 2 = 0 ∨ (z.b + z.d) % 2 = 0) with e | e
    · rw [Int.mul_emod, e, Int.zero_mul]; rfl
    · rw [Int.mul_emod, e, Int.mul_zero]; rfl
  generalize (z.a + z.c) * (z.b + z.d) = p at *
  generalize z.d * z.a = q at *
  omega
theorem crE_mod2 (z : Nm) (h : sumE z % 2 = 0) (he : ¬ z.even) : crE' z % 2 = 1 := by
  rw [crE_eq]
  have h1 : (z.a + z.c) * (z.b + z.d) % 2 = 1 := by
    have he' : ¬ ((z.a + z.c) % 2 = 0 ∧ (z.b + z.d) % 2 = 0) := he
    unfold sumE at h
    have e1 : (z.a + z.c) % 2 = 1 := by omega
    have e2 : (z.b + z.d) % 2 = 1 := by omega
    rw [Int.mul_emod, e1, e2]; rfl
  generalize (z.a + z.c) * (z.b + z.d) = p at *
  generalize z.d * z.a = q at *
  omega

/-- The power of a number. -/
def pwQ (v : Q4) : Q4 := Q4.conj v * v
def pcQ (p q : Rat) : Q4 := ⟨p, q, 0, -q⟩
theorem pw_val {z : Nm} {K : Nat} (h : z.k = K) : pwQ z.val = Q4.dn (K + K) (pcQ (sqE z : Int) (crE' z : Int)) := by
  unfold pwQ
  rw [valK K z h, ← Q4.dn_conj, ← Q4.dn_mul2]
  congr 1
  apply Q4.ext' <;> simp only [Nm.co, pcQ, sqE, crE', Q4.ma, Q4.mb, Q4.mc, Q4.md, Q4.ca, Q4.cb, Q4.cc, Q4.cd, Rat.intCast_add, Rat.intCast_mul, Rat.intCast_sub] <;> grind
theorem dn_two' : ∀ K : Nat, Q4.dn (K + K) (pcQ (((2 : Int) ^ K : Int) : Rat) ((0 : Int) : Rat)) = 1
  | 0 => by
    show pcQ _ _ = 1
    apply Q4.ext' <;> simp only [pcQ, Q4.oa, Q4.ob, Q4.oc, Q4.od] <;> rfl
  | K + 1 => by
    rw [show K + 1 + (K + 1) = (K + K) + 1 + 1 by omega]
    show Q4.dn (K + K) (Q4.dh (Q4.dh _)) = 1
    rw [← dn_two' K]
    congr 1
    have e : ((2 : Int) ^ (K + 1) : Int) = 2 * 2 ^ K := by rw [Int.pow_succ]; omega
    rw [e]
    apply Q4.ext' <;> simp only [Q4.dh, pcQ, Rat.intCast_mul] <;> grind
def sumI : Nat → (Nat → Int) → Int
  | 0, _ => 0
  | n + 1, f => sumI n f + f n
theorem sumI_even {f : Nat → Int} : ∀ {n : Nat}, (∀ i, i < n → f i % 2 = 0) → sumI n f % 2 = 0
  | 0, _ => rfl
  | n + 1, h => by
    have := sumI_even fun i (hi : i < n) => h i (by omega)
    have := h n (by omega)
    simp only [sumI]
    omega
theorem sumI_odd {f : Nat → Int} {a : Nat} (ha : f a % 2 = 1) : ∀ {n : Nat}, a < n → (∀ i, i < n → i ≠ a → f i % 2 = 0) → sumI n f % 2 = 1
  | 0, h, _ => absurd h (by omega)
  | n + 1, h, h2 => by
    simp only [sumI]
    rcases (by omega : n = a ∨ a < n) with rfl | hn
    · have := sumI_even fun i (hi : i < n) => h2 i (by omega) (by omega)
      omega
    · have := sumI_odd ha hn fun i hi => h2 i (by omega)
      have := h2 n (by omega) (by omega)
      omega
theorem sumI_nonneg {f : Nat → Int} : ∀ {n : Nat}, (∀ i, i < n → 0 ≤ f i) → 0 ≤ sumI n f
  | 0, _ => Int.le_refl _
  | n + 1, h => by
    have := sumI_nonneg fun i (hi : i < n) => h i (by omega)
    have := h n (by omega)
    simp only [sumI]
    omega
/-- Whole numbers that are not below 0 and add up to 1. -/
theorem sumI_one {f : Nat → Int} : ∀ {n : Nat}, (∀ i, i < n → 0 ≤ f i) → sumI n f = 1 → ∃ a, a < n ∧ f a = 1 ∧ ∀ i, i < n → i ≠ a → f i = 0
  | 0, _, h => by simp [sumI] at h
  | n + 1, h, h1 => by
    simp only [sumI] at h1
    have h2 := sumI_nonneg fun i (hi : i < n) => h i (by omega)
    have h3 := h n (by omega)
    rcases (by omega : f n = 1 ∧ sumI n f = 0 ∨ f n = 0 ∧ sumI n f = 1) with ⟨e1, e2⟩ | ⟨e1, e2⟩
    · refine ⟨n, by omega, e1, fun i hi hne => ?_⟩
      exact sumI_zero (fun i hi => h i (by omega)) e2 i (by omega)
    · obtain ⟨a, ha, hf, hz⟩ := sumI_one (fun i hi => h i (by omega)) e2
      refine ⟨a, by omega, hf, fun i hi hne => ?_⟩
      rcases (by omega : i = n ∨ i < n) with rfl | hi
      · exact e1
      · exact hz i hi hne
where
  sumI_zero {f : Nat → Int} : ∀ {n : Nat}, (∀ i, i < n → 0 ≤ f i) → sumI n f = 0 → ∀ i, i < n → f i = 0
  | 0, _, _, i, hi => absurd hi (by omega)
  | n + 1, h, h1, i, hi => by
    simp only [sumI] at h1
    have h2 := sumI_nonneg fun i (hi : i < n) => h i (by omega)
    have h3 := h n (by omega)
    rcases (by omega : i = n ∨ i < n) with rfl | hi
    · omega
    · exact sumI_zero (fun i hi => h i (by omega)) (by omega) i hi

theorem sum_dn (K : Nat) (p q : Nat → Int) : ∀ n, sumQ n (fun i => Q4.dn K (pcQ (p i : Int) (q i : Int))) = Q4.dn K (pcQ (sumI n p : Int) (sumI n q : Int))
  | 0 => by
    have e : pcQ ((0 : Int) : Rat) ((0 : Int) : Rat) = 0 := by apply Q4.ext' <;> simp only [pcQ, Q4.za, Q4.zb, Q4.zc, Q4.zd] <;> rfl
    show (0 : Q4) = Q4.dn K (pcQ ((0 : Int) : Rat) ((0 : Int) : Rat))
    rw [e]
    clear e
    induction K with
    | zero => rfl
    | succ K ih =>
      show 0 = Q4.dn K (Q4.dh 0)
      have : Q4.dh 0 = 0 := by apply Q4.ext' <;> simp only [Q4.dh, Q4.za, Q4.zb, Q4.zc, Q4.zd] <;> grind
      rw [this]; exact ih
  | n + 1 => by
    simp only [sumQ, sumI]
    rw [sum_dn K p q n, ← Q4.dn_add]
    congr 1
    apply Q4.ext' <;> simp only [pcQ, Q4.aa, Q4.ab, Q4.ac, Q4.ad, Rat.intCast_add] <;> grind
/-- The powers of a column over one exponent. -/
theorem col_sums {n : Nat} {z : Nat → Nm} {K : Nat} (h0 : ∀ i, i < n → 0 ≤ (z i).k ∧ (z i).k ≤ K) (h : sumQ n (fun i => pwQ (z i).val) = 1) :
    sumI n (fun i => sqE ((z i).to K)) = 2 ^ K ∧ sumI n (fun i => crE' ((z i).to K)) = 0 := by
  have e : sumQ n (fun i => pwQ (z i).val) = sumQ n (fun i => Q4.dn (K + K) (pcQ (sqE ((z i).to K) : Int) (crE' ((z i).to K) : Int))) :=
    sumQ_congr fun i hi => by rw [← to_up (m := (K : Int)) (h0 i hi).1, pw_val (Nm.to_k (h0 i hi).2)]
  rw [e, sum_dn, ← dn_two' K] at h
  have h2 := Q4.dn_inj _ h
  have h3 : ((sumI n fun i => sqE ((z i).to K) : Int) : Rat) = ((2 ^ K : Int) : Rat) := congrArg Q4.a h2
  have h4 : ((sumI n fun i => crE' ((z i).to K) : Int) : Rat) = ((0 : Int) : Rat) := congrArg Q4.b h2
  exact ⟨Rat.intCast_inj.1 h3, Rat.intCast_inj.1 h4⟩
theorem to_tr {z : Nm} {K : Nat} (h : z.k < K) : ∃ y : Nm, z.to K = y.tr := by
  unfold Nm.to
  obtain ⟨m, hm⟩ : ∃ m, ((K : Int) - z.k).toNat = m + 1 := ⟨((K : Int) - z.k).toNat - 1, by omega⟩
  rw [hm, Nm.up_succ1]
  exact ⟨_, rfl⟩
theorem to_self {z : Nm} {K : Nat} (h : z.k = K) : z.to K = z := by
  unfold Nm.to
  rw [h, Int.sub_self]; rfl
theorem kind_cases (z : Nm) (K : Int) (h : z.k ≤ K) : (kindN z K = 0 ∧ z.k < K) ∨ (kindN z K = 1 ∧ z.k = K ∧ sumE z % 2 = 1) ∨ (kindN z K = 2 ∧ z.k = K ∧ sumE z % 2 = 0) := by
  unfold kindN
  split
  · exact .inl ⟨rfl, by assumption⟩
  · split
    · exact .inr (.inl ⟨rfl, by omega, by assumption⟩)
    · exact .inr (.inr ⟨rfl, by omega, by omega⟩)
/-- Where the powers of a column add up to 1 and the greatest exponent is not 0, no row of this exponent is alone of its kind. -/
theorem ex_pair {n : Nat} {z : Nat → Nm} {K : Nat} (hK : 0 < K) (h0 : ∀ i, i < n → (z i).Nf ∧ 0 ≤ (z i).k ∧ (z i).k ≤ K) (h : sumQ n (fun i => pwQ (z i).val) = 1) {a : Nat} (ha : a < n) (hka : (z a).k = K) :
    ∃ b, b < n ∧ b ≠ a ∧ kindN (z b) K = kindN (z a) K := by
  obtain ⟨s1, s2⟩ := col_sums (K := K) (fun i hi => (h0 i hi).2) h
  refine Decidable.byContradiction fun hno => ?_
  have hno' : ∀ b, b < n → b ≠ a → kindN (z b) K ≠ kindN (z a) K := fun b hb hne he => hno ⟨b, hb, hne, he⟩
  have h2K : (2 : Int) ^ K % 2 = 0 := by
    obtain ⟨m, rfl⟩ : ∃ m, K = m + 1 := ⟨K - 1, by omega⟩
    rw [Int.pow_succ]; omega
  have hz : ∀ i, i < n → (z i).k < K → sqE ((z i).to K) % 2 = 0 ∧ crE' ((z i).to K) % 2 = 0 := fun i hi hlt => by
    obtain ⟨y, hy⟩ := to_tr hlt
    rw [hy, sqE_tr, crE_tr]
    omega
  rcases kind_cases (z a) K (h0 a ha).2.2 with ⟨_, h1⟩ | ⟨k1, -, o1⟩ | ⟨k2, -, o2⟩
  · omega
  · have := sumI_odd (f := fun i => sqE ((z i).to K)) (a := a) (by show sqE ((z a).to K) % 2 = 1; rw [to_self hka, sqE_mod]; exact o1) ha fun i hi hne => by
      show sqE ((z i).to K) % 2 = 0
      rcases kind_cases (z i) K (h0 i hi).2.2 with ⟨_, h1⟩ | ⟨k1', -, -⟩ | ⟨-, e, o⟩
      · exact (hz i hi h1).1
      · exact absurd (k1'.trans k1.symm) (hno' i hi hne)
      · rw [to_self e, sqE_mod]; exact o
    omega
  · have := sumI_odd (f := fun i => crE' ((z i).to K)) (a := a) (by show crE' ((z a).to K) % 2 = 1; rw [to_self hka]; exact crE_mod2 _ o2 ((h0 a ha).1.resolve_left (by omega))) ha fun i hi hne => by
      show crE' ((z i).to K) % 2 = 0
      rcases kind_cases (z i) K (h0 i hi).2.2 with ⟨_, h1⟩ | ⟨-, e, o⟩ | ⟨k2', -, -⟩
      · exact (hz i hi h1).2
      · rw [to_self e]; exact crE_mod1 _ o
      · exact absurd (k2'.trans k2.symm) (hno' i hi hne)
    omega
theorem sq_one {a : Int} (h : a * a ≤ 1) : a = -1 ∨ a = 0 ∨ a = 1 := by
  rcases (by omega : a ≤ -2 ∨ 2 ≤ a ∨ a = -1 ∨ a = 0 ∨ a = 1) with e | e | e
  · have h1 := Int.mul_le_mul_of_nonneg_right (a := 2) (b := -a) (c := -a) (by omega) (by omega)
    rw [show -a * -a = a * a from Int.neg_mul_neg a a] at h1
    omega
  · have h1 := Int.mul_le_mul_of_nonneg_right (a := 2) (b := a) (c := a) (by omega) (by omega)
    omega
  · exact e
theorem sqs (a : Int) : 0 ≤ a * a := by
  rcases Int.le_total 0 a with h | h
  · exact Int.mul_nonneg h h
  · rw [← Int.neg_mul_neg]; exact Int.mul_nonneg (by omega) (by omega)
theorem unit_of {z : Nm} (hk : z.k = 0) (h : sqE z = 1) : z = ⟨1, 0, 0, 0, 0⟩ ∨ z = ⟨0, 1, 0, 0, 0⟩ ∨ z = ⟨0, 0, 1, 0, 0⟩ ∨ z = ⟨0, 0, 0, 1, 0⟩ ∨ z = ⟨-1, 0, 0, 0, 0⟩ ∨ z = ⟨0, -1, 0, 0, 0⟩ ∨ z = ⟨0, 0, -1, 0, 0⟩ ∨ z = ⟨0, 0, 0, -1, 0⟩ := by
  obtain ⟨a, b, c, d, k⟩ := z
  simp only at hk
  subst hk
  have h' : a * a + b * b + c * c + d * d = 1 := h
  have ha := sqs a; have hb := sqs b; have hc := sqs c; have hd := sqs d
  rcases sq_one (a := a) (by omega) with rfl | rfl | rfl <;> rcases sq_one (a := b) (by omega) with rfl | rfl | rfl <;>
    rcases sq_one (a := c) (by omega) with rfl | rfl | rfl <;> rcases sq_one (a := d) (by omega) with rfl | rfl | rfl <;>
    first | (exfalso; omega) | simp
theorem sq_zero {z : Nm} (hk : z.k = 0) (h : sqE z = 0) : z = Nm.zero := by
  obtain ⟨a, b, c, d, k⟩ := z
  simp only at hk
  subst hk
  have h' : a * a + b * b + c * c + d * d = 0 := h
  have ha := sqs a; have hb := sqs b; have hc := sqs c; have hd := sqs d
  have key : ∀ x : Int, x * x = 0 → x = 0 := fun x hx => by rcases Int.mul_eq_zero.1 hx with h | h <;> exact h
  rw [key a (by omega), key b (by omega), key c (by omega), key d (by omega)]; rfl
/-- A column of whole numbers of which the powers add up to 1. -/
theorem col_unit {n : Nat} {z : Nat → Nm} (h0 : ∀ i, i < n → (z i).k = 0) (h : sumQ n (fun i => pwQ (z i).val) = 1) :
    ∃ a, a < n ∧ sqE (z a) = 1 ∧ ∀ i, i < n → i ≠ a → z i = Nm.zero := by
  obtain ⟨s1, -⟩ := col_sums (K := 0) (fun i hi => by have := h0 i hi; omega) h
  have s1' : sumI n (fun i => sqE ((z i).to (0 : Nat))) = 1 := s1
  obtain ⟨a, ha, h1, h2⟩ := sumI_one (fun i hi => by show 0 ≤ sqE ((z i).to (0 : Nat)); unfold sqE; have := sqs ((z i).to (0 : Nat)).a; have := sqs ((z i).to (0 : Nat)).b; have := sqs ((z i).to (0 : Nat)).c; have := sqs ((z i).to (0 : Nat)).d; omega) s1'
  refine ⟨a, ha, by rw [← h1, to_self (h0 a ha)], fun i hi hne => ?_⟩
  have := h2 i hi hne
  rw [to_self (h0 i hi)] at this
  exact sq_zero (h0 i hi) this

/-! ### Bounds -/
theorem dn_a : ∀ (K : Nat) (x : Q4), (Q4.dn (K + K) x).a * ((2 : Int) ^ K : Int) = x.a
  | 0, x => by show x.a * ((1 : Int) : Rat) = x.a; grind
  | K + 1, x => by
    rw [show K + 1 + (K + 1) = (K + K) + 1 + 1 by omega]
    show (Q4.dn (K + K) (Q4.dh (Q4.dh x))).a * _ = _
    have e : ((2 : Int) ^ (K + 1) : Int) = 2 ^ K * 2 := Int.pow_succ ..
    rw [e, Rat.intCast_mul, ← Rat.mul_assoc, dn_a K]
    simp only [Q4.dh]
    grind
theorem sq_big {a B : Int} (hB : 0 ≤ B) (h : a * a ≤ B * B) : -B ≤ a ∧ a ≤ B := by
  have key : ∀ x : Int, B + 1 ≤ x → x * x ≤ B * B → False := fun x hx h => by
    have h1 := Int.mul_le_mul hx hx (by omega) (by omega)
    have h2 : (B + 1) * (B + 1) = B * B + 2 * B + 1 := by grind
    omega
  constructor
  · refine Decidable.byContradiction fun hn => key (-a) (by omega) (by rw [Int.neg_mul_neg]; exact h)
  · exact Decidable.byContradiction fun hn => key a (by omega) h
/-- A number of which the power is at most 2 and the exponent at most 40 is in range. -/
theorem fit_pw {z : Nm} (h0 : 0 ≤ z.k) (h1 : z.k ≤ 40) (h : (pwQ z.val).a ≤ 2) : z.Fit 1000000000 := by
  obtain ⟨K, hK⟩ : ∃ K : Nat, z.k = K := ⟨z.k.toNat, by omega⟩
  rw [pw_val hK] at h
  have e := dn_a K (pcQ (sqE z : Int) (crE' z : Int))
  generalize (Q4.dn (K + K) (pcQ (sqE z : Int) (crE' z : Int))).a = r at *
  have e' : r * ((2 : Int) ^ K : Int) = (sqE z : Rat) := e
  have h2 : (0 : Rat) ≤ (((2 : Int) ^ K : Int) : Rat) := by exact_mod_cast (Int.pow_nonneg (by omega) : (0 : Int) ≤ 2 ^ K)
  have h3 : (sqE z : Rat) ≤ 2 * (((2 : Int) ^ K : Int) : Rat) := by rw [← e']; exact Rat.mul_le_mul_of_nonneg_right h h2
  have h4 : sqE z ≤ 2 * 2 ^ K := by exact_mod_cast h3
  have h5 : (2 : Int) ^ K ≤ 2 ^ 40 := by exact_mod_cast (Nat.pow_le_pow_right (by omega) (by omega) : (2 : Nat) ^ K ≤ 2 ^ 40)
  have h6 : (2 : Int) ^ 40 = 1099511627776 := by decide
  have h7 : sqE z ≤ 1000000000 * 1000000000 := by omega
  unfold sqE at h7
  have ha := sqs z.a; have hb := sqs z.b; have hc := sqs z.c; have hd := sqs z.d
  have := sq_big (a := z.a) (B := 1000000000) (by omega) (by omega)
  have := sq_big (a := z.b) (B := 1000000000) (by omega) (by omega)
  have := sq_big (a := z.c) (B := 1000000000) (by omega) (by omega)
  have := sq_big (a := z.d) (B := 1000000000) (by omega) (by omega)
  constructor <;> omega
theorem pw_a (v : Q4) : 0 ≤ (pwQ v).a := by
  unfold pwQ; rw [Q4.mul_comm]; exact Q4.norm_nonneg v
theorem sumQ_le {f : Nat → Q4} : ∀ {n : Nat}, (∀ i, i < n → 0 ≤ (f i).a) → ∀ {j : Nat}, j < n → (f j).a ≤ (sumQ n f).a
  | 0, _, _, h => absurd h (by omega)
  | n + 1, h, j, hj => by
    simp only [sumQ, Q4.aa]
    have h1 := h n (by omega)
    have h2 := sumQ_a_nonneg fun i (hi : i < n) => h i (by omega)
    rcases (by omega : j = n ∨ j < n) with rfl | hj
    · grind
    · have := sumQ_le (fun i hi => h i (by omega)) hj
      grind
theorem un_pw {n : Nat} {m : Tb} (h : UnC n m) {i k : Nat} (hi : i < n) (hk : k < n) : (pwQ (m i k)).a ≤ 1 := by
  have h1 := h k k hk hk
  have e : dl k k = 1 := if_pos rfl
  rw [e] at h1
  have := sumQ_le (n := n) (f := fun j => pwQ (m j k)) (fun j _ => pw_a _) hi
  have h2 : (sumQ n fun j => pwQ (m j k)).a = 1 := by
    have : (sumQ n fun j => pwQ (m j k)) = 1 := h1
    rw [this]; rfl
  rw [h2] at this
  exact this
theorem un_col {n : Nat} {m : Tb} (h : UnC n m) {k : Nat} (hk : k < n) : sumQ n (fun i => pwQ (m i k)) = 1 := by
  have h1 := h k k hk hk
  have e : dl k k = 1 := if_pos rfl
  rw [e] at h1
  exact h1

/-! ### Two rows -/
theorem pw_mul (u v : Q4) : pwQ (u * v) = pwQ u * pwQ v := by
  unfold pwQ
  rw [Q4.conj_mul, mul4c]
theorem pw_conj (u : Q4) : pwQ (Q4.conj u) = pwQ u := by unfold pwQ; rw [Q4.conj_conj, Q4.mul_comm]
theorem pw_neg (u : Q4) : pwQ (-u) = pwQ u := by unfold pwQ; rw [Q4.conj_neg, Q4.neg_mul, Q4.mul_neg, Q4.neg_neg]
theorem two_pw {p s q t : Q4} (h1 : pwQ p + pwQ s = 1) (h2 : pwQ q + pwQ t = 1) (h3 : Q4.conj p * q + Q4.conj s * t = 0) : pwQ p = pwQ t ∧ pwQ q = pwQ s := by
  have e1 : Q4.conj p * q = -(Q4.conj s * t) := by
    have : Q4.conj p * q + Q4.conj s * t + -(Q4.conj s * t) = 0 + -(Q4.conj s * t) := congrArg (fun x => x + -(Q4.conj s * t)) h3
    rw [Q4.add_assoc, Q4.add_neg, Q4.add_zero, Q4.zero_add] at this
    exact this
  have e2 : pwQ p * pwQ q = pwQ s * pwQ t := by
    have := congrArg pwQ e1
    rw [pw_neg, pw_mul, pw_mul, pw_conj, pw_conj] at this
    exact this
  have e3 : pwQ q = 1 + -pwQ t := by rw [← h2, Q4.add_assoc, Q4.add_neg, Q4.add_zero]
  have e4 : pwQ s = 1 + -pwQ p := by rw [← h1, Q4.add_comm (pwQ p), Q4.add_assoc, Q4.add_neg, Q4.add_zero]
  rw [e3, e4, Q4.mul_add, Q4.mul_one, Q4.add_mul, Q4.one_mul, Q4.mul_neg, Q4.neg_mul] at e2
  have e5 : pwQ p = pwQ t := by
    have h5 : pwQ p + -(pwQ p * pwQ t) + pwQ p * pwQ t = pwQ t + -(pwQ p * pwQ t) + pwQ p * pwQ t := congrArg (fun x => x + pwQ p * pwQ t) e2
    rw [Q4.add_assoc, Q4.add_assoc, Q4.add_comm (-(pwQ p * pwQ t)), Q4.add_neg, Q4.add_zero, Q4.add_zero] at h5
    exact h5
  exact ⟨e5, by rw [e3, e4, e5]⟩
theorem pw_kle {x y : Nm} (hx : x.Nf) (hx0 : 0 ≤ x.k) (hy : y.Nf) (hy0 : 0 ≤ y.k) (h : pwQ x.val = pwQ y.val) : x.k ≤ y.k := by
  refine Decidable.byContradiction fun hn => ?_
  obtain ⟨K, hK⟩ : ∃ K : Nat, x.k = K := ⟨x.k.toNat, by omega⟩
  obtain ⟨w, hw⟩ := to_tr (z := y) (K := K) (by omega)
  have e := pw_val hK
  rw [h, ← to_up (m := (K : Int)) hy0, pw_val (Nm.to_k (by omega)), hw, sqE_tr, crE_tr] at e
  have e1 := Q4.dn_inj _ e
  have e2 : (2 * sqE w : Int) = sqE x := Rat.intCast_inj.1 (congrArg Q4.a e1 : ((2 * sqE w : Int) : Rat) = ((sqE x : Int) : Rat))
  have e3 : (2 * crE' w : Int) = crE' x := Rat.intCast_inj.1 (congrArg Q4.b e1 : ((2 * crE' w : Int) : Rat) = ((crE' x : Int) : Rat))
  have ne : ¬ x.even := hx.resolve_left (by omega)
  have m1 := sqE_mod x
  rcases mod2 (sumE x) with h0 | h1
  · have := crE_mod2 x h0 ne
    omega
  · omega
end Go.Proofs.Ytccbinnlnkpplaa
namespace Go.Proofs.Ytccbinnlnkpplaa
set_option linter.all false

def turnM : Nat → Nm → Nm
  | 0, z => z
  | n + 1, z => (turnM n z).rot
def mtR : NR → Nm
  | .ok z => z
  | .error _ => Nm.zero
/-- What a coupler makes of two numbers, on the first guide and on the second one. -/
def cX (x y : Nm) : Nm := mtR ((mtR (x.add y.rot.rot)).halve 1)
def cY (x y : Nm) : Nm := mtR ((mtR (x.rot.rot.add y)).halve 1)
theorem mk_val {x z : Nm} (hz : z.Ok) (hx : 0 ≤ x.k) (hv : x.val = z.val) : x.mk' = .ok z := by
  have h := nf_eq hx hz.k0 (eqv_val hx hz.k0 hv)
  have h2 : z.nf = z := nf_self hz.nf
  unfold Nm.mk'
  rw [h, h2, if_pos (small_yes hz.k1 hz.fit)]
theorem ok_mk {z : Nm} (hf : z.Nf) (h0 : 0 ≤ z.k) (h1 : z.k ≤ 40) (h : (pwQ z.val).a ≤ 2) : z.Ok := ⟨fit_pw h0 h1 h, h0, h1, hf.imp (by omega) id⟩
theorem rot2_val (z : Nm) : z.rot.rot.val = imQ * z.val := by rw [rot_val, rot_val, ← Q4.mul_assoc, om_im]
theorem pw_hh (v : Q4) : (pwQ v).a = 2 * (pwQ (hhQ * v)).a := by
  rw [pw_mul]
  have e1 : pwQ hhQ = ⟨1 / 2, 0, 0, 0⟩ := by
    unfold pwQ
    apply Q4.ext' <;> simp only [hhQ, Q4.ma, Q4.mb, Q4.mc, Q4.md, Q4.ca, Q4.cb, Q4.cc, Q4.cd] <;> grind
  rw [e1, Q4.ma]
  grind
theorem half_ok {s u : Nm} (hs0 : 0 ≤ s.k) (hs : s.k ≤ 40) (hu : u.Ok) (hv : u.val = hhQ * s.val) (hp : (pwQ u.val).a ≤ 1) : mtR ((mtR s.mk').halve 1) = u := by
  have h1 := nf_k hs0
  have v1 : s.nf.val = s.val := val_eqv h1.1 hs0 (nf_eqv s)
  have o1 : s.nf.Ok := ok_mk (nf_form s) h1.1 (by omega) (by rw [v1, pw_hh, ← hv]; grind)
  have e1 : s.mk' = .ok s.nf := mk_val o1 hs0 v1.symm
  rw [e1]
  show mtR (s.nf.halve 1) = u
  have e2 : s.nf.halve 1 = .ok u := by
    unfold Nm.halve
    obtain ⟨K, hK⟩ : ∃ K : Nat, s.nf.k = K := ⟨s.nf.k.toNat, by omega⟩
    refine mk_val hu (by show 0 ≤ s.nf.k + 1; omega) ?_
    rw [hv, ← v1]
    generalize s.nf = q at *
    obtain ⟨a, b, c, d, k⟩ := q
    simp only at hK
    subst hK
    exact val_hh a b c d K
  rw [e2]; rfl
theorem addR_le {x y : Nm} {E : Int} (hx : x.k ≤ E) (hy : y.k ≤ E) : (x.addR y).k ≤ E := by simp only [Nm.addR]; omega
theorem cX_val {x y u : Nm} (hx : x.Ok) (hy : y.Ok) (hu : u.Ok) (hv : u.val = hhQ * (x.val + imQ * y.val)) (hp : (pwQ u.val).a ≤ 1) : cX x y = u := by
  unfold cX Nm.add
  refine half_ok (addR_k hx.k0) (addR_le hx.k1 hy.k1) hu ?_ hp
  rw [val_addR (x := x) (y := y.rot.rot) hx.k0 hy.k0, rot2_val]
  exact hv
theorem cY_val {x y u : Nm} (hx : x.Ok) (hy : y.Ok) (hu : u.Ok) (hv : u.val = hhQ * (imQ * x.val + y.val)) (hp : (pwQ u.val).a ≤ 1) : cY x y = u := by
  unfold cY Nm.add
  refine half_ok (addR_k (show 0 ≤ x.k from hx.k0)) (addR_le hx.k1 hy.k1) hu ?_ hp
  rw [val_addR (x := x.rot.rot) (y := y) hx.k0 hy.k0, rot2_val]
  exact hv
theorem turnM_k (z : Nm) : ∀ n, (turnM n z).k = z.k
  | 0 => rfl
  | n + 1 => turnM_k z n
theorem turnM_val (z : Nm) : ∀ n, (turnM n z).val = omP n * z.val
  | 0 => by show z.val = 1 * z.val; rw [Q4.one_mul]
  | n + 1 => by show (turnM n z).rot.val = omQ * omP n * z.val; rw [rot_val, turnM_val z n, Q4.mul_assoc]
theorem turnM_ok {z : Nm} (h : z.Ok) : ∀ n, (turnM n z).Ok
  | 0 => h
  | n + 1 => rot_ok (turnM_ok h n)
theorem dexp_rot (z : Nm) : dexp z.rot = dexp z := by
  unfold dexp
  have e : sumE z.rot % 2 = sumE z % 2 := by unfold sumE Nm.rot; simp only; omega
  have e2 : z.rot.k = z.k := rfl
  rw [e, e2]
theorem dexp_turn (z : Nm) : ∀ n, dexp (turnM n z) = dexp z
  | 0 => rfl
  | n + 1 => by show dexp (turnM n z).rot = _; rw [dexp_rot, dexp_turn z n]

abbrev Zt := Nat → Nat → Nm
def vt (z : Zt) : Tb := fun i k => (z i k).val
def phZ (p n : Nat) (z : Zt) : Zt := fun i k => if i = p then turnM n (z i k) else z i k
def crZ (p : Nat) (z : Zt) : Zt := fun i k => z (swq p i) k
def cpZ (p : Nat) (z : Zt) : Zt := fun i k => if i = p then cX (z p k) (z (p + 1) k) else if i = p + 1 then cY (z p k) (z (p + 1) k) else z i k
theorem ph_vt (p n : Nat) (z : Zt) : vt (phZ p n z) = phQ p (omP n) (vt z) := by
  funext i k
  unfold vt phZ phQ
  split
  · exact turnM_val _ _
  · rfl
def sumM : Nat → (Nat → Nat) → Nat
  | 0, _ => 0
  | n + 1, f => sumM n f + f n
theorem sumM_congr {f g : Nat → Nat} : ∀ {n : Nat}, (∀ i, i < n → f i = g i) → sumM n f = sumM n g
  | 0, _ => rfl
  | n + 1, h => by simp only [sumM]; rw [sumM_congr fun i hi => h i (by omega), h n (by omega)]
theorem sumM_two {p d : Nat} {f g : Nat → Nat} (h : ∀ i, i ≠ p → i ≠ p + 1 → f i = g i) (h2 : f p + f (p + 1) + d ≤ g p + g (p + 1)) : ∀ n, p + 1 < n → sumM n f + d ≤ sumM n g
  | 0, hn => absurd hn (by omega)
  | n + 1, hn => by
    by_cases e : n = p + 1
    · subst e
      simp only [sumM]
      rw [sumM_congr fun i hi => h i (by omega) (by omega)]
      omega
    · simp only [sumM]
      have := sumM_two h h2 n (by omega)
      have := h n (by omega) (by omega)
      omega
theorem sumM_le {f : Nat → Nat} {M : Nat} : ∀ {n : Nat}, (∀ i, i < n → f i ≤ M) → sumM n f ≤ n * M
  | 0, _ => Nat.zero_le _
  | n + 1, h => by
    simp only [sumM]
    have := sumM_le fun i (hi : i < n) => h i (by omega)
    have := h n (by omega)
    rw [Nat.succ_mul]
    omega

/-- A unitary table, of which the first columns are those of the identity. -/
structure PI (N col : Nat) (z : Zt) : Prop where
  ok : ∀ i k, i < N → k < N → (z i k).Ok
  un : UnC N (vt z)
  idc : ∀ i c, i < N → c < col → c < N → (z i c).val = dl i c
def Bnd (N col : Nat) (B : Int) (z : Zt) : Prop := (B ≤ 40 ∧ ∀ i k, col ≤ i → i < N → k < N → (z i k).k + dexp (z i col) ≤ B) ∨ N ≤ col + 2
def muZ (N col : Nat) (z : Zt) : Nat := sumM N fun i => dexp (z i col)
theorem dl_ne {i k : Nat} (h : i ≠ k) : dl i k = 0 := if_neg h
theorem dl_self (i : Nat) : dl i i = 1 := if_pos rfl
theorem PI.low {N col : Nat} {z : Zt} (h : PI N col z) {i k : Nat} (hi : i < col) (hiN : i < N) (hk : k < N) : (z i k).val = dl i k := by
  have h1 := h.un i k hiN hk
  have e : sumQ N (fun j => Q4.conj (vt z j i) * vt z j k) = sumQ N (fun j => dl i j * vt z j k) := sumQ_congr fun j hj => by
    show Q4.conj (z j i).val * _ = _
    rw [h.idc j i hj hi hiN, dl_conj, dl_comm]
  rw [e, sumQ_dl _ hiN] at h1
  exact h1
theorem val0 {z : Nm} (h : z.Ok) (hv : z.val = 0) : z = Nm.zero := val_ok h zero_ok (by rw [hv, val_zero])
theorem PI.zero {N col : Nat} {z : Zt} (h : PI N col z) {i k : Nat} (hi : i < N) (hk : k < N) (hc : i < col ∨ k < col) (hne : i ≠ k) : z i k = Nm.zero := by
  refine val0 (h.ok i k hi hk) ?_
  rcases hc with hc | hc
  · rw [h.low hc hi hk, dl_ne hne]
  · rw [h.idc i k hi hc hk, dl_ne hne]
theorem swq_p (p : Nat) : swq p p = p + 1 := if_pos rfl
theorem swq_q (p : Nat) : swq p (p + 1) = p := by unfold swq; rw [if_neg (by omega), if_pos rfl]
theorem swq_o {p i : Nat} (h1 : i ≠ p) (h2 : i ≠ p + 1) : swq p i = i := by unfold swq; rw [if_neg h1, if_neg h2]
theorem swq_lt {N p i : Nat} (hp : p + 1 < N) (hi : i < N) : swq p i < N := by unfold swq; split; omega; split <;> omega
theorem swq_ge {col p i : Nat} (hp : col ≤ p) (hi : col ≤ i) : col ≤ swq p i := by unfold swq; split; omega; split <;> omega
theorem PI.cross {N col p : Nat} {z : Zt} {B : Int} (h : PI N col z) (hb : Bnd N col B z) (hp : col ≤ p) (hpN : p + 1 < N) :
    PI N col (crZ p z) ∧ Bnd N col B (crZ p z) ∧ muZ N col (crZ p z) ≤ muZ N col z := by
  refine ⟨⟨fun i k hi hk => h.ok _ k (swq_lt hpN hi) hk, cr_un hpN h.un, fun i c hi hc hcN => ?_⟩, ?_, ?_⟩
  · show (z (swq p i) c).val = _
    rw [h.idc _ c (swq_lt hpN hi) hc hcN]
    by_cases h1 : i = p
    · subst h1; rw [swq_p, dl_ne (by omega), dl_ne (by omega)]
    · by_cases h2 : i = p + 1
      · subst h2; rw [swq_q, dl_ne (by omega), dl_ne (by omega)]
      · rw [swq_o h1 h2]
  · refine hb.imp (fun ⟨b1, b2⟩ => ⟨b1, fun i k hi hiN hk => ?_⟩) id
    exact b2 (swq p i) k (swq_ge hp hi) (swq_lt hpN hiN) hk
  · have := sumM_two (p := p) (d := 0) (f := fun i => dexp (crZ p z i col)) (g := fun i => dexp (z i col)) (fun i h1 h2 => by show dexp (z (swq p i) col) = _; rw [swq_o h1 h2]) (by
      show dexp (z (swq p p) col) + dexp (z (swq p (p + 1)) col) + 0 ≤ _
      rw [swq_p, swq_q]; omega) N hpN
    exact this
theorem PI.phase {N col p n : Nat} {z : Zt} {B : Int} (h : PI N col z) (hb : Bnd N col B z) (hp : col ≤ p) (hpN : p < N) :
    PI N col (phZ p n z) ∧ Bnd N col B (phZ p n z) ∧ muZ N col (phZ p n z) ≤ muZ N col z := by
  have hd : ∀ i, dexp (phZ p n z i col) = dexp (z i col) := fun i => by unfold phZ; split; exact dexp_turn _ _; rfl
  have hk' : ∀ i k, (phZ p n z i k).k = (z i k).k := fun i k => by unfold phZ; split; exact turnM_k _ _; rfl
  refine ⟨⟨fun i k hi hk => ?_, by rw [ph_vt]; exact ph_un (omP_unit n) h.un, fun i c hi hc hcN => ?_⟩, ?_, ?_⟩
  · unfold phZ; split
    · exact turnM_ok (h.ok i k hi hk) n
    · exact h.ok i k hi hk
  · show vt (phZ p n z) i c = _
    rw [ph_vt]
    unfold phQ
    split
    · rename_i e
      subst e
      show _ * (z i c).val = _
      rw [h.idc i c hi hc hcN, dl_ne (by omega), Q4.mul_zero]
    · exact h.idc i c hi hc hcN
  · refine hb.imp (fun ⟨b1, b2⟩ => ⟨b1, fun i k hi hiN hk => ?_⟩) id
    rw [hd, hk']
    exact b2 i k hi hiN hk
  · unfold muZ
    rw [sumM_congr fun i _ => hd i]
    omega
theorem two_rows {a : Nat} {m : Tb} (h : UnC (a + 2) m) (hl : ∀ i k, i < a → k < a + 2 → m i k = dl i k) : pwQ (m a (a + 1)) = pwQ (m (a + 1) a) ∧ pwQ (m (a + 1) (a + 1)) = pwQ (m a a) := by
  have key : ∀ p q, a ≤ p → p < a + 2 → q < a + 2 → Q4.conj (m a p) * m a q + Q4.conj (m (a + 1) p) * m (a + 1) q = dl p q := fun p q hp hp2 hq => by
    have h1 := h p q hp2 hq
    have e : sumQ a (fun k => Q4.conj (m k p) * m k q) = 0 := by
      rw [sumQ_congr (g := fun _ => 0) fun k hk => by rw [hl k p hk hp2, dl_ne (by omega), Q4.conj_zero, Q4.zero_mul], sumQ_zero]
    simp only [sumQ] at h1
    rw [e, Q4.zero_add] at h1
    exact h1
  have k1 := key a a (by omega) (by omega) (by omega)
  have k2 := key (a + 1) (a + 1) (by omega) (by omega) (by omega)
  have k3 := key a (a + 1) (by omega) (by omega) (by omega)
  rw [dl_self] at k1 k2
  rw [dl_ne (by omega)] at k3
  obtain ⟨r1, r2⟩ := two_pw (p := m a a) (s := m (a + 1) a) (q := m a (a + 1)) (t := m (a + 1) (a + 1)) k1 k2 k3
  exact ⟨r2, r1.symm⟩
theorem nf_nf {t : Nm} (h0 : 0 ≤ t.k) : t.nf.Nf ∧ 0 ≤ t.nf.k ∧ t.nf.k ≤ t.k ∧ t.nf.val = t.val := by
  have h1 := nf_k h0
  exact ⟨nf_form t, h1.1, h1.2, val_eqv h1.1 h0 (nf_eqv t)⟩
/-- One coupler, on two rows of which it makes the elements in the column smaller. -/
theorem PI.couple {N col a K : Nat} {z : Zt} {B : Int} (h : PI N col z) (hb : Bnd N col B z) (ha : col ≤ a) (haN : a + 1 < N)
    (hK : (z a col).k = K) (hd : dexp (z (a + 1) col) = dexp (z a col))
    (h1 : ∃ t : Nm, 0 ≤ t.k ∧ t.val = hhQ * ((z a col).val + imQ * (z (a + 1) col).val) ∧ dexp t.nf + 1 ≤ dexp (z a col) ∧ t.k ≤ K)
    (h2 : ∃ t : Nm, 0 ≤ t.k ∧ t.val = hhQ * (imQ * (z a col).val + (z (a + 1) col).val) ∧ dexp t.nf + 1 ≤ dexp (z a col) ∧ t.k ≤ K) :
    PI N col (cpZ a z) ∧ Bnd N col B (cpZ a z) ∧ muZ N col (cpZ a z) + 2 ≤ muZ N col z ∧ ∀ i k, i < N → k < N → vt (cpZ a z) i k = cpQ a (vt z) i k := by
  have hcN : col < N := by omega
  have un := cp_un haN h.un
  have hK40 : K ≤ 40 := by have := (h.ok a col (by omega) hcN).k1; omega
  have ex : ∀ i, i = a ∨ i = a + 1 → ∃ t : Nm, 0 ≤ t.k ∧ t.val = cpQ a (vt z) i col ∧ dexp t.nf + 1 ≤ dexp (z a col) ∧ t.k ≤ K := by
    intro i hi
    rcases hi with rfl | rfl
    · have e : cpQ i (vt z) i col = hhQ * ((z i col).val + imQ * (z (i + 1) col).val) := if_pos rfl
      rw [e]; exact h1
    · have e : cpQ a (vt z) (a + 1) col = hhQ * (imQ * (z a col).val + (z (a + 1) col).val) := by unfold cpQ; rw [if_neg (by omega), if_pos rfl]; rfl
      rw [e]; exact h2
  have low : ∀ i k, i < col → k < N → cpQ a (vt z) i k = dl i k := fun i k hi hk => by
    unfold cpQ; rw [if_neg (by omega), if_neg (by omega)]; exact h.low hi (by omega) hk
  have zro : ∀ i k, i = a ∨ i = a + 1 → k < col → cpQ a (vt z) i k = 0 := fun i k hi hk => by
    have z1 : (z a k).val = 0 := by rw [h.idc a k (by omega) hk (by omega), dl_ne (by omega)]
    have z2 : (z (a + 1) k).val = 0 := by rw [h.idc (a + 1) k (by omega) hk (by omega), dl_ne (by omega)]
    unfold cpQ vt
    rw [z1, z2, Q4.mul_zero, Q4.add_zero, Q4.mul_zero]
    rcases hi with rfl | rfl
    · rw [if_pos rfl]
    · rw [if_neg (by omega), if_pos rfl]
  -- the new numbers
  have new : ∀ i k, i = a ∨ i = a + 1 → k < N → ∃ u : Nm, u.Ok ∧ u.val = cpQ a (vt z) i k ∧ ∀ E : Int, (z a k).k ≤ E → (z (a + 1) k).k ≤ E → u.k ≤ E + 1 := by
    intro i k hi hk
    have pw := un_pw un (i := i) (by omega) hk
    have inq : ∀ E : Nat, (z a k).k ≤ E → (z (a + 1) k).k ≤ E → InQ (E + 1) (cpQ a (vt z) i k) := fun E e1 e2 => by
      have i1 := in_le (h.ok a k (by omega) hk).k0 e1
      have i2 := in_le (h.ok (a + 1) k (by omega) hk).k0 e2
      rcases hi with rfl | rfl
      · have e : cpQ i (vt z) i k = hhQ * ((z i k).val + imQ * (z (i + 1) k).val) := if_pos rfl
        rw [e]; exact (i1.add i2.im).hh
      · have e : cpQ a (vt z) (a + 1) k = hhQ * (imQ * (z a k).val + (z (a + 1) k).val) := by unfold cpQ; rw [if_neg (by omega), if_pos rfl]; rfl
        rw [e]; exact (i1.im.add i2).hh
    obtain ⟨u, uf, u0, -, uv⟩ := nf_in (inq 40 (h.ok a k (by omega) hk).k1 (h.ok (a + 1) k (by omega) hk).k1)
    have ule : ∀ E : Int, (z a k).k ≤ E → (z (a + 1) k).k ≤ E → u.k ≤ E + 1 := fun E e1 e2 => by
      have k0 := (h.ok a k (by omega) hk).k0
      have := le_in uf u0 (by rw [uv]; exact inq E.toNat (by omega) (by omega))
      omega
    refine ⟨u, ok_mk uf u0 ?_ (by rw [uv]; grind), uv, ule⟩
    rcases hb with ⟨b1, b2⟩ | hN
    · have c1 := b2 a k ha (by omega) hk
      have c2 := b2 (a + 1) k (by omega) haN hk
      obtain ⟨t, -, -, td, -⟩ := h1
      have := ule (B - dexp (z a col)) (by omega) (by omega)
      omega
    · obtain rfl : col = a := by omega
      obtain rfl : N = col + 2 := by omega
      rcases (by omega : k < col ∨ k = col ∨ k = col + 1) with hk1 | rfl | rfl
      · have := nf_val uf u0 (zero_ok.nf) zero_ok.k0 (by rw [uv, zro i k hi hk1, val_zero])
        rw [this]; decide
      · obtain ⟨t, t0, tv, -, tk⟩ := ex i hi
        obtain ⟨nf1, nf2, nf3, nf4⟩ := nf_nf t0
        have := nf_val uf u0 nf1 nf2 (by rw [uv, nf4, tv])
        rw [this]; omega
      · have tw := two_rows un low
        have go : ∀ j, j = col ∨ j = col + 1 → pwQ (cpQ col (vt z) i (col + 1)) = pwQ (cpQ col (vt z) j col) → u.k ≤ 40 := fun j hj he => by
          obtain ⟨t, t0, tv, -, tk⟩ := ex j hj
          obtain ⟨nf1, nf2, nf3, nf4⟩ := nf_nf t0
          have := pw_kle uf u0 nf1 nf2 (by rw [uv, nf4, tv]; exact he)
          omega
        rcases hi with rfl | rfl
        · exact go (i + 1) (.inr rfl) tw.1
        · exact go col (.inl rfl) tw.2
  -- the table
  have val : ∀ i k, i < N → k < N → (cpZ a z i k).Ok ∧ vt (cpZ a z) i k = cpQ a (vt z) i k := by
    intro i k hi hk
    by_cases e1 : i = a
    · subst e1
      obtain ⟨u, uo, uv, -⟩ := new i k (.inl rfl) hk
      have pw := un_pw un (i := i) (by omega) hk
      have e : cpZ i z i k = u := by
        have e' : cpQ i (vt z) i k = hhQ * ((z i k).val + imQ * (z (i + 1) k).val) := if_pos rfl
        show (if i = i then _ else _) = _
        rw [if_pos rfl]
        exact cX_val (h.ok i k hi hk) (h.ok _ k haN hk) uo (uv.trans e') (by rw [uv]; exact pw)
      refine ⟨by rw [e]; exact uo, ?_⟩
      show (cpZ i z i k).val = _
      rw [e, uv]
    · by_cases e2 : i = a + 1
      · subst e2
        obtain ⟨u, uo, uv, -⟩ := new (a + 1) k (.inr rfl) hk
        have pw := un_pw un (i := a + 1) (by omega) hk
        have e : cpZ a z (a + 1) k = u := by
          have e' : cpQ a (vt z) (a + 1) k = hhQ * (imQ * (z a k).val + (z (a + 1) k).val) := by unfold cpQ; rw [if_neg (by omega), if_pos rfl]; rfl
          unfold cpZ
          rw [if_neg (by omega), if_pos rfl]
          exact cY_val (h.ok a k (by omega) hk) (h.ok _ k haN hk) uo (uv.trans e') (by rw [uv]; exact pw)
        refine ⟨by rw [e]; exact uo, ?_⟩
        show (cpZ a z (a + 1) k).val = _
        rw [e, uv]
      · have e : cpZ a z i k = z i k := by unfold cpZ; rw [if_neg e1, if_neg e2]
        refine ⟨by rw [e]; exact h.ok i k hi hk, ?_⟩
        show (cpZ a z i k).val = cpQ a (vt z) i k
        rw [e]
        unfold cpQ
        rw [if_neg e1, if_neg e2]; rfl
  have dn : ∀ i, i = a ∨ i = a + 1 → dexp (cpZ a z i col) + 1 ≤ dexp (z a col) := fun i hi => by
    obtain ⟨t, t0, tv, td, -⟩ := ex i hi
    obtain ⟨nf1, nf2, nf3, nf4⟩ := nf_nf t0
    have v := val i col (by omega) hcN
    have := nf_val v.1.nf v.1.k0 nf1 nf2 (by rw [nf4, tv]; exact v.2)
    rw [this]; exact td
  refine ⟨⟨fun i k hi hk => (val i k hi hk).1, ?_, fun i c hi hc hcN => ?_⟩, ?_, ?_, fun i k hi hk => (val i k hi hk).2⟩
  · intro i j hi hj
    rw [← un i j hi hj]
    exact sumQ_congr fun k hk => by rw [(val k i hk hi).2, (val k j hk hj).2]
  · show vt (cpZ a z) i c = _
    rw [(val i c hi hcN).2]
    rcases (by omega : (i = a ∨ i = a + 1) ∨ (i ≠ a ∧ i ≠ a + 1)) with e | ⟨e1, e2⟩
    · rw [zro i c e hc, dl_ne (by omega)]
    · unfold cpQ
      rw [if_neg e1, if_neg e2]
      exact h.idc i c hi hc hcN
  · refine hb.imp (fun ⟨b1, b2⟩ => ⟨b1, fun i k hi hiN hk => ?_⟩) id
    rcases (by omega : (i = a ∨ i = a + 1) ∨ (i ≠ a ∧ i ≠ a + 1)) with e | ⟨e1, e2⟩
    · obtain ⟨u, uo, uv, ule⟩ := new i k e hk
      have v := val i k hiN hk
      have eu : cpZ a z i k = u := val_ok v.1 uo (by rw [uv]; exact v.2)
      have c1 := b2 a k ha (by omega) hk
      have c2 := b2 (a + 1) k (by omega) haN hk
      have := ule (B - dexp (z a col)) (by omega) (by omega)
      have := dn i e
      rw [eu]
      omega
    · have e : ∀ k, cpZ a z i k = z i k := fun k => by unfold cpZ; rw [if_neg e1, if_neg e2]
      rw [e, e]
      exact b2 i k hi hiN hk
  · refine sumM_two (p := a) (fun i e1 e2 => ?_) ?_ N haN
    · show dexp (cpZ a z i col) = _
      unfold cpZ; rw [if_neg e1, if_neg e2]
    · have := dn a (.inl rfl)
      have := dn (a + 1) (.inr rfl)
      show dexp (cpZ a z a col) + dexp (cpZ a z (a + 1) col) + 2 ≤ dexp (z a col) + dexp (z (a + 1) col)
      omega
end Go.Proofs.Ytccbinnlnkpplaa
namespace Go.Proofs.Ytccbinnlnkpplaa
set_option linter.all false

theorem dexp_kind {x y : Nm} {K : Nat} (hK : 0 < K) (hx : x.k ≤ K) (hy : y.k ≤ K) (h : kindN x K = kindN y K) (h0 : kindN x K ≠ 0) : x.k = K ∧ y.k = K ∧ dexp x = dexp y ∧ sumE x % 2 = sumE y % 2 := by
  rcases kind_cases x K hx with ⟨e, -⟩ | ⟨e, e1, e2⟩ | ⟨e, e1, e2⟩
  · exact absurd e h0
  · rcases kind_cases y K hy with ⟨f, -⟩ | ⟨f, f1, f2⟩ | ⟨f, f1, f2⟩
    · omega
    · refine ⟨e1, f1, ?_, by omega⟩
      unfold dexp; rw [e1, f1, e2, f2]
    · omega
  · rcases kind_cases y K hy with ⟨f, -⟩ | ⟨f, f1, f2⟩ | ⟨f, f1, f2⟩
    · omega
    · omega
    · refine ⟨e1, f1, ?_, by omega⟩
      unfold dexp; rw [e1, f1, if_neg (by omega), if_neg (by omega), if_neg (by omega), if_neg (by omega)]
/-- The greatest exponent of a column from a row on. -/
def IsExp (N col : Nat) (z : Zt) (K : Int) : Prop := 0 ≤ K ∧ (∀ i, col ≤ i → i < N → (z i col).k ≤ K) ∧ (0 < K → ∃ i, col ≤ i ∧ i < N ∧ (z i col).k = K)
theorem PI.nf {N col : Nat} {z : Zt} (h : PI N col z) {i k : Nat} (hi : i < N) (hk : k < N) : (z i k).Nf := (h.ok i k hi hk).nf
theorem PI.klow {N col : Nat} {z : Zt} (h : PI N col z) {i : Nat} (hi : i < col) (hc : col < N) : z i col = Nm.zero := h.zero (by omega) hc (.inl hi) (by omega)
/-- There is a pair. -/
theorem PI.pair {N col K : Nat} {z : Zt} (h : PI N col z) (hc : col < N) (hK : 0 < K) (hE : IsExp N col z K) {a : Nat} (ha : col ≤ a) (haN : a < N) (hk : kindN (z a col) K ≠ 0) :
    ∃ b, col ≤ b ∧ b < N ∧ b ≠ a ∧ kindN (z b col) K = kindN (z a col) K := by
  have hle : ∀ i, i < N → (z i col).k ≤ K := fun i hi => by
    rcases Nat.lt_or_ge i col with hlt | hge
    · rw [h.klow hlt hc]; show (0 : Int) ≤ K; omega
    · exact hE.2.1 i hge hi
  have hka : (z a col).k = K := by
    rcases kind_cases (z a col) K (hle a haN) with ⟨e, -⟩ | ⟨-, e, -⟩ | ⟨-, e, -⟩
    · exact absurd e hk
    · exact e
    · exact e
  obtain ⟨b, hb, hne, he⟩ := ex_pair (z := fun i => z i col) hK (fun i hi => ⟨h.nf hi hc, (h.ok i col hi hc).k0, hle i hi⟩) (un_col h.un hc) haN hka
  refine ⟨b, ?_, hb, hne, he⟩
  refine Decidable.byContradiction fun hlt => ?_
  have e0 := h.klow (i := b) (by omega) hc
  rw [e0] at he
  have : kindN Nm.zero K = 0 := if_pos (by show (0 : Int) < K; omega)
  omega
/-- One pair of rows a and b, brought together, turned and coupled; ops says how. -/
theorem PI.step {N col a K : Nat} {z : Zt} {B : Int} (h : PI N col z) (hb : Bnd N col B z) (ha : col ≤ a) (haN : a + 1 < N) (hK : 0 < K)
    (k1 : (z a col).k ≤ K) (k2 : (z (a + 1) col).k ≤ K) (hk : kindN (z a col) K = kindN (z (a + 1) col) K) (h0 : kindN (z a col) K ≠ 0) :
    PI N col (cpZ a (phZ (a + 1) ((matchN (z a col) (z (a + 1) col) + 6) % 8) z)) ∧ Bnd N col B (cpZ a (phZ (a + 1) ((matchN (z a col) (z (a + 1) col) + 6) % 8) z)) ∧
    muZ N col (cpZ a (phZ (a + 1) ((matchN (z a col) (z (a + 1) col) + 6) % 8) z)) + 2 ≤ muZ N col z ∧
    ∀ i k, i < N → k < N → vt (cpZ a (phZ (a + 1) ((matchN (z a col) (z (a + 1) col) + 6) % 8) z)) i k = cpQ a (phQ (a + 1) (omP ((matchN (z a col) (z (a + 1) col) + 6) % 8)) (vt z)) i k := by
  have hc : col < N := by omega
  obtain ⟨e1, e2, e3, e4⟩ := dexp_kind hK k1 k2 hk h0
  obtain ⟨d1, d2⟩ := pair_drop hK e1 e2 (h.nf (by omega) hc) (h.nf haN hc) e4
  generalize (matchN (z a col) (z (a + 1) col) + 6) % 8 = n at *
  obtain ⟨p1, p2, p3⟩ := h.phase (n := n) hb (show col ≤ a + 1 by omega) haN
  have za : phZ (a + 1) n z a col = z a col := if_neg (by omega)
  have zb : phZ (a + 1) n z (a + 1) col = turnM n (z (a + 1) col) := if_pos rfl
  obtain ⟨q1, q2, q3, q4⟩ := p1.couple p2 ha haN (K := K) (by rw [za]; exact e1) (by rw [za, zb, dexp_turn]; exact e3.symm)
    (by rw [za, zb, turnM_val]; exact d1) (by rw [za, zb, turnM_val]; exact d2)
  refine ⟨q1, q2, by omega, fun i k hi hk => ?_⟩
  rw [q4 i k hi hk, ph_vt]
/-- A column without exponents has one element that is not 0, a power of w. -/
theorem PI.unit {N col : Nat} {z : Zt} (h : PI N col z) (hc : col < N) (h0 : ∀ i, col ≤ i → i < N → (z i col).k ≤ 0) :
    ∃ a, col ≤ a ∧ a < N ∧ (∃ n, n < 8 ∧ turnM n (z a col) = Nm.one) ∧ z a col ≠ Nm.zero ∧ ∀ i, i < N → i ≠ a → z i col = Nm.zero := by
  have h0' : ∀ i, i < N → (z i col).k = 0 := fun i hi => by
    rcases Nat.lt_or_ge i col with hlt | hge
    · rw [h.klow hlt hc]; rfl
    · have := h0 i hge hi
      have := (h.ok i col hi hc).k0
      omega
  obtain ⟨a, ha, h1, h2⟩ := col_unit (z := fun i => z i col) h0' (un_col h.un hc)
  have hne : z a col ≠ Nm.zero := fun e => by rw [e] at h1; cases (show (0 : Int) = 1 from h1)
  refine ⟨a, ?_, ha, ?_, hne, h2⟩
  · refine Decidable.byContradiction fun hlt => hne (h.klow (by omega) hc)
  · rcases unit_of (h0' a ha) h1 with e | e | e | e | e | e | e | e <;> rw [e]
    · exact ⟨0, by omega, rfl⟩
    · exact ⟨7, by omega, rfl⟩
    · exact ⟨6, by omega, rfl⟩
    · exact ⟨5, by omega, rfl⟩
    · exact ⟨4, by omega, rfl⟩
    · exact ⟨3, by omega, rfl⟩
    · exact ⟨2, by omega, rfl⟩
    · exact ⟨1, by omega, rfl⟩
/-- The column is that of the identity. -/
theorem PI.next {N col : Nat} {z : Zt} (h : PI N col z) (hc : col < N) (h1 : z col col = Nm.one) (h2 : ∀ i, i < N → i ≠ col → z i col = Nm.zero) : PI N (col + 1) z :=
  ⟨h.ok, h.un, fun i c hi hcc hcN => by
    rcases (by omega : c < col ∨ c = col) with hlt | rfl
    · exact h.idc i c hi hlt hcN
    · by_cases e : i = c
      · subst e; rw [h1, dl_self, val_one]
      · rw [h2 i hi e, dl_ne e, val_zero]⟩
/-- Bounds at the begin of a column. -/
def Cb (N col : Nat) (z : Zt) : Prop := N ≤ col + 2 ∨ ∃ E : Int, (N = col + 3 ∧ E ≤ 13 ∨ N = col + 4 ∧ E ≤ 4) ∧ ∀ i k, col ≤ i → i < N → k < N → (z i k).k ≤ E
theorem Cb.bnd {N col : Nat} {z : Zt} (h : Cb N col z) (hz : PI N col z) : ∃ B, Bnd N col B z ∧ (N = col + 4 → B ≤ 13) := by
  rcases h with h | ⟨E, hE, hk⟩
  · exact ⟨0, .inr h, by omega⟩
  · refine ⟨3 * E, .inl ⟨by omega, fun i k hi hiN hkN => ?_⟩, by omega⟩
    have h1 := hk i k hi hiN hkN
    have h2 := hk i col hi hiN (by omega)
    have h0 := (hz.ok i col hiN (by omega)).k0
    have := dexp_le (z i col) h2 (by omega)
    omega
theorem Bnd.next {N col : Nat} {z : Zt} {B : Int} (h : Bnd N col B z) (h4 : N = col + 4 → B ≤ 13) (hN : N ≤ col + 4) : Cb N (col + 1) z := by
  rcases h with ⟨b1, b2⟩ | h
  · rcases (by omega : N ≤ col + 3 ∨ N = col + 4) with e | e
    · exact .inl (by omega)
    · refine .inr ⟨B, .inl ⟨by omega, h4 e⟩, fun i k hi hiN hk => ?_⟩
      have := b2 i k (by omega) hiN hk
      omega
  · exact .inl (by omega)
theorem muZ_le {N col : Nat} {z : Zt} (h : PI N col z) (hc : col < N) : muZ N col z ≤ N * 80 := by
  refine sumM_le fun i hi => ?_
  have := dexp_le (z i col) (h.ok i col hi hc).k1 (by omega)
  omega
end Go.Proofs.Ytccbinnlnkpplaa
namespace Go.Proofs.Ytccbinnlnkpplaa
set_option linter.all false

section
variable {n : Nat}
theorem unC_dag {a : Nat → Nat → Q4} (ha : UnC n a) : UnC n fun i k => Q4.conj (a k i) := by
  intro k l hk hl
  have h := unR_of_unC ha k l hk hl
  rw [← h]
  exact sumQ_congr fun i _ => by rw [Q4.conj_conj]
theorem mul_assocT (a b c : Nat → Nat → Q4) (i k : Nat) : sumQ n (fun j => (sumQ n fun l => a i l * b l j) * c j k) = sumQ n fun l => a i l * sumQ n fun j => b l j * c j k := by
  have e1 : sumQ n (fun j => (sumQ n fun l => a i l * b l j) * c j k) = sumQ n fun j => sumQ n fun l => a i l * (b l j * c j k) :=
    sumQ_congr fun j _ => by
      rw [← sumQ_mulr]
      exact sumQ_congr fun l _ => Q4.mul_assoc _ _ _
  rw [e1, sumQ_swap]
  exact sumQ_congr fun l _ => sumQ_mul n (a i l) _
end

/-! ### Numbers -/
/-- The sum of products, one after the other. -/
def prodsR (x y : Nat → Nm) : Nat → NR
  | 0 => .ok Nm.zero
  | k + 1 => match prodsR x y k with
    | .error c => .error c
    | .ok s => match (x k).mul (y k) with
      | .error c => .error c
      | .ok p => s.add p
theorem prodsR_err {x y : Nat → Nm} {k : Nat} {c : Int} (h : prodsR x y k = .error c) : ∀ m, k ≤ m → prodsR x y m = .error c := by
  intro m hm
  induction m with
  | zero => obtain rfl : k = 0 := by omega
            exact h
  | succ m ih =>
    rcases (by omega : k = m + 1 ∨ k ≤ m) with rfl | hm
    · exact h
    · simp only [prodsR, ih hm]
theorem prodsR_val {x y : Nat → Nm} (hx : ∀ k, (x k).Ok) (hy : ∀ k, (y k).Ok) : ∀ {n : Nat} {z : Nm}, prodsR x y n = .ok z → z.Ok ∧ z.val = sumQ n fun k => (x k).val * (y k).val
  | 0, z, h => by
    cases h
    exact ⟨zero_ok, val_zero⟩
  | n + 1, z, h => by
    simp only [prodsR] at h
    split at h
    · cases h
    · next s hs =>
      split at h
      · cases h
      · next p hp =>
        obtain ⟨so, sv⟩ := prodsR_val hx hy hs
        obtain ⟨po, -, pe⟩ := mk_ok (mulR_k (hx n).k0 (hy n).k0) hp
        obtain ⟨zo, -, ze⟩ := mk_ok (addR_k so.k0) h
        refine ⟨zo, ?_⟩
        show _ = sumQ n _ + _
        rw [val_eqv zo.k0 (addR_k so.k0) ze, val_addR so.k0 po.k0, sv, val_eqv po.k0 (mulR_k (hx n).k0 (hy n).k0) pe, val_mulR (hx n).k0 (hy n).k0]
theorem prodsR_code {x y : Nat → Nm} : ∀ {n : Nat} {c : Int}, prodsR x y n = .error c → c = 4
  | 0, c, h => by cases h
  | n + 1, c, h => by
    simp only [prodsR] at h
    split at h
    · next c' hc => cases h; exact prodsR_code hc
    · split at h
      · next c' hc => cases h; exact mk_err hc
      · exact mk_err h
end Go.Proofs.Ytccbinnlnkpplaa
namespace Go.Proofs.Ytccbinnlnkpplaa
set_option linter.all false
open Go.RowKit

/-- Elements as rows of cells. -/
structure El (α : Type) where
  sz : Nat
  ec : α → List Value
  dflt : α
  pos : 0 < sz
  len : ∀ x, (ec x).length = sz
  one : ∀ x, ∀ v ∈ ec x, v.oneCell' = true
section
variable {α : Type} (E : El α)
def El.flat (xs : List α) : List Value := xs.flatMap E.ec
def El.at (xs : List α) (k : Nat) : α := xs.getD k E.dflt
theorem El.flat_cons (x : α) (xs : List α) : E.flat (x :: xs) = E.ec x ++ E.flat xs := by simp [El.flat]
theorem El.flat_app (xs ys : List α) : E.flat (xs ++ ys) = E.flat xs ++ E.flat ys := by simp [El.flat]
theorem El.flat_one (x : α) : E.flat [x] = E.ec x := by simp [El.flat]
theorem El.flat_len : ∀ xs : List α, (E.flat xs).length = xs.length * E.sz
  | [] => by simp [El.flat]
  | x :: xs => by rw [E.flat_cons, List.length_append, E.len, El.flat_len xs, List.length_cons, Nat.add_mul]; omega
theorem El.at_mem {xs : List α} {k : Nat} (h : k < xs.length) : E.at xs k ∈ xs := by
  unfold El.at; rw [List.getD_eq_getElem?_getD, List.getElem?_eq_getElem h]; exact List.getElem_mem h
theorem El.at_app {xs : List α} {k : Nat} (ys : List α) (h : k < xs.length) : E.at (xs ++ ys) k = E.at xs k := by
  unfold El.at; rw [List.getD_eq_getElem?_getD, List.getD_eq_getElem?_getD, List.getElem?_append_left h]
theorem El.at_snoc (xs : List α) (y : α) : E.at (xs ++ [y]) xs.length = y := by
  unfold El.at; rw [List.getD_eq_getElem?_getD]; simp
theorem El.get : ∀ (l : List α) (k r : Nat), k < l.length → r < E.sz → (E.flat l)[k * E.sz + r]? = (E.ec (E.at l k))[r]?
  | [], k, r, hk, _ => by simp at hk
  | x :: l, 0, r, _, hr => by
    rw [E.flat_cons, Nat.zero_mul, Nat.zero_add, List.getElem?_append_left (by rw [E.len]; exact hr)]
    simp [El.at]
  | x :: l, k + 1, r, hk, hr => by
    have e2 : (k + 1) * E.sz + r - (E.ec x).length = k * E.sz + r := by rw [E.len, Nat.add_mul]; omega
    rw [E.flat_cons, List.getElem?_append_right (by rw [E.len, Nat.add_mul]; omega), e2, El.get l k r (by simpa using hk) hr]
    simp [El.at]
theorem El.flat_one' (xs : List α) : ∀ v ∈ E.flat xs, v.oneCell' = true := by
  intro v hv
  obtain ⟨x, _, hx⟩ := List.mem_flatMap.1 hv
  exact E.one x v hx
/-- An element at its place. -/
def At (w : World) (b off : Nat) (x : α) : Prop := ∀ r, r < E.sz → w.cell? ⟨b, off + r, none⟩ = (E.ec x)[r]?
variable {E}
theorem AS.openG {w : World} {a : Option Addr} {xs : List α} (h : AS w a (E.flat xs)) (hn : 0 < xs.length) :
    ∃ b off, a = some ⟨b, off, none⟩ ∧ b < w.heap.size ∧ ∀ j, j < xs.length → At E w b (off + j * E.sz) (E.at xs j) := by
  have hl := E.flat_len xs
  have hp := E.pos
  have hne : E.flat xs ≠ [] := by
    intro e
    rw [e, List.length_nil] at hl
    have := Nat.mul_pos hn hp
    omega
  obtain ⟨b, off, rfl, hlt, hc⟩ := h hne
  refine ⟨b, off, rfl, hlt, fun j hj r hr => ?_⟩
  rw [Nat.add_assoc, hc (j * E.sz + r) (by rw [hl]; have := Nat.mul_le_mul_right E.sz (show j + 1 ≤ xs.length by omega); rw [Nat.add_mul] at this; omega)]
  exact E.get xs j r hj hr
theorem At.kn {B w : World} {F : List Nat} {s : List Blk} {b off : Nat} {x : α} (h : At E B b off x) (K : Kn B F s w) (hb : b < B.heap.size) (hF : b ∉ F) : At E w b off x :=
  fun r hr => (K.cellB hb hF _).trans (h r hr)
theorem At.below {w w' : World} {b off : Nat} {x : α} (h : At E w b off x) (hb : b < w.heap.size) (hB : Below w.heap.size w w') : At E w' b off x :=
  fun r hr => (hB.cell (p := ⟨b, off + r, none⟩) hb).trans (h r hr)
/-- A list that the call owns; e: the elements' type. -/
def OwnG (E : El α) (e : Nat) (u : List Blk) (v : Value) (xs : List α) : Prop := Own e E.sz u v xs.length (E.flat xs)
theorem OwnG.nil {e : Nat} : OwnG E e [] (.slice none 0 0) [] := Own.nil _ _
theorem OwnG.as {e : Nat} {u s : List Blk} {v : Value} {xs : List α} {B w : World} {F : List Nat} (h : OwnG E e u v xs) (K : Kn B F (u ++ s) w) : ∃ a cap, v = .slice a xs.length cap ∧ AS w a (E.flat xs) := Own.as h K
end

section
variable {R : Option Nat} {P : Program} {ops : Array Oper} {Q : Exit → Act → World → Prop} {B : World} {F : List Nat} {s0 : Option (List Blk × List Blk)}
variable {l : List (Oper × Nat)} {a : Act} {s S : List Blk} {d : Option Tmp} {op : Op} {t : TypeId} {p : String} {af : Array Edge} {v : Value}
variable {α : Type} {E : El α}
/-- append of known elements. -/
theorem rg_appendG {so xo : Operand} {ty e : Nat} {i : TypeInfo} {z : Value} {u : List Blk} {xs ys : List α} {ad : Addr} {c m : Nat} {gd : Option (Nat × Bool)} (hg : Region.wanted ⟨d, .call ⟨.builtin .append, #[so, xo], #[ty, ty]⟩, t, p, af, gd⟩ (yielded ops a.tmps) = true)
    (ht : P.underlying ty = some (.slice e)) (hi : P.info? e = some i) (hz : i.zero = some z) (hsize : i.size = E.sz) (hzs : z.cells.size = E.sz) (hby : i.bytes ≤ 1000)
    (hs : a.eval so = v) (hown : OwnG E e u v xs) (hx : a.eval xo = .slice (some ad) m c) (hm : m = ys.length) (hn : xs.length + ys.length ≤ 100000000) (hp : S.Perm (u ++ s))
    (hnews : ∀ w, Kn B F S w → ∀ j x, (E.flat ys)[j]? = some x → w.cell? (ad.add j) = some x)
    (hzz : ∀ z ∈ s0, z.1.Sublist s) (h : ∀ u' v', OwnG E e u' v' (xs ++ ys) → Rg R P ops Q B F s0 l (a.put d v') (u' ++ s)) :
    Rg R P ops Q B F s0 ((⟨d, .call ⟨.builtin .append, #[so, xo], #[ty, ty]⟩, t, p, af, gd⟩, 1) :: l) a S := by
  subst hm
  refine rg_append (u := u) (s := s) (i := i) (z := z) (size := E.sz) (bytes := i.bytes) (n := xs.length) (m := ys.length) (c := c) (xs := E.flat xs) (news := E.flat ys) (ad := ad) hg ht hi hz hsize rfl hzs E.pos hs hown hx
    (E.flat_len ys) hnews (E.flat_one' ys) (by simp only [maxLen]; omega) (by have := Nat.mul_le_mul hn hby; omega) hp hzz ?_
  intro u' v' hO _
  refine h u' v' ?_
  unfold OwnG
  rw [E.flat_app, List.length_append]
  exact hO
/-- append of one element that stands in a block of its own. -/
theorem rg_append1 {so xo : Operand} {ty e : Nat} {i : TypeInfo} {z : Value} {u : List Blk} {xs : List α} {x : α} {g : Nat} {gd : Option (Nat × Bool)} (hg : Region.wanted ⟨d, .call ⟨.builtin .append, #[so, xo], #[ty, ty]⟩, t, p, af, gd⟩ (yielded ops a.tmps) = true)
    (ht : P.underlying ty = some (.slice e)) (hi : P.info? e = some i) (hz : i.zero = some z) (hsize : i.size = E.sz) (hzs : z.cells.size = E.sz) (hby : i.bytes ≤ 1000)
    (hs : a.eval so = v) (hown : OwnG E e u v xs) (hx : a.eval xo = .slice (some ⟨g, 0, none⟩) 1 1) (hn : xs.length ≤ 10000000) (hp : S.Perm (u ++ s))
    (hnews : ∀ w, Kn B F S w → Hd w g e (E.ec x).toArray)
    (hzz : ∀ z ∈ s0, z.1.Sublist s) (h : ∀ u' v', OwnG E e u' v' (xs ++ [x]) → Rg R P ops Q B F s0 l (a.put d v') (u' ++ s)) :
    Rg R P ops Q B F s0 ((⟨d, .call ⟨.builtin .append, #[so, xo], #[ty, ty]⟩, t, p, af, gd⟩, 1) :: l) a S :=
  rg_appendG (ys := [x]) hg ht hi hz hsize hzs hby hs hown hx rfl (by simp; omega) hp (fun w K j y hj => by
    have hd := (hnews w K).cell j
    have e1 : (⟨g, 0, none⟩ : Addr).add j = ⟨g, j, none⟩ := by unfold Addr.add; split <;> simp_all
    rw [E.flat_one] at hj
    rw [e1, hd, ← hj]
    simp) hzz h

end

/-! ### Numbers -/
abbrev nmC (z : Nm) : List Value := [.int .i64 z.a, .int .i64 z.b, .int .i64 z.c, .int .i64 z.d, .int .i64 z.k]
abbrev nmV (z : Nm) : Value := .agg #[.int .i64 z.a, .int .i64 z.b, .int .i64 z.c, .int .i64 z.d, .int .i64 z.k]
abbrev NmE : El Nm := ⟨5, nmC, Nm.zero, by decide, fun _ => rfl, fun x v hv => by simp at hv; rcases hv with rfl | rfl | rfl | rfl | rfl <;> rfl⟩
abbrev nms (xs : List Nm) : List Value := NmE.flat xs
abbrev nm (xs : List Nm) (k : Nat) : Nm := NmE.at xs k
structure NmAt (w : World) (b off : Nat) (z : Nm) : Prop where
  c0 : w.cell? ⟨b, off, none⟩ = some (.int .i64 z.a)
  c1 : w.cell? ⟨b, off + 1, none⟩ = some (.int .i64 z.b)
  c2 : w.cell? ⟨b, off + 2, none⟩ = some (.int .i64 z.c)
  c3 : w.cell? ⟨b, off + 3, none⟩ = some (.int .i64 z.d)
  c4 : w.cell? ⟨b, off + 4, none⟩ = some (.int .i64 z.k)
theorem AS.openN {w : World} {a : Option Addr} {xs : List Nm} (h : AS w a (nms xs)) (hn : 0 < xs.length) :
    ∃ b off, a = some ⟨b, off, none⟩ ∧ b < w.heap.size ∧ ∀ j, j < xs.length → NmAt w b (off + j * 5) (nm xs j) := by
  obtain ⟨b, off, ha, hb, hc⟩ := h.openG hn
  exact ⟨b, off, ha, hb, fun j hj => ⟨hc j hj 0 (by decide), hc j hj 1 (by decide), hc j hj 2 (by decide), hc j hj 3 (by decide), hc j hj 4 (by decide)⟩⟩
theorem NmAt.kn {B w : World} {F : List Nat} {s : List Blk} {b off : Nat} {z : Nm} (h : NmAt B b off z) (K : Kn B F s w) (hb : b < B.heap.size) (hF : b ∉ F) : NmAt w b off z :=
  ⟨(K.cellB hb hF _).trans h.c0, (K.cellB hb hF _).trans h.c1, (K.cellB hb hF _).trans h.c2, (K.cellB hb hF _).trans h.c3, (K.cellB hb hF _).trans h.c4⟩
/-- A number, or the number 0 and an error. -/
def numV (r : NR) : Value := match r with
  | .ok z => .tuple #[nmV z, .int .i64 0]
  | .error c => .tuple #[nmV Nm.zero, .int .i64 c]
section
variable {R : Option Nat} {P : Program} {ops : Array Oper} {Q : Exit → Act → World → Prop} {B : World} {F : List Nat} {s0 : Option (List Blk × List Blk)}
variable {l : List (Oper × Nat)} {a : Act} {s S : List Blk} {d : Option Tmp} {op : Op} {t : TypeId} {p : String} {af : Array Edge} {v : Value}
theorem rg_num {f : Nat} {cargs : Array Operand} {at_ : Array TypeId} {args : Array Value} {r : NR} {c0 : Int} {gd : Option (Nat × Bool)} (hg : Region.wanted ⟨d, .call ⟨.value (.func f), cargs, at_⟩, t, p, af, gd⟩ (yielded ops a.tmps) = true) (hgo : isGo P f = true)
    (h : ∀ w, Kn B F s w → Calls P f args w (fun e w' => e = .returned (numV r) ∧ Below w.heap.size w w')) (hargs : cargs.map a.eval = args)
    (hz : ∀ z ∈ s0, z.1.Sublist s) (hc : ∀ c, r = .error c → c = c0) (ke : r = .error c0 → Rg R P ops Q B F s0 l (a.put d (.tuple #[nmV Nm.zero, .int .i64 c0])) s)
    (k : ∀ z, r = .ok z → Rg R P ops Q B F s0 l (a.put d (.tuple #[nmV z, .int .i64 0])) s) :
    Rg R P ops Q B F s0 ((⟨d, .call ⟨.value (.func f), cargs, at_⟩, t, p, af, gd⟩, 1) :: l) a s := by
  refine rg_pure hg hgo h hargs hz ?_
  cases hr : r with
  | ok z => exact k z hr
  | error c => have := hc c hr; subst this; exact ke hr
end
end Go.Proofs.Ytccbinnlnkpplaa
namespace Go.Proofs.Ytccbinnlnkpplaa
set_option linter.all false

abbrev LR := Except Int (List Nm)
/-- The first t elements, or the first error. -/
def gather (f : Nat → NR) : Nat → LR
  | 0 => .ok []
  | t + 1 => match gather f t with
    | .error c => .error c
    | .ok l => match f t with
      | .ok z => .ok (l ++ [z])
      | .error c => .error c
theorem gather_ok {f : Nat → NR} {t : Nat} {l : List Nm} {z : Nm} (h : gather f t = .ok l) (hz : f t = .ok z) : gather f (t + 1) = .ok (l ++ [z]) := by
  simp only [gather, h, hz]
theorem gather_err {f : Nat → NR} {t : Nat} {l : List Nm} {c : Int} (h : gather f t = .ok l) (hz : f t = .error c) : ∀ m, t < m → gather f m = .error c := by
  intro m hm
  induction m with
  | zero => omega
  | succ m ih =>
    rcases (by omega : t = m ∨ t < m) with rfl | hm
    · simp only [gather, h, hz]
    · simp only [gather, ih hm]
theorem gather_len {f : Nat → NR} : ∀ {t : Nat} {l : List Nm}, gather f t = .ok l → l.length = t
  | 0, l, h => by cases h; rfl
  | t + 1, l, h => by
    simp only [gather] at h
    split at h
    · cases h
    · next l0 h0 =>
      split at h
      · cases h
        simp [gather_len h0]
      · cases h
theorem gather_get {f : Nat → NR} : ∀ {t : Nat} {l : List Nm}, gather f t = .ok l → ∀ i, i < t → f i = .ok (nm l i)
  | 0, _, _, i, hi => by omega
  | t + 1, l, h, i, hi => by
    simp only [gather] at h
    split at h
    · cases h
    · next l0 h0 =>
      split at h
      · next z hz =>
        cases h
        have hl := gather_len h0
        rcases (by omega : i < t ∨ i = t) with h1 | rfl
        · rw [gather_get h0 i h1]
          exact congrArg _ (NmE.at_app [z] (by omega)).symm
        · rw [hz, ← hl]
          exact congrArg _ (NmE.at_snoc l0 z).symm
      · cases h
theorem gather_congr {f g : Nat → NR} : ∀ t, (∀ i, i < t → f i = g i) → gather f t = gather g t
  | 0, _ => rfl
  | t + 1, h => by simp only [gather, gather_congr t fun i hi => h i (by omega), h t (by omega)]
theorem gather_err_mem {f : Nat → NR} {c : Int} : ∀ {t : Nat}, gather f t = .error c → ∃ i, i < t ∧ f i = .error c
  | 0, h => by cases h
  | t + 1, h => by
    simp only [gather] at h
    split at h
    · next c' h0 =>
      cases h
      obtain ⟨i, hi, he⟩ := gather_err_mem h0
      exact ⟨i, by omega, he⟩
    · split at h
      · cases h
      · next c' he =>
        cases h
        exact ⟨t, by omega, he⟩
theorem gather_pure (f : Nat → Nm) : ∀ t, gather (fun i => .ok (f i)) t = .ok ((List.range t).map f)
  | 0 => rfl
  | t + 1 => by simp only [gather, gather_pure f t, List.range_succ, List.map_append, List.map_cons, List.map_nil]
/-- What a matrix that is made has: its number of rows, its elements, the error. -/
def rN (N : Nat) (r : LR) : Int := match r with
  | .ok _ => N
  | .error _ => 0
def rL (r : LR) : List Nm := match r with
  | .ok l => l
  | .error _ => []
def rC (r : LR) : Int := match r with
  | .ok _ => 0
  | .error c => c
/-- The matrix of a function of row and column. -/
def madeR (N : Nat) (f : Nat → Nat → NR) : LR := gather (fun t => f (t / N) (t % N)) (N * N)
theorem ix_div {N i k : Nat} (hk : k < N) : (i * N + k) / N = i := by
  rw [Nat.mul_comm, Nat.mul_add_div (by omega), Nat.div_eq_of_lt hk, Nat.add_zero]
theorem ix_mod {N i k : Nat} (hk : k < N) : (i * N + k) % N = k := by
  rw [Nat.mul_comm, Nat.mul_add_mod, Nat.mod_eq_of_lt hk]
theorem ix_lt {N i k : Nat} (hi : i < N) (hk : k < N) : i * N + k < N * N := by
  have := Nat.mul_le_mul_right N (show i + 1 ≤ N by omega)
  rw [Nat.add_mul, Nat.one_mul] at this
  omega
theorem made_get {N : Nat} {f : Nat → Nat → NR} {l : List Nm} (h : madeR N f = .ok l) {i k : Nat} (hi : i < N) (hk : k < N) : f i k = .ok (nm l (i * N + k)) := by
  have := gather_get h (i * N + k) (ix_lt hi hk)
  rwa [ix_div hk, ix_mod hk] at this
theorem made_len {N : Nat} {f : Nat → Nat → NR} {l : List Nm} (h : madeR N f = .ok l) : l.length = N * N := gather_len h

end Go.Proofs.Ytccbinnlnkpplaa
namespace Go.Proofs.Ytccbinnlnkpplaa
set_option linter.all false
theorem q1 {α : Type} {xs : List α} {i : Nat} {a : α} : xs.toArray.setIfInBounds i a = (xs.set i a).toArray := List.setIfInBounds_toArray ..
theorem q2 {α : Type} {x a : α} {xs : List α} : (x :: xs).set 0 a = a :: xs := rfl
theorem q3 {α : Type} {x a : α} {xs : List α} {n : Nat} : (x :: xs).set (n + 1) a = x :: xs.set n a := rfl
theorem q4 {α : Type} {xs : Array α} {i : Nat} {d : α} : xs.getD i d = xs[i]?.getD d := Array.getD_eq_getD_getElem? ..
theorem q5 {α : Type} {xs : List α} {i : Nat} : xs.toArray[i]? = xs[i]? := List.getElem?_toArray ..
theorem q6 {α : Type} {x : α} {xs : List α} : (x :: xs)[0]? = some x := rfl
theorem q7 {α : Type} {x : α} {xs : List α} {n : Nat} : (x :: xs)[n + 1]? = xs[n]? := rfl
theorem q8 {α : Type} {x y : α} : (some x).getD y = x := rfl
theorem sn {α : Type} : ([] : List α).Sublist [] := .slnil
theorem sc {α : Type} {l m : List α} (a : α) (h : l.Sublist m) : (a :: l).Sublist (a :: m) := h.cons₂ a
theorem sk {α : Type} {l m : List α} (a : α) (h : l.Sublist m) : l.Sublist (a :: m) := .cons a h
end Go.Proofs.Ytccbinnlnkpplaa
namespace Go.Proofs.Ytccbinnlnkpplaa
set_option linter.all false
open Go.RowKit

section
variable {R : Option Nat} {P : Program} {ops : Array Oper} {Q : Exit → Act → World → Prop} {B : World} {F : List Nat} {s0 : Option (List Blk × List Blk)}
variable {l : List (Oper × Nat)} {a : Act} {s s' : List Blk} {d : Option Tmp} {op : Op} {t : TypeId} {p : String} {af : Array Edge} {v : Value} {gd : Option (Nat × Bool)} {m : Nat}

/-! ### Loops and cuts: the written slots as a function of their numbers -/
def Act.putF (a : Act) (W : List Nat) (f : Nat → Value) : Act := ⟨W.foldl (fun t k => t.setIfInBounds k (f k)) a.tmps, a.defers⟩
def Act.valF (a : Act) : Nat → Value := fun k => a.tmps.getD k undef
section
variable {R : Option Nat} {P : Program} {Q : Exit → Act → World → Prop} {B : World} {F : List Nat} {a : Act} {s : List Blk}
def RelF (W : List Nat) (a0 : Act) (J : Nat → (Nat → Value) → List Blk → Prop) : Nat → Act → List Blk → Prop := fun n a s => ∃ f, a = Act.putF a0 W f ∧ J n f s
theorem wk_loopF {c : Code} (W : List Nat) (J : Nat → (Nat → Value) → List Blk → Prop) (n : Nat) (h0 : J n (Act.valF a) s) (ha : a = Act.putF a W (Act.valF a))
    (round : ∀ n f s, J n f s → Wk R P B F (Exit.then (Rnd B F (RelF W a J) n) Q) (Act.putF a W f) s c) : Wk R P B F Q a s (.loop c) :=
  wk_loop (RelF W a J) n ⟨_, ha, h0⟩ fun n a' s' h => by
    obtain ⟨f, rfl, hJ⟩ := h
    exact round n f s' hJ
theorem ek_roundF {W : List Nat} {a0 : Act} {J : Nat → (Nat → Value) → List Blk → Prop} {n : Nat} (m : Nat) (hm : m < n) (ha : a = Act.putF a0 W (Act.valF a)) (h : J m (Act.valF a) s) :
    Ek B F (Exit.then (Rnd B F (RelF W a0 J) n) Q) .normal a s := ek_round m hm ⟨_, ha, h⟩
def MidF (W : List Nat) (a0 : Act) (J : (Nat → Value) → List Blk → Prop) : Act → List Blk → Prop := fun a s => ∃ f, a = Act.putF a0 W f ∧ J f s
theorem wk_cutF {x y : Code} (W : List Nat) (J : (Nat → Value) → List Blk → Prop) (h1 : Wk R P B F (Exit.then (Mid B F (MidF W a J)) Q) a s x)
    (h2 : ∀ f s, J f s → Wk R P B F Q (Act.putF a W f) s y) : Wk R P B F Q a s (.seq x y) :=
  wk_cut (MidF W a J) h1 fun a' s' h => by
    obtain ⟨f, rfl, hJ⟩ := h
    exact h2 f s' hJ
theorem ek_midF {W : List Nat} {a0 : Act} {J : (Nat → Value) → List Blk → Prop} (ha : a = Act.putF a0 W (Act.valF a)) (h : J (Act.valF a) s) :
    Ek B F (Exit.then (Mid B F (MidF W a0 J)) Q) .normal a s := ek_mid ⟨_, ha, h⟩
end
def bsel (b : Bool) (x y : Value) : Value := match b with
  | true => x
  | false => y
def cellAt (v : Value) (j : Nat) : Value := v.cells.getD j undef
def soft03 (m : Nat) : Bool := m == 0 || decide (3 ≤ m)
/-- An operation that reads no memory. -/
theorem rg_any (hm : soft03 m = true) (hg : Region.wanted ⟨d, op, t, p, af, gd⟩ (yielded ops a.tmps) = true) (hy : ∀ w, Yld ((execOp a.eval ⟨d, op, t, p, af, gd⟩).run P w) v w) (h : Rg R P ops Q B F s0 l (a.put d v) s) :
    Rg R P ops Q B F s0 ((⟨d, op, t, p, af, gd⟩, m) :: l) a s := by
  match m, hm with
  | 0, _ => exact ⟨v, .inl ⟨hg, fun w _ => hy w⟩, h⟩
  | n + 3, _ => exact ⟨v, .inl ⟨hg, fun w _ => hy w⟩, h⟩
/-- What is known when an operation with this mark comes up. -/
def kOf : Nat → Option (List Blk × List Blk) → List Blk → List Blk
  | 0, s0, s => zOf s0 s
  | _ + 1, s0, s => yOf s0 s
/-- An operation that reads memory. -/
theorem rg_read (hm : soft03 m = true) (hg : Region.wanted ⟨d, op, t, p, af, gd⟩ (yielded ops a.tmps) = true) (hy : ∀ w, Kn B F (kOf m s0 s) w → Yld ((execOp a.eval ⟨d, op, t, p, af, gd⟩).run P w) v w) (h : Rg R P ops Q B F s0 l (a.put d v) s) :
    Rg R P ops Q B F s0 ((⟨d, op, t, p, af, gd⟩, m) :: l) a s := by
  match m, hm with
  | 0, _ => exact ⟨v, .inl ⟨hg, hy⟩, h⟩
  | n + 3, _ => exact ⟨v, .inl ⟨hg, hy⟩, h⟩

theorem rf_field {T k : Nat} {x : Operand} {g i j n : Nat} {fs : Array Field} {f : Field} (hm : soft03 m = true) (hg : Region.wanted ⟨d, .fieldAddr T x k, t, p, af, gd⟩ (yielded ops a.tmps) = true)
    (hx : a.eval x = .pointer (some ⟨g, i, none⟩)) (hu : P.underlying T = some (.struct fs)) (hf : fs[k]? = some f) (hs : (P.info? f.type).map (·.size) = some (n + 1)) (hj : i + f.offset = j)
    (h : Rg R P ops Q B F s0 l (a.put d (.pointer (some ⟨g, j, none⟩))) s) : Rg R P ops Q B F s0 ((⟨d, .fieldAddr T x k, t, p, af, gd⟩, m) :: l) a s := by
  refine rg_any hm hg (fun w => ?_) h
  unfold Yld
  cases hq : P.info? f.type with
  | none => simp [hq] at hs
  | some q =>
    have hs' : q.size = n + 1 := by simpa [hq] using hs
    have hne : ¬ q.size = 0 := by omega
    have hadd : (⟨g, i, none⟩ : Addr).add f.offset = ⟨g, j, none⟩ := by rw [Addr.add_mid, hj]
    simp [execOp, hx, Instr.fieldAt, run_underlying hu, hf, Instr.sureAddr, fieldPlace, sizeOf, typeInfo, hq, hs', hadd]
theorem rf_indexA {T : Nat} {x y : Operand} {g i j n len e sz : Nat} {k : IntKind} (hm : soft03 m = true) (hg : Region.wanted ⟨d, .indexAddr T x y, t, p, af, gd⟩ (yielded ops a.tmps) = true)
    (hx : a.eval x = .pointer (some ⟨g, i, none⟩)) (hy : a.eval y = .int k (n : Int)) (hu : P.underlying T = some (.array len e)) (hs : (P.info? e).map (·.size) = some sz) (hn : n < len) (hj : i + n * sz = j)
    (h : Rg R P ops Q B F s0 l (a.put d (.pointer (some ⟨g, j, none⟩))) s) : Rg R P ops Q B F s0 ((⟨d, .indexAddr T x y, t, p, af, gd⟩, m) :: l) a s := by
  refine rg_any hm hg (fun w => ?_) h
  unfold Yld
  cases hq : P.info? e with
  | none => simp [hq] at hs
  | some q =>
    have hs' : q.size = sz := by simpa [hq] using hs
    have hadd : (⟨g, i, none⟩ : Addr).add (n * sz) = ⟨g, j, none⟩ := by rw [Addr.add_mid, hj]
    simp [execOp, hx, hy, Instr.indexAt, run_underlying hu, asIntOf, Instr.sureAddr, sizeOf, typeInfo, hq, hs', hadd, hn]
theorem rf_indexS {T : Nat} {x y : Operand} {g i j n len cap e sz : Nat} {k : IntKind} {z : Int} (hm : soft03 m = true) (hg : Region.wanted ⟨d, .indexAddr T x y, t, p, af, gd⟩ (yielded ops a.tmps) = true)
    (hx : a.eval x = .slice (some ⟨g, i, none⟩) len cap) (hy : a.eval y = .int k z) (hu : P.underlying T = some (.slice e)) (hs : (P.info? e).map (·.size) = some sz) (hz : z = (n : Int)) (hn : n < len) (hj : i + n * sz = j)
    (h : Rg R P ops Q B F s0 l (a.put d (.pointer (some ⟨g, j, none⟩))) s) : Rg R P ops Q B F s0 ((⟨d, .indexAddr T x y, t, p, af, gd⟩, m) :: l) a s := by
  subst hz
  refine rg_any hm hg (fun w => ?_) h
  unfold Yld
  cases hq : P.info? e with
  | none => simp [hq] at hs
  | some q =>
    have hs' : q.size = sz := by simpa [hq] using hs
    have hadd : (⟨g, i, none⟩ : Addr).add (n * sz) = ⟨g, j, none⟩ := by rw [Addr.add_mid, hj]
    simp [execOp, hx, hy, Instr.indexAt, run_underlying hu, asIntOf, sizeOf, typeInfo, hq, hs', hadd, hn]
/-- A struct or an array out of its parts; cs: its cells, by the frame. -/
theorem rf_build {T : TypeId} {parts : Array (Nat × Operand)} {cs : Act → Array Value} (hm : soft03 m = true) (hg : Region.wanted ⟨d, .build T parts, t, p, af, gd⟩ (yielded ops a.tmps) = true)
    (hb : P.built T (parts.map fun (i, x) => (i, a.eval x)).toList = some (cs a)) (h : Rg R P ops Q B F s0 l (a.put d (.agg (cs a))) s) : Rg R P ops Q B F s0 ((⟨d, .build T parts, t, p, af, gd⟩, m) :: l) a s := by
  refine rg_any hm hg (fun w => ?_) h
  unfold Yld
  have := run_build w T (parts.map fun (i, x) => (i, a.eval x)) _ hb
  simp only [execOp]
  rw [Sem.run_bind, this]
  rfl
theorem rf_extract {x : Operand} {n : Nat} {vs : Array Value} (hm : soft03 m = true) (hg : Region.wanted ⟨d, .extract x n, t, p, af, gd⟩ (yielded ops a.tmps) = true)
    (hx : a.eval x = .tuple vs) (hv : vs[n]? = some v) (h : Rg R P ops Q B F s0 l (a.put d v) s) : Rg R P ops Q B F s0 ((⟨d, .extract x n, t, p, af, gd⟩, m) :: l) a s := by
  refine rg_any hm hg (fun w => ?_) h
  unfold Yld
  simp [execOp, hx, Instr.extract, hv]
theorem rf_not {x : Operand} {T : TypeId} {b : Bool} (hm : soft03 m = true) (hg : Region.wanted ⟨d, .unOp .not T x, t, p, af, gd⟩ (yielded ops a.tmps) = true)
    (hx : a.eval x = .bool b) (h : Rg R P ops Q B F s0 l (a.put d (.bool (!b))) s) : Rg R P ops Q B F s0 ((⟨d, .unOp .not T x, t, p, af, gd⟩, m) :: l) a s := by
  refine rg_any hm hg (fun w => ?_) h
  unfold Yld
  simp [execOp, hx, Op.unary]
theorem rf_neg {x : Operand} {T : TypeId} {k : IntKind} {n r : Int} (hm : soft03 m = true) (hg : Region.wanted ⟨d, .unOp .neg T x, t, p, af, gd⟩ (yielded ops a.tmps) = true)
    (hx : a.eval x = .int k n) (hr : k.wrap (-n) = r) (h : Rg R P ops Q B F s0 l (a.put d (.int k r)) s) : Rg R P ops Q B F s0 ((⟨d, .unOp .neg T x, t, p, af, gd⟩, m) :: l) a s := by
  refine rg_any hm hg (fun w => ?_) h
  unfold Yld
  simp [execOp, hx, Op.unary, Op.intArith, hr]

theorem wrap_ok {n : Int} (h1 : -9223372036854775808 ≤ n) (h2 : n ≤ 9223372036854775807) : IntKind.i64.wrap n = n := by rw [IntKind.wrap_i64]; omega
theorem wrap_okU {n : Int} (h1 : 0 ≤ n) (h2 : n ≤ 18446744073709551615) : IntKind.u64.wrap n = n := by rw [IntKind.wrap_u64]; omega
theorem rf_add {x y : Operand} {T z : TypeId} {k : IntKind} {n q r : Int} (hm : soft03 m = true) (hg : Region.wanted ⟨d, .binOp .add T x y z, t, p, af, gd⟩ (yielded ops a.tmps) = true)
    (hx : a.eval x = .int k n) (hy : a.eval y = .int k q) (hr : k.wrap (n + q) = r) (h : Rg R P ops Q B F s0 l (a.put d (.int k r)) s) : Rg R P ops Q B F s0 ((⟨d, .binOp .add T x y z, t, p, af, gd⟩, m) :: l) a s := by
  refine rg_any hm hg (fun w => ?_) h
  unfold Yld
  simp [execOp, hx, hy, eqGuard, binOp, Op.intArith, hr]
theorem rf_sub {x y : Operand} {T z : TypeId} {k : IntKind} {n q r : Int} (hm : soft03 m = true) (hg : Region.wanted ⟨d, .binOp .sub T x y z, t, p, af, gd⟩ (yielded ops a.tmps) = true)
    (hx : a.eval x = .int k n) (hy : a.eval y = .int k q) (hr : k.wrap (n - q) = r) (h : Rg R P ops Q B F s0 l (a.put d (.int k r)) s) : Rg R P ops Q B F s0 ((⟨d, .binOp .sub T x y z, t, p, af, gd⟩, m) :: l) a s := by
  refine rg_any hm hg (fun w => ?_) h
  unfold Yld
  simp [execOp, hx, hy, eqGuard, binOp, Op.intArith, hr]
theorem rf_mul {x y : Operand} {T z : TypeId} {k : IntKind} {n q r : Int} (hm : soft03 m = true) (hg : Region.wanted ⟨d, .binOp .mul T x y z, t, p, af, gd⟩ (yielded ops a.tmps) = true)
    (hx : a.eval x = .int k n) (hy : a.eval y = .int k q) (hr : k.wrap (n * q) = r) (h : Rg R P ops Q B F s0 l (a.put d (.int k r)) s) : Rg R P ops Q B F s0 ((⟨d, .binOp .mul T x y z, t, p, af, gd⟩, m) :: l) a s := by
  refine rg_any hm hg (fun w => ?_) h
  unfold Yld
  simp [execOp, hx, hy, eqGuard, binOp, Op.intArith, hr]
theorem rf_conv {x : Operand} {T T' : TypeId} {k k' : IntKind} {dd : TypeDesc} {n r : Int} (hm : soft03 m = true) (hg : Region.wanted ⟨d, .convert T T' x, t, p, af, gd⟩ (yielded ops a.tmps) = true)
    (hx : a.eval x = .int k n) (hu : P.underlying T = some dd) (hu' : P.underlying T' = some (.int k')) (hr : k'.wrap n = r) (h : Rg R P ops Q B F s0 l (a.put d (.int k' r)) s) : Rg R P ops Q B F s0 ((⟨d, .convert T T' x, t, p, af, gd⟩, m) :: l) a s := by
  refine rg_any hm hg (fun w => ?_) h
  have hk : P.intKind T' = k' := by simp [Program.intKind, hu']
  have := run_convert_int (P := P) w T T' k n (by rw [hu]; rfl) (by rw [hk]; exact hu')
  rw [hk, hr] at this
  unfold Yld
  show (convert T T' (a.eval x) >>= fun r => pure (Next.value r)).run P w = _
  rw [hx, Sem.run_bind, this]
  rfl
theorem rf_shl {x y : Operand} {T z : TypeId} {k k' : IntKind} {n q r : Int} {c : Nat} (hm : soft03 m = true) (hg : Region.wanted ⟨d, .binOp .shl T x y z, t, p, af, gd⟩ (yielded ops a.tmps) = true)
    (hx : a.eval x = .int k n) (hy : a.eval y = .int k' (c : Int)) (hc : Nat.ble c k.bits = true) (hq : (2 : Int) ^ c = q) (hr : k.wrap (n * q) = r) (h : Rg R P ops Q B F s0 l (a.put d (.int k r)) s) : Rg R P ops Q B F s0 ((⟨d, .binOp .shl T x y z, t, p, af, gd⟩, m) :: l) a s := by
  refine rg_any hm hg (fun w => ?_) h
  have hc' : c ≤ k.bits := Nat.le_of_ble_eq_true hc
  have hmin : min (c : Int).toNat k.bits = c := by rw [Int.toNat_natCast]; omega
  unfold Yld
  have hneg : ¬ ((c : Int) < 0) := by omega
  simp only [execOp, hx, hy, eqGuard, binOp, Op.shift, hneg, if_false, hmin, hq, hr]
  rfl
theorem rf_lss {x y : Operand} {T z : TypeId} {k : IntKind} {n q : Int} {b : Bool} (hm : soft03 m = true) (hg : Region.wanted ⟨d, .binOp .lss T x y z, t, p, af, gd⟩ (yielded ops a.tmps) = true)
    (hx : a.eval x = .int k n) (hy : a.eval y = .int k q) (hr : decide (n < q) = b) (h : Rg R P ops Q B F s0 l (a.put d (.bool b)) s) : Rg R P ops Q B F s0 ((⟨d, .binOp .lss T x y z, t, p, af, gd⟩, m) :: l) a s := by
  subst hr
  refine rg_any hm hg (fun w => ?_) h
  unfold Yld
  simp [execOp, hx, hy, eqGuard, binOp, Op.intCmp]
theorem rf_leq {x y : Operand} {T z : TypeId} {k : IntKind} {n q : Int} {b : Bool} (hm : soft03 m = true) (hg : Region.wanted ⟨d, .binOp .leq T x y z, t, p, af, gd⟩ (yielded ops a.tmps) = true)
    (hx : a.eval x = .int k n) (hy : a.eval y = .int k q) (hr : decide (n ≤ q) = b) (h : Rg R P ops Q B F s0 l (a.put d (.bool b)) s) : Rg R P ops Q B F s0 ((⟨d, .binOp .leq T x y z, t, p, af, gd⟩, m) :: l) a s := by
  subst hr
  refine rg_any hm hg (fun w => ?_) h
  unfold Yld
  simp [execOp, hx, hy, eqGuard, binOp, Op.intCmp]
theorem rf_gtr {x y : Operand} {T z : TypeId} {k : IntKind} {n q : Int} {b : Bool} (hm : soft03 m = true) (hg : Region.wanted ⟨d, .binOp .gtr T x y z, t, p, af, gd⟩ (yielded ops a.tmps) = true)
    (hx : a.eval x = .int k n) (hy : a.eval y = .int k q) (hr : decide (q < n) = b) (h : Rg R P ops Q B F s0 l (a.put d (.bool b)) s) : Rg R P ops Q B F s0 ((⟨d, .binOp .gtr T x y z, t, p, af, gd⟩, m) :: l) a s := by
  subst hr
  refine rg_any hm hg (fun w => ?_) h
  unfold Yld
  simp [execOp, hx, hy, eqGuard, binOp, Op.intCmp]
theorem rf_geq {x y : Operand} {T z : TypeId} {k : IntKind} {n q : Int} {b : Bool} (hm : soft03 m = true) (hg : Region.wanted ⟨d, .binOp .geq T x y z, t, p, af, gd⟩ (yielded ops a.tmps) = true)
    (hx : a.eval x = .int k n) (hy : a.eval y = .int k q) (hr : decide (q ≤ n) = b) (h : Rg R P ops Q B F s0 l (a.put d (.bool b)) s) : Rg R P ops Q B F s0 ((⟨d, .binOp .geq T x y z, t, p, af, gd⟩, m) :: l) a s := by
  subst hr
  refine rg_any hm hg (fun w => ?_) h
  unfold Yld
  simp [execOp, hx, hy, eqGuard, binOp, Op.intCmp]
theorem rf_eql {x y : Operand} {T z : TypeId} {k : IntKind} {n q : Int} {b : Bool} (hm : soft03 m = true) (hg : Region.wanted ⟨d, .binOp .eql T x y z, t, p, af, gd⟩ (yielded ops a.tmps) = true)
    (hx : a.eval x = .int k n) (hy : a.eval y = .int k q) (hr : decide (n = q) = b) (h : Rg R P ops Q B F s0 l (a.put d (.bool b)) s) : Rg R P ops Q B F s0 ((⟨d, .binOp .eql T x y z, t, p, af, gd⟩, m) :: l) a s := by
  subst hr
  refine rg_any hm hg (fun w => ?_) h
  unfold Yld
  simp [execOp, hx, hy, eqGuard, binOp, Op.intCmp]
  rfl
theorem rf_neq {x y : Operand} {T z : TypeId} {k : IntKind} {n q : Int} {b : Bool} (hm : soft03 m = true) (hg : Region.wanted ⟨d, .binOp .neq T x y z, t, p, af, gd⟩ (yielded ops a.tmps) = true)
    (hx : a.eval x = .int k n) (hy : a.eval y = .int k q) (hr : decide (n ≠ q) = b) (h : Rg R P ops Q B F s0 l (a.put d (.bool b)) s) : Rg R P ops Q B F s0 ((⟨d, .binOp .neq T x y z, t, p, af, gd⟩, m) :: l) a s := by
  subst hr
  refine rg_any hm hg (fun w => ?_) h
  unfold Yld
  by_cases hnq : n = q <;> simp [execOp, hx, hy, eqGuard, binOp, Op.intCmp, hnq]
theorem rfb_lss {x y : Operand} {T z : TypeId} {k : IntKind} {n q : Int} (hm : soft03 m = true) (hg : Region.wanted ⟨d, .binOp .lss T x y z, t, p, af, gd⟩ (yielded ops a.tmps) = true)
    (hx : a.eval x = .int k n) (hy : a.eval y = .int k q) (h : ∀ b, decide (n < q) = b → Rg R P ops Q B F s0 l (a.put d (.bool b)) s) : Rg R P ops Q B F s0 ((⟨d, .binOp .lss T x y z, t, p, af, gd⟩, m) :: l) a s :=
  rf_lss hm hg hx hy rfl (h _ rfl)
theorem rfb_leq {x y : Operand} {T z : TypeId} {k : IntKind} {n q : Int} (hm : soft03 m = true) (hg : Region.wanted ⟨d, .binOp .leq T x y z, t, p, af, gd⟩ (yielded ops a.tmps) = true)
    (hx : a.eval x = .int k n) (hy : a.eval y = .int k q) (h : ∀ b, decide (n ≤ q) = b → Rg R P ops Q B F s0 l (a.put d (.bool b)) s) : Rg R P ops Q B F s0 ((⟨d, .binOp .leq T x y z, t, p, af, gd⟩, m) :: l) a s :=
  rf_leq hm hg hx hy rfl (h _ rfl)
theorem rfb_gtr {x y : Operand} {T z : TypeId} {k : IntKind} {n q : Int} (hm : soft03 m = true) (hg : Region.wanted ⟨d, .binOp .gtr T x y z, t, p, af, gd⟩ (yielded ops a.tmps) = true)
    (hx : a.eval x = .int k n) (hy : a.eval y = .int k q) (h : ∀ b, decide (q < n) = b → Rg R P ops Q B F s0 l (a.put d (.bool b)) s) : Rg R P ops Q B F s0 ((⟨d, .binOp .gtr T x y z, t, p, af, gd⟩, m) :: l) a s :=
  rf_gtr hm hg hx hy rfl (h _ rfl)
theorem rfb_geq {x y : Operand} {T z : TypeId} {k : IntKind} {n q : Int} (hm : soft03 m = true) (hg : Region.wanted ⟨d, .binOp .geq T x y z, t, p, af, gd⟩ (yielded ops a.tmps) = true)
    (hx : a.eval x = .int k n) (hy : a.eval y = .int k q) (h : ∀ b, decide (q ≤ n) = b → Rg R P ops Q B F s0 l (a.put d (.bool b)) s) : Rg R P ops Q B F s0 ((⟨d, .binOp .geq T x y z, t, p, af, gd⟩, m) :: l) a s :=
  rf_geq hm hg hx hy rfl (h _ rfl)
theorem rfb_eql {x y : Operand} {T z : TypeId} {k : IntKind} {n q : Int} (hm : soft03 m = true) (hg : Region.wanted ⟨d, .binOp .eql T x y z, t, p, af, gd⟩ (yielded ops a.tmps) = true)
    (hx : a.eval x = .int k n) (hy : a.eval y = .int k q) (h : ∀ b, decide (n = q) = b → Rg R P ops Q B F s0 l (a.put d (.bool b)) s) : Rg R P ops Q B F s0 ((⟨d, .binOp .eql T x y z, t, p, af, gd⟩, m) :: l) a s :=
  rf_eql hm hg hx hy rfl (h _ rfl)
theorem rfb_neq {x y : Operand} {T z : TypeId} {k : IntKind} {n q : Int} (hm : soft03 m = true) (hg : Region.wanted ⟨d, .binOp .neq T x y z, t, p, af, gd⟩ (yielded ops a.tmps) = true)
    (hx : a.eval x = .int k n) (hy : a.eval y = .int k q) (h : ∀ b, decide (n ≠ q) = b → Rg R P ops Q B F s0 l (a.put d (.bool b)) s) : Rg R P ops Q B F s0 ((⟨d, .binOp .neq T x y z, t, p, af, gd⟩, m) :: l) a s :=
  rf_neq hm hg hx hy rfl (h _ rfl)
theorem rf_pick {x y z : Operand} {b : Bool} (hm : soft03 m = true) (hg : Region.wanted ⟨d, .pick x y z, t, p, af, gd⟩ (yielded ops a.tmps) = true)
    (hx : a.eval x = .bool b) (h : Rg R P ops Q B F s0 l (a.put d (bsel b (a.eval y) (a.eval z))) s) : Rg R P ops Q B F s0 ((⟨d, .pick x y z, t, p, af, gd⟩, m) :: l) a s := by
  refine rg_any hm hg (fun w => ?_) h
  unfold Yld
  cases b <;> simp [execOp, hx, asBool, bsel]
theorem rf_len {x : Operand} {T e : TypeId} {b : Option Addr} {n c : Nat} (hm : soft03 m = true) (hg : Region.wanted ⟨d, .call ⟨.builtin .len, #[x], #[T]⟩, t, p, af, gd⟩ (yielded ops a.tmps) = true)
    (hx : a.eval x = .slice b n c) (hu : P.underlying T = some (.slice e)) (h : Rg R P ops Q B F s0 l (a.put d (.int .i64 n)) s) :
    Rg R P ops Q B F s0 ((⟨d, .call ⟨.builtin .len, #[x], #[T]⟩, t, p, af, gd⟩, m) :: l) a s := by
  refine rg_any hm hg (fun w => ?_) h
  unfold Yld
  have hu' : P.underlying T = some (.slice (P.elem T)) := by rw [hu]; simp [Program.elem, hu]
  have hx1 : execOp a.eval ⟨d, .call ⟨.builtin .len, #[x], #[T]⟩, t, p, af, gd⟩ = (do let d ← resolve a.eval ⟨.builtin .len, #[x], #[T]⟩ t; invoke d.target d.args) := rfl
  rw [hx1]
  simp only [resolve, invoke, builtin, Sem.run_bind, Sem.run_pure, Result.andThen_ok, List.map_toArray, List.map_cons, List.map_nil, hx, run_len_slice w T t b n c hu']
  rfl

/-- A load of one cell. -/
theorem rf_load {x : Operand} {T : TypeId} {g i : Nat} {dd : TypeDesc} (hm : soft03 m = true) (hg : Region.wanted ⟨d, .load T x, t, p, af, gd⟩ (yielded ops a.tmps) = true)
    (hx : a.eval x = .pointer (some ⟨g, i, none⟩)) (hu : P.underlying T = some dd) (hr : isRow dd = false) (hc : ∀ w, Kn B F (kOf m s0 s) w → w.cell? ⟨g, i, none⟩ = some v)
    (h : Rg R P ops Q B F s0 l (a.put d v) s) : Rg R P ops Q B F s0 ((⟨d, .load T x, t, p, af, gd⟩, m) :: l) a s := by
  refine rg_read hm hg (fun w hw => ?_) h
  unfold Yld
  have hagg : (isAgg T).run P w = .ok false w := by
    unfold isAgg
    rw [Sem.run_bind, run_underlying hu w]
    cases dd <;> simp_all [isRow]
  simp [execOp, hx, Instr.loadAt, Instr.sureAddr, loadVar, hagg, run_load, hc w hw]
theorem Hd.at {w : World} {g e i : Nat} {xs : List Value} {v : Value} (hd : Hd w g e xs.toArray) (h : xs[i]? = some v) : w.cell? ⟨g, i, none⟩ = some v := by rw [hd.cell]; simpa using h
theorem cells_range {w : World} {g e : Nat} {cs : Array Value} (hd : Hd w g e cs) (i n : Nat) : w.rangeAt g i ((cs.toList.drop i).take n) := by
  intro j v hj
  rw [hd.cell]
  rw [List.getElem?_take] at hj
  split at hj
  · rw [List.getElem?_drop] at hj
    rw [← Array.getElem?_toList]
    exact hj
  cases hj
/-- A load of a row of cells. -/
theorem rf_loadR {x : Operand} {T : TypeId} {g i n e : Nat} {cs : Array Value} {vs : List Value} {dd : TypeDesc} (hm : soft03 m = true) (hg : Region.wanted ⟨d, .load T x, t, p, af, gd⟩ (yielded ops a.tmps) = true)
    (hx : a.eval x = .pointer (some ⟨g, i, none⟩)) (hu : P.underlying T = some dd) (hr : dd.isRow = true) (hi : (P.info? T).map (·.size) = some n)
    (hc : ∀ w, Kn B F (kOf m s0 s) w → Hd w g e cs) (hv : (cs.toList.drop i).take n = vs) (hn : vs.length = n)
    (h : Rg R P ops Q B F s0 l (a.put d (.agg vs.toArray)) s) : Rg R P ops Q B F s0 ((⟨d, .load T x, t, p, af, gd⟩, m) :: l) a s := by
  refine rg_read hm hg (fun w hw => ?_) h
  have hrange : w.rangeAt g i vs := by rw [← hv]; exact cells_range (hc w hw) i n
  unfold Yld
  simp [execOp, hx, run_loadAt_mid w g i T vs dd hrange hu hr (by rw [hi, hn])]
theorem rf_loadC {x : Operand} {T : TypeId} {g i n : Nat} {vs : List Value} {dd : TypeDesc} (hm : soft03 m = true) (hg : Region.wanted ⟨d, .load T x, t, p, af, gd⟩ (yielded ops a.tmps) = true)
    (hx : a.eval x = .pointer (some ⟨g, i, none⟩)) (hu : P.underlying T = some dd) (hr : dd.isRow = true) (hi : (P.info? T).map (·.size) = some n) (hn : vs.length = n)
    (hc : ∀ w, Kn B F (kOf m s0 s) w → w.rangeAt g i vs)
    (h : Rg R P ops Q B F s0 l (a.put d (.agg vs.toArray)) s) : Rg R P ops Q B F s0 ((⟨d, .load T x, t, p, af, gd⟩, m) :: l) a s := by
  refine rg_read hm hg (fun w hw => ?_) h
  unfold Yld
  simp [execOp, hx, run_loadAt_mid w g i T vs dd (hc w hw) hu hr (by rw [hi, hn])]

/-- Cells from i on are replaced. -/
def setMany : Array Value → Nat → List Value → Array Value
  | cs, _, [] => cs
  | cs, i, v :: vs => setMany (cs.setIfInBounds i v) (i + 1) vs
inductive UpdR (g i : Nat) (vs : List Value) : List Blk → List Blk → Prop
  | here (t : Nat) (cs : Array Value) (s : List Blk) : i + vs.length ≤ cs.size → UpdR g i vs ((g, .cells cs t) :: s) ((g, .cells (setMany cs i vs) t) :: s)
  | there (b : Blk) {s s' : List Blk} : UpdR g i vs s s' → UpdR g i vs (b :: s) (b :: s')
theorem UpdR.app {g i : Nat} {vs : List Value} {s s' : List Blk} (u : List Blk) (h : UpdR g i vs s s') : UpdR g i vs (u ++ s) (u ++ s') := by
  induction u with
  | nil => exact h
  | cons b u ih => exact .there b ih
theorem UpdR.mem {g i : Nat} {vs : List Value} {s s' : List Blk} (h : UpdR g i vs s s') : ∃ t cs, (g, Obj.cells cs t) ∈ s ∧ i + vs.length ≤ cs.size := by
  induction h with
  | here t cs s hle => exact ⟨t, cs, by simp, hle⟩
  | there b _ ih => obtain ⟨t, cs, h, hle⟩ := ih; exact ⟨t, cs, by simp [h], hle⟩
theorem UpdR.step {g i : Nat} {v : Value} {vs : List Value} {s s' : List Blk} (h : UpdR g i (v :: vs) s s') : ∃ s1, Upd g i v s s1 ∧ UpdR g (i + 1) vs s1 s' := by
  induction h with
  | here t cs s hle => exact ⟨_, Upd.here t cs s, by rw [setMany]; exact UpdR.here _ _ _ (by simp only [List.length_cons] at hle; simp; omega)⟩
  | there b _ ih => obtain ⟨s1, h1, h2⟩ := ih; exact ⟨_, .there b h1, .there b h2⟩
theorem UpdR.nilEq {g i : Nat} {s s' : List Blk} (h : UpdR g i [] s s') : s' = s := by
  induction h with
  | here => rfl
  | there b _ ih => rw [ih]
theorem Kn.putR {g : Nat} : ∀ {vs : List Value} {i : Nat} {s s' : List Blk} {w : World}, UpdR g i vs s s' → Kn B F s w → Kn B F s' (w.setCells g i vs)
  | [], _, _, _, _, h, K => by rw [h.nilEq]; exact K
  | v :: vs, i, s, s', w, h, K => by
    obtain ⟨s1, h1, h2⟩ := h.step
    have := Kn.putR h2 (K.set h1)
    exact this
theorem there_of {w : World} {g i n t : Nat} {cs : Array Value} (hd : Hd w g t cs) (h : i + n ≤ cs.size) : w.there g i n := fun j hj => by
  refine ⟨?_, hd.free _⟩
  rw [hd.cell, Array.getElem?_eq_getElem (by omega)]
  rfl
/-- A store of a row of cells. -/
theorem rf_storeR {x y : Operand} {T : TypeId} {g i n : Nat} {vs : List Value} (hx : a.eval x = .pointer (some ⟨g, i, none⟩)) (hy : a.eval y = .agg vs.toArray) (hi : (P.info? T).map (·.size) = some n) (hn : vs.length = n)
    (h1 : vs.all (·.oneCell') = true) (hu : UpdR g i vs s s') (hz : ∀ z ∈ s0, z.1.Sublist s') (h : Rg R P ops Q B F s0 l (a.put d undef) s') :
    Rg R P ops Q B F s0 ((⟨d, .store T x y, t, p, af, none⟩, 1) :: l) a s := by
  refine rg_store (fun w K => ⟨w.setCells g i vs, ?_, K.putR hu⟩) hz h
  obtain ⟨t, cs, hm, hle⟩ := hu.mem
  have ht : w.there g i vs.toArray.size := there_of (K.hd hm) (by simpa using hle)
  unfold Dne
  have := run_storeAt_mid (P := P) w g i T vs.toArray ht (by rw [hi, ← hn]; simp) (by simpa using h1)
  simp [execOp, hx, hy, this]
theorem rf_storeRM {z : List Blk × List Blk} {x y : Operand} {T : TypeId} {g i n : Nat} {vs : List Value} (hx : a.eval x = .pointer (some ⟨g, i, none⟩)) (hy : a.eval y = .agg vs.toArray) (hi : (P.info? T).map (·.size) = some n) (hn : vs.length = n)
    (h1 : vs.all (·.oneCell') = true) (hu : UpdR g i vs s s') (hz : z.2.Sublist s') (h : Rg R P ops Q B F (some (z.2, z.2)) l (a.put d undef) s') :
    Rg R P ops Q B F (some z) ((⟨d, .store T x y, t, p, af, none⟩, 2) :: l) a s := by
  refine rg_storeM (fun w K => ⟨w.setCells g i vs, ?_, K.putR hu⟩) hz h
  obtain ⟨t, cs, hm, hle⟩ := hu.mem
  have ht : w.there g i vs.toArray.size := there_of (K.hd hm) (by simpa using hle)
  unfold Dne
  have := run_storeAt_mid (P := P) w g i T vs.toArray ht (by rw [hi, ← hn]; simp) (by simpa using h1)
  simp [execOp, hx, hy, this]
theorem run_store1 {x y : Operand} {T : TypeId} {g i : Nat} {w : World} (hx : a.eval x = .pointer (some ⟨g, i, none⟩)) (hy : a.eval y = v) (hi : (P.info? T).map (·.size) = some 1) (h1 : v.oneCell' = true) (hc : v.cells = #[v])
    (ht : w.there g i 1) : (execOp a.eval ⟨d, .store T x y, t, p, af, none⟩).run P w = .ok .skip (w.setCell ⟨g, i, none⟩ v) := by
  obtain ⟨h2, h3⟩ := ht 0 (by omega)
  rw [Nat.add_zero] at h2 h3
  cases hq : P.info? T with
  | none => simp [hq] at hi
  | some q =>
    have hs' : q.size = 1 := by simpa [hq] using hi
    have hst := run_storeCells_cells (P := P) g i [v] 0 w (fun j hj => by simp only [List.length_cons, List.length_nil] at hj; obtain rfl : j = 0 := (by omega); simpa using h2)
      (fun j hj => by simp only [List.length_cons, List.length_nil] at hj; obtain rfl : j = 0 := (by omega); simpa using h3) (fun u hu => by simp only [List.mem_singleton] at hu; subst hu; exact h1)
    simp only [Nat.add_zero] at hst
    simp [execOp, hx, hy, Instr.storeAt, Instr.sureAddr, storeVar, hc, sizeOf, typeInfo, hq, hs', hst]
    rfl
/-- A store of one cell. -/
theorem rf_store {x y : Operand} {T : TypeId} {g i : Nat} (hx : a.eval x = .pointer (some ⟨g, i, none⟩)) (hy : a.eval y = v) (hi : (P.info? T).map (·.size) = some 1)
    (h1 : v.oneCell' = true) (hc : v.cells = #[v]) (hu : UpdR g i [v] s s') (hz : ∀ z ∈ s0, z.1.Sublist s') (h : Rg R P ops Q B F s0 l (a.put d undef) s') :
    Rg R P ops Q B F s0 ((⟨d, .store T x y, t, p, af, none⟩, 1) :: l) a s := by
  refine rg_store (fun w K => ⟨w.setCell ⟨g, i, none⟩ v, ?_, K.putR hu⟩) hz h
  obtain ⟨t, cs, hm, hle⟩ := hu.mem
  exact run_store1 hx hy hi h1 hc (there_of (K.hd hm) hle)
theorem rf_storeM {z : List Blk × List Blk} {x y : Operand} {T : TypeId} {g i : Nat} (hx : a.eval x = .pointer (some ⟨g, i, none⟩)) (hy : a.eval y = v) (hi : (P.info? T).map (·.size) = some 1)
    (h1 : v.oneCell' = true) (hc : v.cells = #[v]) (hu : UpdR g i [v] s s') (hz : z.2.Sublist s') (h : Rg R P ops Q B F (some (z.2, z.2)) l (a.put d undef) s') :
    Rg R P ops Q B F (some z) ((⟨d, .store T x y, t, p, af, none⟩, 2) :: l) a s := by
  refine rg_storeM (fun w K => ⟨w.setCell ⟨g, i, none⟩ v, ?_, K.putR hu⟩) hz h
  obtain ⟨t, cs, hm, hle⟩ := hu.mem
  exact run_store1 hx hy hi h1 hc (there_of (K.hd hm) hle)
end
theorem q9 {α : Type} {xs : List α} : xs.toArray.toList = xs := rfl
theorem q10 {α : Type} {x : α} {xs : List α} {n : Nat} : (x :: xs).drop (n + 1) = xs.drop n := rfl
theorem q11 {α : Type} {xs : List α} : xs.drop 0 = xs := rfl
theorem q12 {α : Type} {x : α} {xs : List α} {n : Nat} : (x :: xs).take (n + 1) = x :: xs.take n := rfl
theorem q13 {α : Type} {xs : List α} : xs.take 0 = [] := rfl
theorem q14 {cs : Array Value} {i : Nat} : setMany cs i [] = cs := rfl
theorem q15 {cs : Array Value} {i : Nat} {v : Value} {vs : List Value} : setMany cs i (v :: vs) = setMany (cs.setIfInBounds i v) (i + 1) vs := rfl
theorem q18 {vs : Array Value} {j : Nat} : cellAt (.agg vs) j = vs.getD j undef := rfl
theorem q16 {a b : Value} : bsel true a b = a := rfl
theorem q17 {a b : Value} : bsel false a b = b := rfl
theorem qn {α : Type} : (∀ (xs : List α) (i : Nat) (a : α), xs.toArray.setIfInBounds i a = (xs.set i a).toArray) ∧ (∀ (x : α) (xs : List α) (a : α), (x :: xs).set 0 a = a :: xs) ∧ (∀ (x : α) (xs : List α) (a : α) (n : Nat), (x :: xs).set (n + 1) a = x :: xs.set n a) ∧ (∀ (xs : Array α) (i : Nat) (d : α), xs.getD i d = xs[i]?.getD d) ∧ (∀ (xs : List α) (i : Nat), xs.toArray[i]? = xs[i]?) ∧ (∀ (x : α) (xs : List α), (x :: xs)[0]? = some x) ∧ (∀ (x : α) (xs : List α) (n : Nat), (x :: xs)[n + 1]? = xs[n]?) ∧ (∀ (x y : α), (some x).getD y = x) ∧ (∀ (xs : List α), xs.toArray.toList = xs) ∧ (∀ (x : α) (xs : List α) (n : Nat), (x :: xs).drop (n + 1) = xs.drop n) ∧ (∀ (xs : List α), xs.drop 0 = xs) ∧ (∀ (x : α) (xs : List α) (n : Nat), (x :: xs).take (n + 1) = x :: xs.take n) ∧ (∀ (xs : List α), xs.take 0 = []) :=
  ⟨fun _ _ _ => List.setIfInBounds_toArray .., fun _ _ _ => rfl, fun _ _ _ _ => rfl, fun _ _ _ => Array.getD_eq_getD_getElem? .., fun _ _ => List.getElem?_toArray .., fun _ _ => rfl, fun _ _ _ => rfl, fun _ _ => rfl, fun _ => rfl, fun _ _ _ => rfl, fun _ => rfl, fun _ _ _ => rfl, fun _ => rfl⟩
theorem qv : (∀ (cs : Array Value) (i : Nat), setMany cs i [] = cs) ∧ (∀ (cs : Array Value) (i : Nat) (v : Value) (vs : List Value), setMany cs i (v :: vs) = setMany (cs.setIfInBounds i v) (i + 1) vs) ∧ (∀ (vs : Array Value) (j : Nat), cellAt (.agg vs) j = vs.getD j undef) ∧ (∀ (a b : Value), bsel true a b = a) ∧ (∀ (a b : Value), bsel false a b = b) ∧ ((!true) = false) ∧ ((!false) = true) :=
  ⟨fun _ _ => rfl, fun _ _ _ _ => rfl, fun _ _ => rfl, fun _ _ => rfl, fun _ _ => rfl, rfl, rfl⟩
theorem qz : (∀ (t : Array Value) (ds : List Deferred) (d : Nat) (v : Value), Act.put ⟨t, ds⟩ (some d) v = ⟨t.setIfInBounds d v, ds⟩) ∧ (∀ (t : Array Value) (ds : List Deferred) (v : Value), Act.put ⟨t, ds⟩ none v = ⟨t, ds⟩) ∧
    (∀ (t : Array Value) (ds : List Deferred) (k : Nat), Act.eval ⟨t, ds⟩ (.tmp k) = t.getD k undef) ∧ (∀ (a : Act) (v : Value), Act.eval a (.const v) = v) ∧ (∀ (a : Act) (g : Nat), Act.eval a (.global g) = .pointer (some ⟨g, 0, none⟩)) ∧ (∀ (a : Act) (f : Nat), Act.eval a (.func f) = .func (.func f) #[] #[]) ∧
    (∀ (xs : List Value) (i : Nat) (a : Value), xs.toArray.setIfInBounds i a = (xs.set i a).toArray) ∧ (∀ (x : Value) (xs : List Value) (a : Value), (x :: xs).set 0 a = a :: xs) ∧ (∀ (x : Value) (xs : List Value) (a : Value) (n : Nat), (x :: xs).set (n + 1) a = x :: xs.set n a) ∧
    (∀ (xs : Array Value) (i : Nat) (d : Value), xs.getD i d = xs[i]?.getD d) ∧ (∀ (xs : List Value) (i : Nat), xs.toArray[i]? = xs[i]?) ∧ (∀ (x : Value) (xs : List Value), (x :: xs)[0]? = some x) ∧ (∀ (x : Value) (xs : List Value) (n : Nat), (x :: xs)[n + 1]? = xs[n]?) ∧ (∀ (x y : Value), (some x).getD y = x) ∧
    (∀ (xs : List Value), xs.toArray.toList = xs) ∧ (∀ (x : Value) (xs : List Value) (n : Nat), (x :: xs).drop (n + 1) = xs.drop n) ∧ (∀ (xs : List Value), xs.drop 0 = xs) ∧ (∀ (x : Value) (xs : List Value) (n : Nat), (x :: xs).take (n + 1) = x :: xs.take n) ∧ (∀ (xs : List Value), xs.take 0 = []) ∧
    (∀ (cs : Array Value) (i : Nat), setMany cs i [] = cs) ∧ (∀ (cs : Array Value) (i : Nat) (v : Value) (vs : List Value), setMany cs i (v :: vs) = setMany (cs.setIfInBounds i v) (i + 1) vs) ∧ (∀ (vs : Array Value) (j : Nat), cellAt (.agg vs) j = vs.getD j undef) ∧ (∀ (a b : Value), bsel true a b = a) ∧ (∀ (a b : Value), bsel false a b = b) ∧ ((!true) = false) ∧ ((!false) = true) :=
  ⟨fun _ _ _ _ => rfl, fun _ _ _ => rfl, fun _ _ _ => rfl, fun _ _ => rfl, fun _ _ => rfl, fun _ _ => rfl, fun _ _ _ => List.setIfInBounds_toArray .., fun _ _ _ => rfl, fun _ _ _ _ => rfl, fun _ _ _ => Array.getD_eq_getD_getElem? .., fun _ _ => List.getElem?_toArray .., fun _ _ => rfl, fun _ _ _ => rfl, fun _ _ => rfl,
    fun _ => rfl, fun _ _ _ => rfl, fun _ => rfl, fun _ _ _ => rfl, fun _ => rfl, fun _ _ => rfl, fun _ _ _ _ => rfl, fun _ _ => rfl, fun _ _ => rfl, fun _ _ => rfl, rfl, rfl⟩
theorem qy : (∀ (x : Oper) (xs : List Oper) (y : Nat) (ys : List Nat), (x :: xs).zip (y :: ys) = (x, y) :: xs.zip ys) ∧ (∀ (xs : List Oper), xs.zip ([] : List Nat) = []) := ⟨fun _ _ _ _ => rfl, fun _ => List.zip_nil_right⟩
theorem qd : (∀ (p : Prop) [Decidable p], (decide p = true) = p) ∧ (∀ (p : Prop) [Decidable p], (decide p = false) ↔ ¬ p) ∧ (∀ a b : Int, (¬ a < b) ↔ b ≤ a) ∧ (∀ a b : Int, (¬ a ≤ b) ↔ b < a) ∧ (∀ a b : Int, ((a == b) = true) ↔ a = b) ∧ (∀ a b : Int, ((a == b) = false) ↔ ¬ a = b) ∧ (∀ a b : Int, ((a != b) = true) ↔ ¬ a = b) ∧ (∀ a b : Int, ((a != b) = false) ↔ a = b) ∧ (∀ b : Bool, ((!b) = true) = (b = false)) ∧ (∀ b : Bool, ((!b) = false) = (b = true)) :=
  ⟨fun p _ => decide_eq_true_eq, fun p _ => decide_eq_false_iff_not, fun _ _ => Int.not_lt, fun _ _ => Int.not_le, fun _ _ => beq_iff_eq, fun _ _ => beq_eq_false_iff_ne, fun _ _ => bne_iff_ne, fun _ _ => bne_eq_false_iff_eq, fun b => by cases b <;> simp, fun b => by cases b <;> simp⟩
end Go.Proofs.Ytccbinnlnkpplaa
namespace Go.Proofs.Ytccbinnlnkpplaa
set_option linter.all false
open Go.RowKit
theorem Kx {p : Prop} (h : p := by kernel_rfl) : p := h
theorem Ox {p : Prop} (h : p := by omega) : p := h
theorem Rx {p : Prop} (h : p := by rfl) : p := h
theorem Ax {p : Prop} (h : p := by (simp only [qm, qs, Act.eval]; exact rfl)) : p := h
theorem Nl {a b : Nat} (h : Nat.ble a b = true := by rfl) : a ≤ b := Nat.le_of_ble_eq_true h
theorem Nz {q : List Blk × List Blk → Prop} : ∀ z ∈ (none : Option (List Blk × List Blk)), q z := fun _ h => by cases h
section
variable {R : Option Nat} {P : Program} {ops : Array Oper} {Q : Exit → Act → World → Prop} {B : World} {F : List Nat}
variable {l : List (Oper × Nat)} {a : Act} {s : List Blk} {d : Option Tmp} {op : Op} {t : TypeId} {p : String} {af : Array Edge}
theorem Rgn {cs : Array Value} {ty : Nat} {gd : Option (Nat × Bool)} (h : ∀ g, Rg R P ops Q B F none l (a.put d (.pointer (some ⟨g, 0, none⟩))) ((g, .cells cs ty) :: s))
    (hg : Region.wanted ⟨d, op, t, p, af, gd⟩ (yielded ops a.tmps) = true := by rfl) (hr : ∀ w : World, (execOp a.eval ⟨d, op, t, p, af, gd⟩).run P w = .ok (.value (.pointer (some ⟨w.heap.size, 0, none⟩))) (w.alloc (.cells cs ty)) := by (intro w; go_simp; rfl)) :
    Rg R P ops Q B F none ((⟨d, op, t, p, af, gd⟩, 1) :: l) a s := rg_new hg hr (fun _ h => by cases h) h
end
end Go.Proofs.Ytccbinnlnkpplaa
/- Plain: whole numbers of 384 bits as six words. -/
namespace Go.Proofs.Ytccbinnlnkpplaa
set_option linter.all false

structure W6 where
  w0 : Int
  w1 : Int
  w2 : Int
  w3 : Int
  w4 : Int
  w5 : Int
deriving DecidableEq, Inhabited
def W6.val (x : W6) : Int := x.w0 + 18446744073709551616 * (x.w1 + 18446744073709551616 * (x.w2 + 18446744073709551616 * (x.w3 + 18446744073709551616 * (x.w4 + 18446744073709551616 * x.w5))))
structure W6.Wf (x : W6) : Prop where
  a0 : 0 ≤ x.w0
  b0 : x.w0 < 18446744073709551616
  a1 : 0 ≤ x.w1
  b1 : x.w1 < 18446744073709551616
  a2 : 0 ≤ x.w2
  b2 : x.w2 < 18446744073709551616
  a3 : 0 ≤ x.w3
  b3 : x.w3 < 18446744073709551616
  a4 : 0 ≤ x.w4
  b4 : x.w4 < 18446744073709551616
  a5 : 0 ≤ x.w5
  b5 : x.w5 < 18446744073709551616
/-- The words of a number. -/
def W6.of (n : Int) : W6 := ⟨n % 18446744073709551616, n / 18446744073709551616 % 18446744073709551616, n / 18446744073709551616 / 18446744073709551616 % 18446744073709551616, n / 18446744073709551616 / 18446744073709551616 / 18446744073709551616 % 18446744073709551616, n / 18446744073709551616 / 18446744073709551616 / 18446744073709551616 / 18446744073709551616 % 18446744073709551616, n / 18446744073709551616 / 18446744073709551616 / 18446744073709551616 / 18446744073709551616 / 18446744073709551616 % 18446744073709551616⟩
theorem W6.of_wf (n : Int) : (W6.of n).Wf := ⟨by simp only [W6.of]; omega, by simp only [W6.of]; omega, by simp only [W6.of]; omega, by simp only [W6.of]; omega, by simp only [W6.of]; omega, by simp only [W6.of]; omega, by simp only [W6.of]; omega, by simp only [W6.of]; omega, by simp only [W6.of]; omega, by simp only [W6.of]; omega, by simp only [W6.of]; omega, by simp only [W6.of]; omega⟩
theorem W6.of_val (n : Int) : (W6.of n).val = n - 39402006196394479212279040100143613805079739270465446667948293404245721771497210611414266254884915640806627990306816 * (n / 18446744073709551616 / 18446744073709551616 / 18446744073709551616 / 18446744073709551616 / 18446744073709551616 / 18446744073709551616) := by simp only [W6.val, W6.of]; omega
theorem W6.ext' {x y : W6} (hx : x.Wf) (hy : y.Wf) (h : x.val = y.val) : x = y := by
  obtain ⟨a0, a1, a2, a3, a4, a5⟩ := x
  obtain ⟨b0, b1, b2, b3, b4, b5⟩ := y
  obtain ⟨h1, h2, h3, h4, h5, h6, h7, h8, h9, h10, h11, h12⟩ := hx
  obtain ⟨k1, k2, k3, k4, k5, k6, k7, k8, k9, k10, k11, k12⟩ := hy
  simp only [W6.val] at *
  congr 1 <;> omega
theorem W6.val_range {x : W6} (hx : x.Wf) : 0 ≤ x.val ∧ x.val < 39402006196394479212279040100143613805079739270465446667948293404245721771497210611414266254884915640806627990306816 := by
  obtain ⟨h1, h2, h3, h4, h5, h6, h7, h8, h9, h10, h11, h12⟩ := hx
  simp only [W6.val]
  omega
theorem W6.of_eq {x : W6} {n : Int} (hx : x.Wf) (q : Int) (h : x.val = n + 39402006196394479212279040100143613805079739270465446667948293404245721771497210611414266254884915640806627990306816 * q) : x = W6.of n := by
  refine W6.ext' hx (W6.of_wf n) ?_
  have h1 := W6.val_range hx
  have h2 := W6.val_range (W6.of_wf n)
  rw [W6.of_val] at h2 ⊢
  omega
/-- A number of 384 bits. -/
def In384 (n : Int) : Prop := -19701003098197239606139520050071806902539869635232723333974146702122860885748605305707133127442457820403313995153408 ≤ n ∧ n < 19701003098197239606139520050071806902539869635232723333974146702122860885748605305707133127442457820403313995153408
theorem W6.of_inj {m n : Int} (hm : In384 m) (hn : In384 n) (h : W6.of m = W6.of n) : m = n := by
  have h1 := W6.of_val m
  have h2 := W6.of_val n
  rw [h] at h1
  unfold In384 at hm hn
  omega
theorem W6.of_whole {n : Int} (h0 : -9223372036854775808 ≤ n) (h1 : n < 9223372036854775808) : W6.of n = ⟨n % 18446744073709551616, (if n < 0 then 18446744073709551615 else 0), (if n < 0 then 18446744073709551615 else 0), (if n < 0 then 18446744073709551615 else 0), (if n < 0 then 18446744073709551615 else 0), (if n < 0 then 18446744073709551615 else 0)⟩ := by
  simp only [W6.of]
  split <;> congr 1 <;> omega
theorem W6.add_eq {m n : Int} {s0 s1 s2 s3 s4 s5 c0 c1 c2 c3 c4 c5 : Int} (hw : (⟨s0, s1, s2, s3, s4, s5⟩ : W6).Wf)
    (h0 : s0 + 18446744073709551616 * c0 = (W6.of m).w0 + (W6.of n).w0) (h1 : s1 + 18446744073709551616 * c1 = (W6.of m).w1 + (W6.of n).w1 + c0) (h2 : s2 + 18446744073709551616 * c2 = (W6.of m).w2 + (W6.of n).w2 + c1)
    (h3 : s3 + 18446744073709551616 * c3 = (W6.of m).w3 + (W6.of n).w3 + c2) (h4 : s4 + 18446744073709551616 * c4 = (W6.of m).w4 + (W6.of n).w4 + c3) (h5 : s5 + 18446744073709551616 * c5 = (W6.of m).w5 + (W6.of n).w5 + c4) :
    (⟨s0, s1, s2, s3, s4, s5⟩ : W6) = W6.of (m + n) := by
  have e1 := W6.of_val m
  have e2 := W6.of_val n
  refine W6.of_eq hw (-(m / 18446744073709551616 / 18446744073709551616 / 18446744073709551616 / 18446744073709551616 / 18446744073709551616 / 18446744073709551616) - (n / 18446744073709551616 / 18446744073709551616 / 18446744073709551616 / 18446744073709551616 / 18446744073709551616 / 18446744073709551616) - c5) ?_
  generalize (m / 18446744073709551616 / 18446744073709551616 / 18446744073709551616 / 18446744073709551616 / 18446744073709551616 / 18446744073709551616) = p at *
  generalize (n / 18446744073709551616 / 18446744073709551616 / 18446744073709551616 / 18446744073709551616 / 18446744073709551616 / 18446744073709551616) = q at *
  generalize W6.of m = x at *
  generalize W6.of n = y at *
  simp only [W6.val] at *
  omega
theorem W6.neg_eq {m : Int} {s0 s1 s2 s3 s4 s5 c0 c1 c2 c3 c4 c5 : Int} (hw : (⟨s0, s1, s2, s3, s4, s5⟩ : W6).Wf)
    (h0 : s0 = 18446744073709551616 * c0 - (W6.of m).w0) (h1 : s1 = 18446744073709551616 * c1 - (W6.of m).w1 - c0) (h2 : s2 = 18446744073709551616 * c2 - (W6.of m).w2 - c1)
    (h3 : s3 = 18446744073709551616 * c3 - (W6.of m).w3 - c2) (h4 : s4 = 18446744073709551616 * c4 - (W6.of m).w4 - c3) (h5 : s5 = 18446744073709551616 * c5 - (W6.of m).w5 - c4) :
    (⟨s0, s1, s2, s3, s4, s5⟩ : W6) = W6.of (-m) := by
  have e1 := W6.of_val m
  refine W6.of_eq hw ((m / 18446744073709551616 / 18446744073709551616 / 18446744073709551616 / 18446744073709551616 / 18446744073709551616 / 18446744073709551616) + c5) ?_
  generalize (m / 18446744073709551616 / 18446744073709551616 / 18446744073709551616 / 18446744073709551616 / 18446744073709551616 / 18446744073709551616) = p at *
  generalize W6.of m = x at *
  simp only [W6.val] at *
  omega
theorem W6.times_eq {m n : Int} {s0 s1 s2 s3 s4 s5 c0 c1 c2 c3 c4 c5 : Int} (hw : (⟨s0, s1, s2, s3, s4, s5⟩ : W6).Wf)
    (h0 : s0 + 18446744073709551616 * c0 = (W6.of m).w0 * n) (h1 : s1 + 18446744073709551616 * c1 = (W6.of m).w1 * n + c0) (h2 : s2 + 18446744073709551616 * c2 = (W6.of m).w2 * n + c1)
    (h3 : s3 + 18446744073709551616 * c3 = (W6.of m).w3 * n + c2) (h4 : s4 + 18446744073709551616 * c4 = (W6.of m).w4 * n + c3) (h5 : s5 + 18446744073709551616 * c5 = (W6.of m).w5 * n + c4) :
    (⟨s0, s1, s2, s3, s4, s5⟩ : W6) = W6.of (m * n) := by
  have e1 := W6.of_val m
  refine W6.of_eq hw (-(m / 18446744073709551616 / 18446744073709551616 / 18446744073709551616 / 18446744073709551616 / 18446744073709551616 / 18446744073709551616) * n - c5) ?_
  generalize (m / 18446744073709551616 / 18446744073709551616 / 18446744073709551616 / 18446744073709551616 / 18446744073709551616 / 18446744073709551616) = p at *
  generalize W6.of m = x at *
  simp only [W6.val] at *
  grind
end Go.Proofs.Ytccbinnlnkpplaa
namespace Go.Proofs.Ytccbinnlnkpplaa
set_option linter.all false
open Go.RowKit

section
variable {R : Option Nat} {P : Program} {ops : Array Oper} {Q : Exit → Act → World → Prop} {B : World} {F : List Nat} {s0 : Option (List Blk × List Blk)}
variable {l : List (Oper × Nat)} {a : Act} {s s' : List Blk} {d : Option Tmp} {op : Op} {t : TypeId} {p : String} {af : Array Edge} {v : Value} {gd : Option (Nat × Bool)} {m : Nat}

/-- A call that the model answers itself. -/
theorem rg_ext {f : Nat} {cargs : Array Operand} {at_ : Array TypeId} {args : Array Value} (hg : Region.wanted ⟨d, .call ⟨.value (.func f), cargs, at_⟩, t, p, af, gd⟩ (yielded ops a.tmps) = true)
    (h : ∀ w : World, (callFunc f args).run P w = .ok (.value v) w) (hargs : cargs.map a.eval = args)
    (hz : ∀ z ∈ s0, z.1.Sublist s) (k : Rg R P ops Q B F s0 l (a.put d v) s) :
    Rg R P ops Q B F s0 ((⟨d, .call ⟨.value (.func f), cargs, at_⟩, t, p, af, gd⟩, 1) :: l) a s :=
  rg_run hg fun w K => ⟨v, w, s, .inl (by
    have he : #[] ++ cargs.map a.eval ++ #[] = args := by simpa using hargs
    rw [execOp_call_go, he]
    exact h w), K, hz, k⟩

theorem rf_rem {x y : Operand} {T z : TypeId} {k : IntKind} {n q r : Int} (hm : soft03 m = true) (hg : Region.wanted ⟨d, .binOp .rem T x y z, t, p, af, gd⟩ (yielded ops a.tmps) = true)
    (hx : a.eval x = .int k n) (hy : a.eval y = .int k q) (hq : q ≠ 0) (hr : n.tmod q = r) (h : Rg R P ops Q B F s0 l (a.put d (.int k r)) s) : Rg R P ops Q B F s0 ((⟨d, .binOp .rem T x y z, t, p, af, gd⟩, m) :: l) a s := by
  refine rg_any hm hg (fun w => ?_) h
  unfold Yld
  simp [execOp, hx, hy, eqGuard, binOp, Op.intDiv, hq, hr]
theorem rf_and {x y : Operand} {T z : TypeId} {k : IntKind} {n q r : Int} (hm : soft03 m = true) (hg : Region.wanted ⟨d, .binOp .and T x y z, t, p, af, gd⟩ (yielded ops a.tmps) = true)
    (hx : a.eval x = .int k n) (hy : a.eval y = .int k q) (hr : bits .and k n q = r) (h : Rg R P ops Q B F s0 l (a.put d (.int k r)) s) : Rg R P ops Q B F s0 ((⟨d, .binOp .and T x y z, t, p, af, gd⟩, m) :: l) a s := by
  refine rg_any hm hg (fun w => ?_) h
  unfold Yld
  subst hr
  simp [execOp, hx, hy, eqGuard, binOp, Op.intBits, bits]
theorem rf_shlV {x y : Operand} {T z : TypeId} {k k' : IntKind} {n q e r : Int} {c : Nat} (hm : soft03 m = true) (hg : Region.wanted ⟨d, .binOp .shl T x y z, t, p, af, gd⟩ (yielded ops a.tmps) = true)
    (hx : a.eval x = .int k n) (hy : a.eval y = .int k' e) (he : e = (c : Int)) (hc : c ≤ k.bits) (hq : (2 : Int) ^ c = q) (hr : k.wrap (n * q) = r) (h : Rg R P ops Q B F s0 l (a.put d (.int k r)) s) : Rg R P ops Q B F s0 ((⟨d, .binOp .shl T x y z, t, p, af, gd⟩, m) :: l) a s := by
  subst he
  exact rf_shl hm hg hx hy (Nat.ble_eq_true_of_le hc) hq hr h
end
theorem rem_ok {n q : Int} (h0 : 0 ≤ n) : n.tmod q = n % q := Int.tmod_eq_emod_of_nonneg h0
end Go.Proofs.Ytccbinnlnkpplaa
namespace Go.Proofs.Ytccbinnlnkpplaa
set_option linter.all false
open Go.RowKit
theorem run_Add64 (x y c s r : Int) (hx : 0 ≤ x) (hy : 0 ≤ y) (hc0 : 0 ≤ c) (hc : c ≤ 1) (hs : (x + y + c) % 18446744073709551616 = s) (hr : (x + y + c) / 18446744073709551616 = r) (w : World) :
    (callFunc 186 #[.int .u64 x, .int .u64 y, .int .u64 c]).run Try.prog w = .ok (.value (.tuple #[.int .u64 s, .int .u64 r])) w := by
  rw [run_callFunc_extern Try.func186 Kx Kx Kx (e := add64Entry) Kx, run_add64 x y c hx hy hc0 hc, hs, hr]
  rfl
end Go.Proofs.Ytccbinnlnkpplaa
namespace Go.Proofs.Ytccbinnlnkpplaa
set_option linter.all false
open Go.RowKit
theorem run_Sub64 (x y b s r : Nat) (hb : b ≤ 1) (hs : (x + 18446744073709551616 - y - b) % 18446744073709551616 = s) (hr : (if x < y + b then 1 else 0) = r) (w : World) :
    (callFunc 210 #[.int .u64 x, .int .u64 y, .int .u64 b]).run Try.prog w = .ok (.value (.tuple #[.int .u64 s, .int .u64 r])) w := by
  rw [run_callFunc_extern Try.func210 Kx Kx Kx (e := sub64Entry) Kx, run_sub64 x y b hb, hs, hr]
  rfl
theorem run_Sub64I (x y b s r : Int) (x0 : 0 ≤ x) (y0 : 0 ≤ y) (y1 : y < 18446744073709551616) (b0 : 0 ≤ b) (hb : b ≤ 1) (hs : (x + 18446744073709551616 - y - b) % 18446744073709551616 = s) (hr : (if x < y + b then 1 else 0) = r) (w : World) :
    (callFunc 210 #[.int .u64 x, .int .u64 y, .int .u64 b]).run Try.prog w = .ok (.value (.tuple #[.int .u64 s, .int .u64 r])) w := by
  obtain ⟨x, rfl⟩ := Int.eq_ofNat_of_zero_le x0
  obtain ⟨y, rfl⟩ := Int.eq_ofNat_of_zero_le y0
  obtain ⟨b, rfl⟩ := Int.eq_ofNat_of_zero_le b0
  have h := run_Sub64 x y b _ _ Ox rfl rfl w
  have e1 : (((x + 18446744073709551616 - y - b) % 18446744073709551616 : Nat) : Int) = s := by rw [← hs]; omega
  have e2 : (((if x < y + b then 1 else 0 : Nat)) : Int) = r := by rw [← hr]; split <;> split <;> omega
  rw [e1, e2] at h
  exact h
end Go.Proofs.Ytccbinnlnkpplaa
namespace Go.Proofs.Ytccbinnlnkpplaa
set_option linter.all false

def sel4 {α : Type} (a b c d : α) : Nat → α
  | 0 => a
  | 1 => b
  | 2 => c
  | _ => d
def upd {α : Type} (T : Nat → α) (j : Nat) (t : α) : Nat → α := fun m => if m = j then t else T m
theorem upd_same {α : Type} (T : Nat → α) (j : Nat) (t : α) : upd T j t j = t := if_pos rfl
theorem upd_other {α : Type} (T : Nat → α) {j m : Nat} (t : α) (h : m ≠ j) : upd T j t m = T m := if_neg h
theorem lt4 {m : Nat} (h : m < 4) : m = 0 ∨ m = 1 ∨ m = 2 ∨ m = 3 := by omega
/-- The sum of the first n products. -/
def acc (X Y : Nat → Int) : Nat → Nat → Int
  | 0, _ => 0
  | n + 1, m => if m = (n / 4 + n % 4) % 4 then acc X Y n m + (if 4 ≤ n / 4 + n % 4 then -(X (n / 4) * Y (n % 4)) else X (n / 4) * Y (n % 4)) else acc X Y n m
theorem acc_bound {X Y : Nat → Int} {M : Int} (h0 : 0 ≤ M) (h : ∀ i k, i < 4 → k < 4 → -M ≤ X i * Y k ∧ X i * Y k ≤ M) : ∀ n m, n ≤ 16 → -(n * M) ≤ acc X Y n m ∧ acc X Y n m ≤ n * M
  | 0, m, _ => by simp [acc]
  | n + 1, m, hn => by
    have ih := acc_bound h0 h n m (by omega)
    have hb := h (n / 4) (n % 4) (by omega) (by omega)
    have e : ((n + 1 : Nat) : Int) * M = n * M + M := by rw [Int.natCast_add, Int.add_mul]; simp
    rw [e]
    simp only [acc]
    split
    · split <;> omega
    · omega
theorem acc_16 (x y : Nm) : (⟨acc (sel4 x.a x.b x.c x.d) (sel4 y.a y.b y.c y.d) 16 0, acc (sel4 x.a x.b x.c x.d) (sel4 y.a y.b y.c y.d) 16 1, acc (sel4 x.a x.b x.c x.d) (sel4 y.a y.b y.c y.d) 16 2, acc (sel4 x.a x.b x.c x.d) (sel4 y.a y.b y.c y.d) 16 3, x.k + y.k⟩ : Nm) = x.mulR y := by
  unfold Nm.mulR
  congr 1 <;> simp [acc, sel4] <;> omega
theorem acc_step {X Y T : Nat → Int} {i k : Nat} (hk : k < 4) (h : acc X Y (i * 4 + k) = T) : acc X Y (i * 4 + (k + 1)) = upd T ((i + k) % 4) (T ((i + k) % 4) + (if 4 ≤ i + k then -(X i * Y k) else X i * Y k)) := by
  funext m
  have e1 : (i * 4 + k) / 4 = i := by omega
  have e2 : (i * 4 + k) % 4 = k := by omega
  rw [show i * 4 + (k + 1) = i * 4 + k + 1 by omega]
  simp only [acc]
  rw [e1, e2, h]
  unfold upd
  split
  · next hm => rw [hm]
  · rfl
theorem sel_cases {p : Nat → Prop} (h0 : p 0) (h1 : p 1) (h2 : p 2) (h3 : p 3) : ∀ m, m < 4 → p m := fun m hm => by
  rcases lt4 hm with rfl | rfl | rfl | rfl <;> assumption
def smB (n : Int) : Bool := decide (-1000000000 ≤ n) && decide (n ≤ 1000000000)
def numOk (y : Nm) : Bool := smB y.a && (smB y.b && (smB y.c && smB y.d))
def wnum (z : Nm) : Nm × Bool := if numOk z.nf = true then (z.nf, decide (z.nf.k ≤ 40)) else (Nm.zero, false)
end Go.Proofs.Ytccbinnlnkpplaa
namespace Go.Proofs.Ytccbinnlnkpplaa
set_option linter.all false
open Go.RowKit
section
variable {R : Option Nat} {P : Program} {ops : Array Oper} {Q : Exit → Act → World → Prop} {B : World} {F : List Nat} {s0 : Option (List Blk × List Blk)}
variable {l : List (Oper × Nat)} {a : Act} {s s' : List Blk} {d : Option Tmp} {op : Op} {t : TypeId} {p : String} {af : Array Edge} {v : Value} {gd : Option (Nat × Bool)} {m : Nat}
theorem run_isAgg {T : TypeId} {dd : TypeDesc} (hu : P.underlying T = some dd) (w : World) : (isAgg T).run P w = .ok (isRow dd) w := by
  unfold isAgg
  rw [Sem.run_bind, run_underlying hu w]
  cases dd <;> simp_all [isRow]
theorem rf_idxR {T : Nat} {x y : Operand} {n len e sz : Nat} {cs : Array Value} {k : IntKind} {dd : TypeDesc} (hm : soft03 m = true) (hg : Region.wanted ⟨d, .index T x y, t, p, af, gd⟩ (yielded ops a.tmps) = true)
    (hx : a.eval x = .agg cs) (hy : a.eval y = .int k (n : Int)) (hu : P.underlying T = some (.array len e)) (he : P.underlying e = some dd) (hr : isRow dd = true) (hs : (P.info? e).map (·.size) = some sz) (hn : n < len)
    {vs : Array Value} (hv : cs.extract (n * sz) (n * sz + sz) = vs) (h : Rg R P ops Q B F s0 l (a.put d (.agg vs)) s) : Rg R P ops Q B F s0 ((⟨d, .index T x y, t, p, af, gd⟩, m) :: l) a s := by
  subst hv
  refine rg_any hm hg (fun w => ?_) h
  unfold Yld
  cases hq : P.info? e with
  | none => simp [hq] at hs
  | some q =>
    have hs' : q.size = sz := by simpa [hq] using hs
    have ha := run_isAgg he w
    rw [hr] at ha
    simp [execOp, hx, hy, Instr.index, run_underlying hu, asIntOf, part, ha, sizeOf, typeInfo, hq, hs', hn]
theorem rf_idx1 {T : Nat} {x y : Operand} {n len e : Nat} {cs : Array Value} {k : IntKind} {dd : TypeDesc} (hm : soft03 m = true) (hg : Region.wanted ⟨d, .index T x y, t, p, af, gd⟩ (yielded ops a.tmps) = true)
    (hx : a.eval x = .agg cs) (hy : a.eval y = .int k (n : Int)) (hu : P.underlying T = some (.array len e)) (he : P.underlying e = some dd) (hr : isRow dd = false) (hs : (P.info? e).map (·.size) = some 1) (hn : n < len)
    (hv : cs[n]? = some v) (h : Rg R P ops Q B F s0 l (a.put d v) s) : Rg R P ops Q B F s0 ((⟨d, .index T x y, t, p, af, gd⟩, m) :: l) a s := by
  refine rg_any hm hg (fun w => ?_) h
  unfold Yld
  cases hq : P.info? e with
  | none => simp [hq] at hs
  | some q =>
    have hs' : q.size = 1 := by simpa [hq] using hs
    have ha := run_isAgg he w
    rw [hr] at ha
    simp [execOp, hx, hy, Instr.index, run_underlying hu, asIntOf, part, ha, sizeOf, typeInfo, hq, hs', hn, hv]
end
end Go.Proofs.Ytccbinnlnkpplaa
namespace Go.Proofs.Ytccbinnlnkpplaa
set_option linter.all false
open Go.RowKit

set_option maxRecDepth 100000 in
set_option maxHeartbeats 1000000 in
theorem amconj_any (z : Nm) (h : z.Fit 4611686018427387903) (w : World) : Calls Try.prog 120 #[nmV z] w fun e w' => e = .returned (nmV z.conj) ∧ Below w.heap.size w w' := by
  obtain ⟨fa0, fa1, fb0, fb1, fc0, fc1, fd0, fd1⟩ := h
  go_enter Try.func120, Try.ntmps120
  refine wk_start ?_
  refine wk_seq ?_
  refine wk_region [1, 1] rfl Kx ?_
  simp only [qy]
  refine Rgn fun g1 => ?_
  simp only [qz]
  refine Rgn fun g2 => ?_
  simp only [qz]
  refine rg_nil (ek_next (wk_seq ?_))
  refine wk_region [0, 0, 0, 0, 0, 0, 0, 0, 0, 0, 0, 0, 0, 0, 0, 0, 0, 0, 0, 1] rfl Kx ?_
  simp only [qy]
  refine rf_field (n := 3) (j := 0) rfl rfl rfl Try.underlying45 rfl Kx rfl ?_
  simp only [qz]
  refine rf_indexA (n := 0) (sz := 1) (j := 0) rfl rfl rfl rfl Try.underlying43 Kx (by decide) rfl ?_
  simp only [qz]
  refine rf_load rfl rfl rfl Try.underlying3 rfl (fun w hw => (Kn.hd0 (Kn.tl hw)).at rfl) ?_
  simp only [qz]
  refine rf_field (n := 3) (j := 0) rfl rfl rfl Try.underlying45 rfl Kx rfl ?_
  simp only [qz]
  refine rf_indexA (n := 3) (sz := 1) (j := 3) rfl rfl rfl rfl Try.underlying43 Kx (by decide) rfl ?_
  simp only [qz]
  refine rf_load rfl rfl rfl Try.underlying3 rfl (fun w hw => (Kn.hd0 (Kn.tl hw)).at rfl) ?_
  simp only [qz]
  refine rf_neg rfl rfl rfl (wrap_ok Ox Ox) ?_
  simp only [qz]
  refine rf_field (n := 3) (j := 0) rfl rfl rfl Try.underlying45 rfl Kx rfl ?_
  simp only [qz]
  refine rf_indexA (n := 2) (sz := 1) (j := 2) rfl rfl rfl rfl Try.underlying43 Kx (by decide) rfl ?_
  simp only [qz]
  refine rf_load rfl rfl rfl Try.underlying3 rfl (fun w hw => (Kn.hd0 (Kn.tl hw)).at rfl) ?_
  simp only [qz]
  refine rf_neg rfl rfl rfl (wrap_ok Ox Ox) ?_
  simp only [qz]
  refine rf_field (n := 3) (j := 0) rfl rfl rfl Try.underlying45 rfl Kx rfl ?_
  simp only [qz]
  refine rf_indexA (n := 1) (sz := 1) (j := 1) rfl rfl rfl rfl Try.underlying43 Kx (by decide) rfl ?_
  simp only [qz]
  refine rf_load rfl rfl rfl Try.underlying3 rfl (fun w hw => (Kn.hd0 (Kn.tl hw)).at rfl) ?_
  simp only [qz]
  refine rf_neg rfl rfl rfl (wrap_ok Ox Ox) ?_
  simp only [qz]
  refine rf_build (cs := fun a => #[a.eval (.tmp 5), a.eval (.tmp 9), a.eval (.tmp 13), a.eval (.tmp 17)]) rfl rfl Kx ?_
  simp only [qz]
  refine rf_field (n := 0) (j := 4) rfl rfl rfl Try.underlying45 rfl Kx rfl ?_
  simp only [qz]
  refine rf_load rfl rfl rfl Try.underlying3 rfl (fun w hw => (Kn.hd0 (Kn.tl hw)).at rfl) ?_
  simp only [qz]
  refine rf_build (cs := fun a => #[cellAt (a.eval (.tmp 18)) 0, cellAt (a.eval (.tmp 18)) 1, cellAt (a.eval (.tmp 18)) 2, cellAt (a.eval (.tmp 18)) 3, a.eval (.tmp 20)]) rfl rfl Kx ?_
  simp only [qz]
  refine rf_storeR (n := 5) rfl rfl Kx rfl rfl (UpdR.here _ _ _ Nl) Nz ?_
  simp only [qz, Nat.reduceAdd]
  refine rg_nil (ek_next (wk_ret ?_))
  refine ek_ret (fun w hw => ⟨rfl, _, run_results1 rfl rfl (Kn.hd0 hw) Try.underlying45 rfl Kx, ?_⟩)
  (try simp only [qz])
  first | exact ⟨rfl, hw.below⟩ | exact ⟨trivial, hw.below⟩ | exact hw.below

end Go.Proofs.Ytccbinnlnkpplaa
