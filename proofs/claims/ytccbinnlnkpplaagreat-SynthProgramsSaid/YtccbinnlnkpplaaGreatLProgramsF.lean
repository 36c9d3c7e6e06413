/- Texts in one: PgN, PgM, PgO, PgQ, PgS, PgB, Zs, PgK, EqA, Pg1, PgC, AmHv, Pg2. -/
import Derived.Test.YtccbinnlnkpplaaGreatLProgramsE
namespace Go.Proofs.YtccbinnlnkpplaaGreat
set_option linter.all false
set_option maxRecDepth 100000
set_option maxHeartbeats 1000000
def omQ : Q4 := ⟨0, 1, 0, 0⟩
def imQ : Q4 := ⟨0, 0, 1, 0⟩
def hhQ : Q4 := ⟨0, 1 / 2, 0, -1 / 2⟩
def omP : Nat → Q4
  | 0 => 1
  | n + 1 => omQ * omP n
theorem dh_hh (x : Q4) : Q4.dh x = hhQ * x := by
  apply Q4.ext' <;> simp only [Q4.dh, hhQ, Q4.ma, Q4.mb, Q4.mc, Q4.md] <;> grind
theorem Q4.neg_neg (x : Q4) : -(-x) = x := by apply Q4.ext' <;> simp only [Q4.na, Q4.nb, Q4.nc, Q4.nd] <;> grind
theorem om_unit : Q4.conj omQ * omQ = 1 := by
  apply Q4.ext' <;> simp only [omQ, Q4.ma, Q4.mb, Q4.mc, Q4.md, Q4.ca, Q4.cb, Q4.cc, Q4.cd, Q4.oa, Q4.ob, Q4.oc, Q4.od] <;> grind
theorem mul4c (a b c d : Q4) : a * b * (c * d) = a * c * (b * d) := by
  rw [Q4.mul_assoc, ← Q4.mul_assoc b c d, Q4.mul_comm b c, Q4.mul_assoc c b d, ← Q4.mul_assoc]
theorem omP_unit : ∀ n, Q4.conj (omP n) * omP n = 1
  | 0 => by show Q4.conj 1 * 1 = 1; rw [Q4.mul_one, Q4.conj_one]
  | n + 1 => by
    show Q4.conj (omQ * omP n) * (omQ * omP n) = 1
    rw [Q4.conj_mul, mul4c, om_unit, omP_unit n, Q4.mul_one]
theorem conj_unit_mul {u x y : Q4} (h : Q4.conj u * u = 1) : Q4.conj (u * x) * (u * y) = Q4.conj x * y := by
  rw [Q4.conj_mul, mul4c, h, Q4.one_mul]
abbrev Tb := Nat → Nat → Q4
def swq (p c : Nat) : Nat := if c = p then p + 1 else if c = p + 1 then p else c
def phQ (p : Nat) (u : Q4) (m : Tb) : Tb := fun i k => if i = p then u * m i k else m i k
def crQ (p : Nat) (m : Tb) : Tb := fun i k => m (swq p i) k
def cpQ (p : Nat) (m : Tb) : Tb := fun i k => if i = p then hhQ * (m p k + imQ * m (p + 1) k) else if i = p + 1 then hhQ * (imQ * m p k + m (p + 1) k) else m i k
theorem sumQ_two {p : Nat} {f g : Nat → Q4} (h : ∀ i, i ≠ p → i ≠ p + 1 → f i = g i) (h2 : f p + f (p + 1) = g p + g (p + 1)) : ∀ n, p + 1 < n → sumQ n f = sumQ n g
  | 0, hn => absurd hn Ox
  | n + 1, hn => by
    by_cases e : n = p + 1
    · subst e
      simp only [sumQ]; rw [Q4.add_assoc, Q4.add_assoc, h2, sumQ_congr fun i hi => h i Ox Ox]
    · simp only [sumQ]; rw [sumQ_two h h2 n Ox, h n Ox Ox]
theorem ph_un {n p : Nat} {u : Q4} {m : Tb} (hu : Q4.conj u * u = 1) (h : UnC n m) : UnC n (phQ p u m) := fun i j hi hj => by
  rw [← h i j hi hj]
  refine sumQ_congr fun k _ => ?_
  unfold phQ
  split
  · exact conj_unit_mul hu
  · rfl
theorem cr_un {n p : Nat} {m : Tb} (hp : p + 1 < n) (h : UnC n m) : UnC n (crQ p m) := fun i j hi hj => by
  rw [← h i j hi hj]
  have e1 : swq p p = p + 1 := if_pos rfl
  have e2 : swq p (p + 1) = p := by unfold swq; rw [if_neg Ox, if_pos rfl]
  refine sumQ_two (p := p) (fun k h1 h2 => ?_) ?_ n hp
  · unfold crQ swq
    rw [if_neg h1, if_neg h2]
  · unfold crQ
    rw [e1, e2, Q4.add_comm]
theorem cp_norm (a b c d : Q4) : Q4.conj (hhQ * (a + imQ * b)) * (hhQ * (c + imQ * d)) + Q4.conj (hhQ * (imQ * a + b)) * (hhQ * (imQ * c + d)) = Q4.conj a * c + Q4.conj b * d := by
  have e1 : Q4.conj hhQ * hhQ = ⟨1 / 2, 0, 0, 0⟩ := by
    apply Q4.ext' <;> simp only [hhQ, Q4.ma, Q4.mb, Q4.mc, Q4.md, Q4.ca, Q4.cb, Q4.cc, Q4.cd] <;> grind
  have e2 : ∀ x y : Q4, Q4.conj (hhQ * x) * (hhQ * y) = ⟨1 / 2, 0, 0, 0⟩ * (Q4.conj x * y) := fun x y => by rw [Q4.conj_mul, mul4c, e1]
  rw [e2, e2]
  have e3 : Q4.conj imQ * imQ = 1 := by
    apply Q4.ext' <;> simp only [imQ, Q4.ma, Q4.mb, Q4.mc, Q4.md, Q4.ca, Q4.cb, Q4.cc, Q4.cd, Q4.oa, Q4.ob, Q4.oc, Q4.od] <;> grind
  have e4 : Q4.conj imQ = -imQ := by
    apply Q4.ext' <;> simp only [imQ, Q4.ca, Q4.cb, Q4.cc, Q4.cd, Q4.na, Q4.nb, Q4.nc, Q4.nd] <;> grind
  have e5 : Q4.conj (a + imQ * b) * (c + imQ * d) + Q4.conj (imQ * a + b) * (imQ * c + d) = (Q4.conj a * c + Q4.conj b * d) + (Q4.conj a * c + Q4.conj b * d) := by
    rw [Q4.conj_add, Q4.conj_add, Q4.add_mul, Q4.add_mul, Q4.mul_add, Q4.mul_add, Q4.mul_add, Q4.mul_add, conj_unit_mul e3, conj_unit_mul e3, Q4.conj_mul, Q4.conj_mul, e4]
    generalize Q4.conj a = a'
    generalize Q4.conj b = b'
    have f1 : a' * (imQ * d) = imQ * (a' * d) := by rw [← Q4.mul_assoc, Q4.mul_comm a', Q4.mul_assoc]
    have f2 : b' * (imQ * c) = imQ * (b' * c) := by rw [← Q4.mul_assoc, Q4.mul_comm b', Q4.mul_assoc]
    rw [f1, f2, Q4.neg_mul, Q4.neg_mul, Q4.neg_mul, Q4.neg_mul, Q4.mul_assoc, Q4.mul_assoc]
    generalize a' * c = x
    generalize b' * d = y
    generalize imQ * (a' * d) = s
    generalize imQ * (b' * c) = t
    apply Q4.ext' <;> simp only [Q4.aa, Q4.ab, Q4.ac, Q4.ad, Q4.na, Q4.nb, Q4.nc, Q4.nd] <;> grind
  rw [← Q4.mul_add, e5]
  generalize Q4.conj a * c + Q4.conj b * d = z
  apply Q4.ext' <;> simp only [Q4.aa, Q4.ab, Q4.ac, Q4.ad, Q4.ma, Q4.mb, Q4.mc, Q4.md] <;> grind
theorem cp_un {n p : Nat} {m : Tb} (hp : p + 1 < n) (h : UnC n m) : UnC n (cpQ p m) := fun i j hi hj => by
  rw [← h i j hi hj]; refine sumQ_two (p := p) (fun k h1 h2 => ?_) ?_ n hp
  · unfold cpQ
    rw [if_neg h1, if_neg h2, if_neg h1, if_neg h2]
  · unfold cpQ
    rw [if_pos rfl, if_pos rfl, if_neg (show ¬ p + 1 = p by omega), if_pos rfl, if_neg (show ¬ p + 1 = p by omega), if_pos rfl]
    exact cp_norm _ _ _ _
def InQ (K : Nat) (v : Q4) : Prop := ∃ z : Nm, z.k = K ∧ z.val = v
theorem InQ.up {K : Nat} {v : Q4} (h : InQ K v) : InQ (K + 1) v := by
  obtain ⟨z, hk, hv⟩ := h
  exact ⟨z.tr, by show z.k + 1 = _; omega, by rw [val_tr Ox]; exact hv⟩
theorem InQ.mono {K L : Nat} {v : Q4} (h : InQ K v) (hl : K ≤ L) : InQ L v := by
  obtain ⟨d, rfl⟩ := Nat.le.dest hl
  clear hl
  induction d with
  | zero => exact h
  | succ d ih => exact ih.up
theorem InQ.zero (K : Nat) : InQ K 0 := InQ.mono (K := 0) ⟨Nm.zero, rfl, val_zero⟩ (Nat.zero_le _)
theorem InQ.one (K : Nat) : InQ K 1 := InQ.mono (K := 0) ⟨Nm.one, rfl, val_one⟩ (Nat.zero_le _)
theorem valK (K : Nat) (z : Nm) (h : z.k = K) : z.val = Q4.dn K z.co := by unfold Nm.val; rw [h, Int.toNat_natCast]
theorem InQ.add {K : Nat} {u v : Q4} (hu : InQ K u) (hv : InQ K v) : InQ K (u + v) := by
  obtain ⟨x, hx, rfl⟩ := hu
  obtain ⟨y, hy, rfl⟩ := hv
  refine ⟨⟨x.a + y.a, x.b + y.b, x.c + y.c, x.d + y.d, K⟩, rfl, ?_⟩; rw [valK K _ rfl, valK K x hx, valK K y hy, ← Q4.dn_add]
  congr 1
  apply Q4.ext' <;> simp only [Nm.co, Q4.aa, Q4.ab, Q4.ac, Q4.ad, Rat.intCast_add]
theorem rot_val (z : Nm) : z.rot.val = omQ * z.val := by
  have hk : z.rot.k = z.k := rfl
  unfold Nm.val
  rw [hk, Q4.mul_comm, ← Q4.dn_mul]
  congr 1
  apply Q4.ext' <;> simp only [Nm.co, Nm.rot, omQ, Q4.ma, Q4.mb, Q4.mc, Q4.md, Rat.intCast_neg] <;> grind
theorem InQ.om {K : Nat} {v : Q4} (h : InQ K v) : InQ K (omQ * v) := by
  obtain ⟨z, hk, rfl⟩ := h
  exact ⟨z.rot, hk, rot_val z⟩
theorem InQ.omn {K : Nat} {v : Q4} (h : InQ K v) : ∀ n, InQ K (omP n * v)
  | 0 => by show InQ K (1 * v); rw [Q4.one_mul]; exact h
  | n + 1 => by
    show InQ K (omQ * omP n * v)
    rw [Q4.mul_assoc]
    exact (InQ.omn h n).om
theorem om_im : omQ * omQ = imQ := by
  apply Q4.ext' <;> simp only [omQ, imQ, Q4.ma, Q4.mb, Q4.mc, Q4.md] <;> grind
theorem InQ.im {K : Nat} {v : Q4} (h : InQ K v) : InQ K (imQ * v) := by
  rw [← om_im, Q4.mul_assoc]
  exact h.om.om
theorem dn_hh : ∀ (n : Nat) (x : Q4), Q4.dn (n + 1) x = hhQ * Q4.dn n x
  | n, x => by
    show Q4.dn n (Q4.dh x) = _
    rw [dh_hh, Q4.mul_comm, Q4.dn_mul, Q4.mul_comm]
theorem val_hh (a b c d : Int) (K : Nat) : (⟨a, b, c, d, (K : Int) + 1⟩ : Nm).val = hhQ * (⟨a, b, c, d, K⟩ : Nm).val := by
  rw [valK (K + 1) ⟨a, b, c, d, (K : Int) + 1⟩ (by show (K : Int) + 1 = _; omega), valK K ⟨a, b, c, d, K⟩ rfl, dn_hh]
  rfl
theorem InQ.hh {K : Nat} {v : Q4} (h : InQ K v) : InQ (K + 1) (hhQ * v) := by
  obtain ⟨z, hk, rfl⟩ := h
  refine ⟨⟨z.a, z.b, z.c, z.d, (K : Int) + 1⟩, by show (K : Int) + 1 = _; omega, ?_⟩; rw [val_hh, ← hk]
theorem nf_in {K : Nat} {v : Q4} (h : InQ K v) : ∃ z : Nm, z.Nf ∧ 0 ≤ z.k ∧ z.k ≤ K ∧ z.val = v := by
  obtain ⟨z, hk, rfl⟩ := h
  have h0 : 0 ≤ z.k := by omega
  have h1 := nf_k h0
  exact ⟨z.nf, nf_form z, h1.1, by omega, val_eqv h1.1 h0 (nf_eqv z)⟩
theorem nf_val {x y : Nm} (hx : x.Nf) (hx0 : 0 ≤ x.k) (hy : y.Nf) (hy0 : 0 ≤ y.k) (h : x.val = y.val) : x = y := form_unique hx hy hx0 hy0 (eqv_val hx0 hy0 h)
theorem le_in {K : Nat} {z : Nm} (hz : z.Nf) (h0 : 0 ≤ z.k) (h : InQ K z.val) : z.k ≤ K := by
  obtain ⟨x, hx, hx0, hxK, hv⟩ := nf_in h
  rw [← nf_val hx hx0 hz h0 hv]
  exact hxK
theorem in_le {K : Nat} {z : Nm} (h0 : 0 ≤ z.k) (h : z.k ≤ K) : InQ K z.val := InQ.mono (K := z.k.toNat) ⟨z, by omega, rfl⟩ Ox
end Go.Proofs.YtccbinnlnkpplaaGreat
namespace Go.Proofs.YtccbinnlnkpplaaGreat
set_option linter.all false
set_option maxRecDepth 100000
set_option maxHeartbeats 1000000
def sumE (z : Nm) : Int := z.a + z.b + z.c + z.d
def kindN (z : Nm) (K : Int) : Int := if z.k < K then 0 else if sumE z % 2 = 1 then 1 else 2
def dexp (z : Nm) : Nat := if z.k ≤ 0 then 0 else if sumE z % 2 = 1 then (2 * z.k).toNat else (2 * z.k - 1).toNat
theorem dexp_le (z : Nm) {K : Int} (h : z.k ≤ K) (h0 : 0 ≤ K) : (dexp z : Int) ≤ 2 * K := by
  unfold dexp
  split
  · omega
  · split <;> omega
theorem nf_dexp {z : Nm} {K : Int} (h0 : 0 ≤ z.k) (hk : z.k ≤ K) : (dexp z.nf : Int) ≤ 2 * K := dexp_le _ (by have := nf_k h0; omega) Ox
theorem nf_dexp1 {z : Nm} {K : Int} (h0 : 0 ≤ z.k) (hk : z.k ≤ K) (hK : 0 < K) (he : sumE z % 2 = 0) : (dexp z.nf : Int) ≤ 2 * K - 1 := by
  by_cases hn : 0 < z.k ∧ z.even
  · have h1 := nf_step hn.1 hn.2
    rw [h1]
    have := nf_dexp (z := z.step) (K := K - 1) (by show 0 ≤ z.k - 1; omega) (by show z.k - 1 ≤ _; omega)
    omega
  · rw [nf_stop hn]
    unfold dexp
    rw [if_neg (show ¬ sumE z % 2 = 1 by omega)]
    split <;> omega
def AllE (z : Nm) : Prop := z.a % 2 = 0 ∧ z.b % 2 = 0 ∧ z.c % 2 = 0 ∧ z.d % 2 = 0
def AllO (z : Nm) : Prop := z.a % 2 = 1 ∧ z.b % 2 = 1 ∧ z.c % 2 = 1 ∧ z.d % 2 = 1
theorem drop_core {s : Nm} {K : Int} (hK : 0 < K) (hs : s.k = K + 1) :
    (AllE s → ∃ t : Nm, 0 ≤ t.k ∧ t.k = K - 1 ∧ t.val = s.val) ∧ (AllO s → ∃ t : Nm, t.k = K ∧ sumE t % 2 = 0 ∧ t.val = s.val) := by
  obtain ⟨a, b, c, d, k⟩ := s
  simp only at hs
  subst hs
  constructor
  · rintro ⟨h1, h2, h3, h4⟩
    simp only at h1 h2 h3 h4
    refine ⟨⟨a / 2, b / 2, c / 2, d / 2, K - 1⟩, by show 0 ≤ K - 1; omega, rfl, ?_⟩
    have e : (⟨a, b, c, d, K + 1⟩ : Nm) = (⟨a / 2, b / 2, c / 2, d / 2, K - 1⟩ : Nm).tr.tr := by
      rw [Nm.tr2]; simp only [Nm.mk.injEq]
      omega
    rw [e, val_tr (by show 0 ≤ K - 1 + 1; omega), val_tr (by show 0 ≤ K - 1; omega)]
  · rintro ⟨h1, h2, h3, h4⟩
    simp only at h1 h2 h3 h4
    refine ⟨(⟨a, b, c, d, K + 1⟩ : Nm).step, by show K + 1 - 1 = K; omega, ?_, ?_⟩
    · unfold sumE Nm.step
      simp only
      omega
    · have he : (⟨a, b, c, d, K + 1⟩ : Nm).even := ⟨by show (a + c) % 2 = 0; omega, by show (b + d) % 2 = 0; omega⟩
      rw [← val_tr (z := (⟨a, b, c, d, K + 1⟩ : Nm).step) (by show 0 ≤ K + 1 - 1; omega), Nm.tr_step he]
def wtE (z : Nm) : Int := z.a % 2 + z.b % 2 + z.c % 2 + z.d % 2
def okM (x y : Nm) : Bool := if wtE x = wtE y then decide (x.a % 2 = y.a % 2 ∧ x.b % 2 = y.b % 2 ∧ x.c % 2 = y.c % 2 ∧ x.d % 2 = y.d % 2) else decide (x.a % 2 = 1 - y.a % 2 ∧ x.b % 2 = 1 - y.b % 2 ∧ x.c % 2 = 1 - y.c % 2 ∧ x.d % 2 = 1 - y.d % 2)
def turnN (n : Nat) (z : Nm) : Nm := match n with
  | 0 => z
  | 1 => z.rot
  | 2 => z.rot.rot
  | _ => z.rot.rot.rot
def matchN (x y : Nm) : Nat := if okM x (turnN 0 y) then 0 else if okM x (turnN 1 y) then 1 else if okM x (turnN 2 y) then 2 else if okM x (turnN 3 y) then 3 else 0
theorem mod2 (a : Int) : a % 2 = 0 ∨ a % 2 = 1 := by omega
theorem neg2 (a : Int) : (-a) % 2 = a % 2 := by omega
def okF (A B C D A' B' C' D' : Fin 2) : Bool := if A.val + B.val + C.val + D.val = A'.val + B'.val + C'.val + D'.val then decide (A = A') && decide (B = B') && decide (C = C') && decide (D = D') else decide (A ≠ A') && decide (B ≠ B') && decide (C ≠ C') && decide (D ≠ D')
theorem okF_key : ∀ A B C D A' B' C' D' : Fin 2, (A.val + B.val + C.val + D.val) % 2 = (A'.val + B'.val + C'.val + D'.val) % 2 → ¬ (A = C ∧ B = D) → ¬ (A' = C' ∧ B' = D') →
    okF A B C D A' B' C' D' = true ∨ okF A B C D D' A' B' C' = true ∨ okF A B C D C' D' A' B' = true ∨ okF A B C D B' C' D' A' = true := by decide
theorem res2 (a : Int) : ∃ A : Fin 2, a % 2 = (A.val : Int) := by
  rcases mod2 a with h | h
  · exact ⟨0, h⟩
  · exact ⟨1, h⟩
theorem okM_F {x y : Nm} {A B C D A' B' C' D' : Fin 2} (h1 : x.a % 2 = (A.val : Int)) (h2 : x.b % 2 = (B.val : Int)) (h3 : x.c % 2 = (C.val : Int)) (h4 : x.d % 2 = (D.val : Int))
    (k1 : y.a % 2 = (A'.val : Int)) (k2 : y.b % 2 = (B'.val : Int)) (k3 : y.c % 2 = (C'.val : Int)) (k4 : y.d % 2 = (D'.val : Int)) (h : okF A B C D A' B' C' D' = true) : okM x y = true := by
  have f1 := A.isLt; have f2 := B.isLt; have f3 := C.isLt; have f4 := D.isLt
  have g1 := A'.isLt; have g2 := B'.isLt; have g3 := C'.isLt; have g4 := D'.isLt
  unfold okF at h
  unfold okM wtE
  rw [h1, h2, h3, h4, k1, k2, k3, k4]
  split at h
  · rename_i e
    simp only [Bool.and_eq_true, decide_eq_true_eq] at h
    obtain ⟨⟨⟨rfl, rfl⟩, rfl⟩, rfl⟩ := h
    rw [if_pos rfl]
    exact decide_eq_true ⟨rfl, rfl, rfl, rfl⟩
  · rename_i e
    simp only [Bool.and_eq_true, decide_eq_true_eq, ne_eq, Fin.ext_iff] at h; rw [if_neg Ox]
    exact decide_eq_true ⟨by omega, by omega, by omega, by omega⟩
theorem match_ok {x y : Nm} (h : sumE x % 2 = sumE y % 2) (hx : ¬ x.even) (hy : ¬ y.even) : okM x (turnN (matchN x y) y) = true := by
  have key : okM x (turnN 0 y) = true ∨ okM x (turnN 1 y) = true ∨ okM x (turnN 2 y) = true ∨ okM x (turnN 3 y) = true := by
    obtain ⟨A, h1⟩ := res2 x.a
    obtain ⟨B, h2⟩ := res2 x.b
    obtain ⟨C, h3⟩ := res2 x.c
    obtain ⟨D, h4⟩ := res2 x.d
    obtain ⟨A', k1⟩ := res2 y.a
    obtain ⟨B', k2⟩ := res2 y.b
    obtain ⟨C', k3⟩ := res2 y.c
    obtain ⟨D', k4⟩ := res2 y.d
    have n1 : (-y.a) % 2 = (A'.val : Int) := by rw [neg2]; exact k1
    have n2 : (-y.b) % 2 = (B'.val : Int) := by rw [neg2]; exact k2
    have n3 : (-y.c) % 2 = (C'.val : Int) := by rw [neg2]; exact k3
    have n4 : (-y.d) % 2 = (D'.val : Int) := by rw [neg2]; exact k4
    have hx' : ¬ ((x.a + x.c) % 2 = 0 ∧ (x.b + x.d) % 2 = 0) := hx
    have hy' : ¬ ((y.a + y.c) % 2 = 0 ∧ (y.b + y.d) % 2 = 0) := hy
    unfold sumE at h
    have f1 := A.isLt; have f2 := B.isLt; have f3 := C.isLt; have f4 := D.isLt
    have g1 := A'.isLt; have g2 := B'.isLt; have g3 := C'.isLt; have g4 := D'.isLt
    rcases okF_key A B C D A' B' C' D' Ox (by rw [Fin.ext_iff, Fin.ext_iff]; omega) (by rw [Fin.ext_iff, Fin.ext_iff]; omega) with e | e | e | e
    · exact .inl (okM_F h1 h2 h3 h4 k1 k2 k3 k4 e)
    · exact .inr (.inl (okM_F h1 h2 h3 h4 n4 k1 k2 k3 e))
    · exact .inr (.inr (.inl (okM_F h1 h2 h3 h4 n3 n4 k1 k2 e)))
    · exact .inr (.inr (.inr (okM_F h1 h2 h3 h4 n2 n3 n4 k1 e)))
  unfold matchN
  by_cases h0 : okM x (turnN 0 y) = true
  · rw [if_pos h0]; exact h0
  · rw [if_neg h0]
    by_cases h1 : okM x (turnN 1 y) = true
    · rw [if_pos h1]; exact h1
    · rw [if_neg h1]
      by_cases h2 : okM x (turnN 2 y) = true
      · rw [if_pos h2]; exact h2
      · rw [if_neg h2]
        have h3 : okM x (turnN 3 y) = true := by
          rcases key with h | h | h | h
          · exact absurd h h0
          · exact absurd h h1
          · exact absurd h h2
          · exact h
        rw [if_pos h3]; exact h3
theorem turnN_k (n : Nat) (z : Nm) : (turnN n z).k = z.k := by
  match n with
  | 0 => rfl
  | 1 => rfl
  | 2 => rfl
  | _ + 3 => rfl
theorem turnN_val {n : Nat} (h : n < 4) (z : Nm) : (turnN n z).val = omP n * z.val := by
  match n, h with
  | 0, _ => show z.val = 1 * z.val; rw [Q4.one_mul]
  | 1, _ => show z.rot.val = omQ * 1 * z.val; rw [Q4.mul_one, rot_val]
  | 2, _ => show z.rot.rot.val = omQ * (omQ * 1) * z.val; rw [Q4.mul_one, rot_val, rot_val, Q4.mul_assoc]
  | 3, _ => show z.rot.rot.rot.val = omQ * (omQ * (omQ * 1)) * z.val; rw [Q4.mul_one, rot_val, rot_val, rot_val, Q4.mul_assoc, Q4.mul_assoc]
theorem match_lt (x y : Nm) : matchN x y < 4 := by
  unfold matchN
  split
  · omega
  · split
    · omega
    · split
      · omega
      · split <;> omega
theorem om_back : ∀ n, n < 4 → imQ * omP ((n + 6) % 8) = omP n ∧ omP ((n + 6) % 8) = -(imQ * omP n) := by
  intro n hn
  have e2 : omP 2 = imQ := by show omQ * (omQ * 1) = _; rw [Q4.mul_one, om_im]
  have ii : imQ * imQ = -1 := by apply Q4.ext' <;> simp only [imQ, Q4.ma, Q4.mb, Q4.mc, Q4.md, Q4.na, Q4.nb, Q4.nc, Q4.nd, Q4.oa, Q4.ob, Q4.oc, Q4.od] <;> grind
  have st : ∀ n, omP (n + 2) = imQ * omP n := fun n => by show omQ * (omQ * omP n) = _; rw [← Q4.mul_assoc, om_im]
  have s6 : ∀ n, omP (n + 6) = -(imQ * omP n) := fun n => by
    rw [st (n + 4), st (n + 2), st n, ← Q4.mul_assoc imQ imQ, ii, Q4.neg_mul, Q4.one_mul]
  have s8 : ∀ n, omP (n + 8) = omP n := fun n => by
    rw [st (n + 6), s6, Q4.mul_neg, ← Q4.mul_assoc, ii, Q4.neg_mul, Q4.one_mul, Q4.neg_neg]
  have key : omP ((n + 6) % 8) = -(imQ * omP n) := by
    rcases (by omega : n < 2 ∨ (n + 6) = (n - 2) + 8 ∧ n - 2 < 8) with h | h
    · rw [Nat.mod_eq_of_lt Ox, s6]
    · rw [h.1, Nat.add_mod_right, Nat.mod_eq_of_lt Ox, ← s8, ← h.1, s6]
  refine ⟨?_, key⟩; rw [key, Q4.mul_neg, ← Q4.mul_assoc, ii, Q4.neg_mul, Q4.one_mul, Q4.neg_neg]
theorem nm_valN {z : Nm} {K : Nat} (h : z.k = K) : z = ⟨z.a, z.b, z.c, z.d, K⟩ := by rw [← h]
theorem val_neg4 (a b c d : Int) (k : Int) : (⟨-a, -b, -c, -d, k⟩ : Nm).val = -(⟨a, b, c, d, k⟩ : Nm).val := val_neg ⟨a, b, c, d, k⟩
theorem val_addK (a b c d a' b' c' d' : Int) (K : Nat) : (⟨a + a', b + b', c + c', d + d', K⟩ : Nm).val = (⟨a, b, c, d, K⟩ : Nm).val + (⟨a', b', c', d', K⟩ : Nm).val := by
  rw [valK K _ rfl, valK K _ rfl, valK K _ rfl, ← Q4.dn_add]
  congr 1
  apply Q4.ext' <;> simp only [Nm.co, Q4.aa, Q4.ab, Q4.ac, Q4.ad, Rat.intCast_add]
theorem pair_drop {x y : Nm} {K : Nat} (hK : 0 < K) (hx : x.k = K) (hy : y.k = K) (fx : x.Nf) (fy : y.Nf) (hs : sumE x % 2 = sumE y % 2) :
    (∃ t : Nm, 0 ≤ t.k ∧ t.val = hhQ * (x.val + imQ * (omP ((matchN x y + 6) % 8) * y.val)) ∧ dexp t.nf + 1 ≤ dexp x ∧ t.k ≤ K) ∧
    (∃ t : Nm, 0 ≤ t.k ∧ t.val = hhQ * (imQ * x.val + omP ((matchN x y + 6) % 8) * y.val) ∧ dexp t.nf + 1 ≤ dexp x ∧ t.k ≤ K) := by
  have nx : ¬ x.even := fx.resolve_left Ox
  have ny : ¬ y.even := fy.resolve_left Ox
  have hm := match_ok hs nx ny
  obtain ⟨ob, ob2⟩ := om_back _ (match_lt x y)
  have hv := turnN_val (match_lt x y) y
  have hyk := turnN_k (matchN x y) y
  generalize turnN (matchN x y) y = y' at hm hv hyk
  generalize matchN x y = n at ob ob2 hv
  have hdx : (dexp x : Int) = if sumE x % 2 = 1 then 2 * (K : Int) else 2 * K - 1 := by
    unfold dexp
    rw [if_neg Ox, hx]
    split <;> omega
  have core : ∀ s : Nm, s.k = (K : Int) + 1 → (AllE s ∨ AllO s ∧ sumE x % 2 = 1) → ∃ t : Nm, 0 ≤ t.k ∧ t.val = s.val ∧ dexp t.nf + 1 ≤ dexp x ∧ t.k ≤ K := by
    intro s hsk h
    obtain ⟨d1, d2⟩ := drop_core (s := s) (K := K) Ox hsk
    rcases h with h | ⟨h, h1⟩
    · obtain ⟨t, t0, tk, tv⟩ := d1 h
      have := nf_dexp (z := t) (K := K - 1) t0 Ox
      refine ⟨t, t0, tv, ?_, by omega⟩
      split at hdx <;> omega
    · obtain ⟨t, tk, ts, tv⟩ := d2 h
      have := nf_dexp1 (z := t) (K := K) Ox Ox Ox ts
      refine ⟨t, by omega, tv, ?_, by omega⟩; rw [if_pos h1] at hdx
      omega
  have par : (x.a % 2 = y'.a % 2 ∧ x.b % 2 = y'.b % 2 ∧ x.c % 2 = y'.c % 2 ∧ x.d % 2 = y'.d % 2) ∨
      (x.a % 2 = 1 - y'.a % 2 ∧ x.b % 2 = 1 - y'.b % 2 ∧ x.c % 2 = 1 - y'.c % 2 ∧ x.d % 2 = 1 - y'.d % 2) ∧ sumE x % 2 = 1 := by
    unfold okM at hm
    split at hm
    · exact .inl (of_decide_eq_true hm)
    · rename_i hw
      have h1 := of_decide_eq_true hm
      refine .inr ⟨h1, ?_⟩
      unfold wtE at hw
      have nx' : ¬ ((x.a + x.c) % 2 = 0 ∧ (x.b + x.d) % 2 = 0) := nx
      obtain ⟨c1, c2, c3, c4⟩ := h1
      unfold sumE
      rcases mod2 x.a with a1 | a1 <;> rcases mod2 x.b with a2 | a2 <;> rcases mod2 x.c with a3 | a3 <;> rcases mod2 x.d with a4 | a4 <;> omega
  have ex := nm_valN hx
  have ey := nm_valN (hyk.trans hy)
  constructor
  · obtain ⟨t, t0, tv, td, tk⟩ := core ⟨x.a + y'.a, x.b + y'.b, x.c + y'.c, x.d + y'.d, (K : Int) + 1⟩ rfl (by
      rcases par with ⟨h1, h2, h3, h4⟩ | ⟨⟨h1, h2, h3, h4⟩, h5⟩
      · exact .inl ⟨by show (x.a + y'.a) % 2 = 0; omega, by show (x.b + y'.b) % 2 = 0; omega, by show (x.c + y'.c) % 2 = 0; omega, by show (x.d + y'.d) % 2 = 0; omega⟩
      · exact .inr ⟨⟨by show (x.a + y'.a) % 2 = 1; omega, by show (x.b + y'.b) % 2 = 1; omega, by show (x.c + y'.c) % 2 = 1; omega, by show (x.d + y'.d) % 2 = 1; omega⟩, h5⟩)
    refine ⟨t, t0, tv.trans ?_, td, tk⟩; rw [val_hh, val_addK, ← ex, ← ey, hv, ← Q4.mul_assoc imQ, ob]
  · obtain ⟨t, t0, tv, td, tk⟩ := core ⟨-(x.c - y'.c), -(x.d - y'.d), x.a - y'.a, x.b - y'.b, (K : Int) + 1⟩ rfl (by
      rcases par with ⟨h1, h2, h3, h4⟩ | ⟨⟨h1, h2, h3, h4⟩, h5⟩
      · exact .inl ⟨by show (-(x.c - y'.c)) % 2 = 0; omega, by show (-(x.d - y'.d)) % 2 = 0; omega, by show (x.a - y'.a) % 2 = 0; omega, by show (x.b - y'.b) % 2 = 0; omega⟩
      · exact .inr ⟨⟨by show (-(x.c - y'.c)) % 2 = 1; omega, by show (-(x.d - y'.d)) % 2 = 1; omega, by show (x.a - y'.a) % 2 = 1; omega, by show (x.b - y'.b) % 2 = 1; omega⟩, h5⟩)
    refine ⟨t, t0, tv.trans ?_, td, tk⟩
    have e1 : (⟨-(x.c - y'.c), -(x.d - y'.d), x.a - y'.a, x.b - y'.b, (K : Int)⟩ : Nm) = (⟨x.a + -y'.a, x.b + -y'.b, x.c + -y'.c, x.d + -y'.d, (K : Int)⟩ : Nm).rot.rot := by
      unfold Nm.rot
      simp only [Nm.mk.injEq]
      exact ⟨by omega, by omega, by omega, by omega, trivial⟩
    rw [val_hh, e1, rot_val, rot_val, val_addK, val_neg4, ← ex, ← ey, hv, ob2, ← Q4.mul_assoc omQ, om_im, Q4.mul_add, Q4.mul_neg, Q4.neg_mul, Q4.mul_assoc]
set_option maxHeartbeats 1000000
def sqE (z : Nm) : Int := z.a * z.a + z.b * z.b + z.c * z.c + z.d * z.d
def crE' (z : Nm) : Int := z.a * z.b + z.b * z.c + z.c * z.d - z.d * z.a
theorem sqE_tr (z : Nm) : sqE z.tr = 2 * sqE z := by unfold sqE Nm.tr; simp only; grind
theorem crE_tr (z : Nm) : crE' z.tr = 2 * crE' z := by unfold crE' Nm.tr; simp only; grind
theorem sq2 (a : Int) : a * a % 2 = a % 2 := by
  rcases mod2 a with h | h <;> rw [Int.mul_emod, h] <;> rfl
theorem sqE_mod (z : Nm) : sqE z % 2 = sumE z % 2 := by
  unfold sqE sumE
  have h1 := sq2 z.a; have h2 := sq2 z.b; have h3 := sq2 z.c; have h4 := sq2 z.d
  generalize z.a * z.a = p at *
  generalize z.b * z.b = q at *
  generalize z.c * z.c = r at *
  generalize z.d * z.d = s at *
  omega
theorem crE_eq (z : Nm) : crE' z = (z.a + z.c) * (z.b + z.d) - 2 * (z.d * z.a) := by unfold crE'; grind
theorem crE_mod1 (z : Nm) (h : sumE z % 2 = 1) : crE' z % 2 = 0 := by
  rw [crE_eq]
  have h1 : (z.a + z.c) * (z.b + z.d) % 2 = 0 := by
    unfold sumE at h
    rcases (by omega : (z.a + z.c) % 2 = 0 ∨ (z.b + z.d) % 2 = 0) with e | e
    · rw [Int.mul_emod, e, Int.zero_mul]; rfl
    · rw [Int.mul_emod, e, Int.mul_zero]; rfl
  generalize (z.a + z.c) * (z.b + z.d) = p at *
  generalize z.d * z.a = q at *
  omega
theorem crE_mod2 (z : Nm) (h : sumE z % 2 = 0) (he : ¬ z.even) : crE' z % 2 = 1 := by
  rw [crE_eq]
  have h1 : (z.a + z.c) * (z.b + z.d) % 2 = 1 := by
    have he' : ¬ ((z.a + z.c) % 2 = 0 ∧ (z.b + z.d) % 2 = 0) := he
    unfold sumE at h
    have e1 : (z.a + z.c) % 2 = 1 := by omega
    have e2 : (z.b + z.d) % 2 = 1 := by omega
    rw [Int.mul_emod, e1, e2]; rfl
  generalize (z.a + z.c) * (z.b + z.d) = p at *
  generalize z.d * z.a = q at *
  omega
def pwQ (v : Q4) : Q4 := Q4.conj v * v
def pcQ (p q : Rat) : Q4 := ⟨p, q, 0, -q⟩
theorem pw_val {z : Nm} {K : Nat} (h : z.k = K) : pwQ z.val = Q4.dn (K + K) (pcQ (sqE z : Int) (crE' z : Int)) := by
  unfold pwQ
  rw [valK K z h, ← Q4.dn_conj, ← Q4.dn_mul2]
  congr 1
  apply Q4.ext' <;> simp only [Nm.co, pcQ, sqE, crE', Q4.ma, Q4.mb, Q4.mc, Q4.md, Q4.ca, Q4.cb, Q4.cc, Q4.cd, Rat.intCast_add, Rat.intCast_mul, Rat.intCast_sub] <;> grind
theorem dn_two' : ∀ K : Nat, Q4.dn (K + K) (pcQ (((2 : Int) ^ K : Int) : Rat) ((0 : Int) : Rat)) = 1
  | 0 => by
    show pcQ _ _ = 1
    apply Q4.ext' <;> simp only [pcQ, Q4.oa, Q4.ob, Q4.oc, Q4.od] <;> rfl
  | K + 1 => by
    rw [show K + 1 + (K + 1) = (K + K) + 1 + 1 by omega]
    show Q4.dn (K + K) (Q4.dh (Q4.dh _)) = 1
    rw [← dn_two' K]
    congr 1
    have e : ((2 : Int) ^ (K + 1) : Int) = 2 * 2 ^ K := by rw [Int.pow_succ]; omega
    rw [e]
    apply Q4.ext' <;> simp only [Q4.dh, pcQ, Rat.intCast_mul] <;> grind
def sumI : Nat → (Nat → Int) → Int
  | 0, _ => 0
  | n + 1, f => sumI n f + f n
theorem sumI_even {f : Nat → Int} : ∀ {n : Nat}, (∀ i, i < n → f i % 2 = 0) → sumI n f % 2 = 0
  | 0, _ => rfl
  | n + 1, h => by
    have := sumI_even fun i (hi : i < n) => h i Ox
    have := h n Ox
    simp only [sumI]
    omega
theorem sumI_odd {f : Nat → Int} {a : Nat} (ha : f a % 2 = 1) : ∀ {n : Nat}, a < n → (∀ i, i < n → i ≠ a → f i % 2 = 0) → sumI n f % 2 = 1
  | 0, h, _ => absurd h Ox
  | n + 1, h, h2 => by
    simp only [sumI]
    rcases (by omega : n = a ∨ a < n) with rfl | hn
    · have := sumI_even fun i (hi : i < n) => h2 i Ox Ox
      omega
    · have := sumI_odd ha hn fun i hi => h2 i Ox
      have := h2 n Ox Ox
      omega
theorem sumI_nonneg {f : Nat → Int} : ∀ {n : Nat}, (∀ i, i < n → 0 ≤ f i) → 0 ≤ sumI n f
  | 0, _ => Int.le_refl _
  | n + 1, h => by
    have := sumI_nonneg fun i (hi : i < n) => h i Ox
    have := h n Ox
    simp only [sumI]
    omega
theorem sumI_one {f : Nat → Int} : ∀ {n : Nat}, (∀ i, i < n → 0 ≤ f i) → sumI n f = 1 → ∃ a, a < n ∧ f a = 1 ∧ ∀ i, i < n → i ≠ a → f i = 0
  | 0, _, h => by simp [sumI] at h
  | n + 1, h, h1 => by
    simp only [sumI] at h1
    have h2 := sumI_nonneg fun i (hi : i < n) => h i Ox
    have h3 := h n Ox
    rcases (by omega : f n = 1 ∧ sumI n f = 0 ∨ f n = 0 ∧ sumI n f = 1) with ⟨e1, e2⟩ | ⟨e1, e2⟩
    · refine ⟨n, by omega, e1, fun i hi hne => ?_⟩
      exact sumI_zero (fun i hi => h i Ox) e2 i Ox
    · obtain ⟨a, ha, hf, hz⟩ := sumI_one (fun i hi => h i Ox) e2
      refine ⟨a, by omega, hf, fun i hi hne => ?_⟩
      rcases (by omega : i = n ∨ i < n) with rfl | hi
      · exact e1
      · exact hz i hi hne
where
  sumI_zero {f : Nat → Int} : ∀ {n : Nat}, (∀ i, i < n → 0 ≤ f i) → sumI n f = 0 → ∀ i, i < n → f i = 0
  | 0, _, _, i, hi => absurd hi Ox
  | n + 1, h, h1, i, hi => by
    simp only [sumI] at h1
    have h2 := sumI_nonneg fun i (hi : i < n) => h i Ox
    have h3 := h n Ox
    rcases (by omega : i = n ∨ i < n) with rfl | hi
    · omega
    · exact sumI_zero (fun i hi => h i Ox) Ox i hi
theorem sum_dn (K : Nat) (p q : Nat → Int) : ∀ n, sumQ n (fun i => Q4.dn K (pcQ (p i : Int) (q i : Int))) = Q4.dn K (pcQ (sumI n p : Int) (sumI n q : Int))
  | 0 => by
    have e : pcQ ((0 : Int) : Rat) ((0 : Int) : Rat) = 0 := by apply Q4.ext' <;> simp only [pcQ, Q4.za, Q4.zb, Q4.zc, Q4.zd] <;> rfl
    show (0 : Q4) = Q4.dn K (pcQ ((0 : Int) : Rat) ((0 : Int) : Rat))
    rw [e]; clear e
    induction K with
    | zero => rfl
    | succ K ih =>
      show 0 = Q4.dn K (Q4.dh 0)
      have : Q4.dh 0 = 0 := by apply Q4.ext' <;> simp only [Q4.dh, Q4.za, Q4.zb, Q4.zc, Q4.zd] <;> grind
      rw [this]; exact ih
  | n + 1 => by
    simp only [sumQ, sumI]; rw [sum_dn K p q n, ← Q4.dn_add]
    congr 1
    apply Q4.ext' <;> simp only [pcQ, Q4.aa, Q4.ab, Q4.ac, Q4.ad, Rat.intCast_add] <;> grind
theorem col_sums {n : Nat} {z : Nat → Nm} {K : Nat} (h0 : ∀ i, i < n → 0 ≤ (z i).k ∧ (z i).k ≤ K) (h : sumQ n (fun i => pwQ (z i).val) = 1) :
    sumI n (fun i => sqE ((z i).to K)) = 2 ^ K ∧ sumI n (fun i => crE' ((z i).to K)) = 0 := by
  have e : sumQ n (fun i => pwQ (z i).val) = sumQ n (fun i => Q4.dn (K + K) (pcQ (sqE ((z i).to K) : Int) (crE' ((z i).to K) : Int))) :=
    sumQ_congr fun i hi => by rw [← to_up (m := (K : Int)) (h0 i hi).1, pw_val (Nm.to_k (h0 i hi).2)]
  rw [e, sum_dn, ← dn_two' K] at h
  have h2 := Q4.dn_inj _ h
  have h3 : ((sumI n fun i => sqE ((z i).to K) : Int) : Rat) = ((2 ^ K : Int) : Rat) := congrArg Q4.a h2
  have h4 : ((sumI n fun i => crE' ((z i).to K) : Int) : Rat) = ((0 : Int) : Rat) := congrArg Q4.b h2
  exact ⟨Rat.intCast_inj.1 h3, Rat.intCast_inj.1 h4⟩
theorem to_tr {z : Nm} {K : Nat} (h : z.k < K) : ∃ y : Nm, z.to K = y.tr := by
  unfold Nm.to
  obtain ⟨m, hm⟩ : ∃ m, ((K : Int) - z.k).toNat = m + 1 := ⟨((K : Int) - z.k).toNat - 1, by omega⟩
  rw [hm, Nm.up_succ1]
  exact ⟨_, rfl⟩
theorem to_self {z : Nm} {K : Nat} (h : z.k = K) : z.to K = z := by
  unfold Nm.to
  rw [h, Int.sub_self]; rfl
theorem kind_cases (z : Nm) (K : Int) (h : z.k ≤ K) : (kindN z K = 0 ∧ z.k < K) ∨ (kindN z K = 1 ∧ z.k = K ∧ sumE z % 2 = 1) ∨ (kindN z K = 2 ∧ z.k = K ∧ sumE z % 2 = 0) := by
  unfold kindN
  split
  · exact .inl ⟨rfl, by assumption⟩
  · split
    · exact .inr (.inl ⟨rfl, by omega, by assumption⟩)
    · exact .inr (.inr ⟨rfl, by omega, by omega⟩)
theorem ex_pair {n : Nat} {z : Nat → Nm} {K : Nat} (hK : 0 < K) (h0 : ∀ i, i < n → (z i).Nf ∧ 0 ≤ (z i).k ∧ (z i).k ≤ K) (h : sumQ n (fun i => pwQ (z i).val) = 1) {a : Nat} (ha : a < n) (hka : (z a).k = K) :
    ∃ b, b < n ∧ b ≠ a ∧ kindN (z b) K = kindN (z a) K := by
  obtain ⟨s1, s2⟩ := col_sums (K := K) (fun i hi => (h0 i hi).2) h
  refine Decidable.byContradiction fun hno => ?_
  have hno' : ∀ b, b < n → b ≠ a → kindN (z b) K ≠ kindN (z a) K := fun b hb hne he => hno ⟨b, hb, hne, he⟩
  have h2K : (2 : Int) ^ K % 2 = 0 := by
    obtain ⟨m, rfl⟩ : ∃ m, K = m + 1 := ⟨K - 1, by omega⟩
    rw [Int.pow_succ]; omega
  have hz : ∀ i, i < n → (z i).k < K → sqE ((z i).to K) % 2 = 0 ∧ crE' ((z i).to K) % 2 = 0 := fun i hi hlt => by
    obtain ⟨y, hy⟩ := to_tr hlt
    rw [hy, sqE_tr, crE_tr]
    omega
  rcases kind_cases (z a) K (h0 a ha).2.2 with ⟨_, h1⟩ | ⟨k1, -, o1⟩ | ⟨k2, -, o2⟩
  · omega
  · have := sumI_odd (f := fun i => sqE ((z i).to K)) (a := a) (by show sqE ((z a).to K) % 2 = 1; rw [to_self hka, sqE_mod]; exact o1) ha fun i hi hne => by
      show sqE ((z i).to K) % 2 = 0
      rcases kind_cases (z i) K (h0 i hi).2.2 with ⟨_, h1⟩ | ⟨k1', -, -⟩ | ⟨-, e, o⟩
      · exact (hz i hi h1).1
      · exact absurd (k1'.trans k1.symm) (hno' i hi hne)
      · rw [to_self e, sqE_mod]; exact o
    omega
  · have := sumI_odd (f := fun i => crE' ((z i).to K)) (a := a) (by show crE' ((z a).to K) % 2 = 1; rw [to_self hka]; exact crE_mod2 _ o2 ((h0 a ha).1.resolve_left Ox)) ha fun i hi hne => by
      show crE' ((z i).to K) % 2 = 0
      rcases kind_cases (z i) K (h0 i hi).2.2 with ⟨_, h1⟩ | ⟨-, e, o⟩ | ⟨k2', -, -⟩
      · exact (hz i hi h1).2
      · rw [to_self e]; exact crE_mod1 _ o
      · exact absurd (k2'.trans k2.symm) (hno' i hi hne)
    omega
theorem sq_one {a : Int} (h : a * a ≤ 1) : a = -1 ∨ a = 0 ∨ a = 1 := by
  rcases (by omega : a ≤ -2 ∨ 2 ≤ a ∨ a = -1 ∨ a = 0 ∨ a = 1) with e | e | e
  · have h1 := Int.mul_le_mul_of_nonneg_right (a := 2) (b := -a) (c := -a) Ox Ox
    rw [show -a * -a = a * a from Int.neg_mul_neg a a] at h1
    omega
  · have h1 := Int.mul_le_mul_of_nonneg_right (a := 2) (b := a) (c := a) Ox Ox
    omega
  · exact e
theorem sqs (a : Int) : 0 ≤ a * a := by
  rcases Int.le_total 0 a with h | h
  · exact Int.mul_nonneg h h
  · rw [← Int.neg_mul_neg]; exact Int.mul_nonneg Ox Ox
theorem unit_of {z : Nm} (hk : z.k = 0) (h : sqE z = 1) : z = ⟨1, 0, 0, 0, 0⟩ ∨ z = ⟨0, 1, 0, 0, 0⟩ ∨ z = ⟨0, 0, 1, 0, 0⟩ ∨ z = ⟨0, 0, 0, 1, 0⟩ ∨ z = ⟨-1, 0, 0, 0, 0⟩ ∨ z = ⟨0, -1, 0, 0, 0⟩ ∨ z = ⟨0, 0, -1, 0, 0⟩ ∨ z = ⟨0, 0, 0, -1, 0⟩ := by
  obtain ⟨a, b, c, d, k⟩ := z
  simp only at hk
  subst hk
  have h' : a * a + b * b + c * c + d * d = 1 := h
  have ha := sqs a; have hb := sqs b; have hc := sqs c; have hd := sqs d
  rcases sq_one (a := a) Ox with rfl | rfl | rfl <;> rcases sq_one (a := b) Ox with rfl | rfl | rfl <;>
    rcases sq_one (a := c) Ox with rfl | rfl | rfl <;> rcases sq_one (a := d) Ox with rfl | rfl | rfl <;>
    first | (exfalso; omega) | simp
theorem sq_zero {z : Nm} (hk : z.k = 0) (h : sqE z = 0) : z = Nm.zero := by
  obtain ⟨a, b, c, d, k⟩ := z
  simp only at hk
  subst hk
  have h' : a * a + b * b + c * c + d * d = 0 := h
  have ha := sqs a; have hb := sqs b; have hc := sqs c; have hd := sqs d
  have key : ∀ x : Int, x * x = 0 → x = 0 := fun x hx => by rcases Int.mul_eq_zero.1 hx with h | h <;> exact h
  rw [key a Ox, key b Ox, key c Ox, key d Ox]; rfl
theorem col_unit {n : Nat} {z : Nat → Nm} (h0 : ∀ i, i < n → (z i).k = 0) (h : sumQ n (fun i => pwQ (z i).val) = 1) :
    ∃ a, a < n ∧ sqE (z a) = 1 ∧ ∀ i, i < n → i ≠ a → z i = Nm.zero := by
  obtain ⟨s1, -⟩ := col_sums (K := 0) (fun i hi => by have := h0 i hi; omega) h
  have s1' : sumI n (fun i => sqE ((z i).to (0 : Nat))) = 1 := s1
  obtain ⟨a, ha, h1, h2⟩ := sumI_one (fun i hi => by show 0 ≤ sqE ((z i).to (0 : Nat)); unfold sqE; have := sqs ((z i).to (0 : Nat)).a; have := sqs ((z i).to (0 : Nat)).b; have := sqs ((z i).to (0 : Nat)).c; have := sqs ((z i).to (0 : Nat)).d; omega) s1'
  refine ⟨a, ha, by rw [← h1, to_self (h0 a ha)], fun i hi hne => ?_⟩
  have := h2 i hi hne
  rw [to_self (h0 i hi)] at this
  exact sq_zero (h0 i hi) this
theorem dn_a : ∀ (K : Nat) (x : Q4), (Q4.dn (K + K) x).a * ((2 : Int) ^ K : Int) = x.a
  | 0, x => by show x.a * ((1 : Int) : Rat) = x.a; grind
  | K + 1, x => by
    rw [show K + 1 + (K + 1) = (K + K) + 1 + 1 by omega]
    show (Q4.dn (K + K) (Q4.dh (Q4.dh x))).a * _ = _
    have e : ((2 : Int) ^ (K + 1) : Int) = 2 ^ K * 2 := Int.pow_succ ..
    rw [e, Rat.intCast_mul, ← Rat.mul_assoc, dn_a K]; simp only [Q4.dh]
    grind
theorem sq_big {a B : Int} (hB : 0 ≤ B) (h : a * a ≤ B * B) : -B ≤ a ∧ a ≤ B := by
  have key : ∀ x : Int, B + 1 ≤ x → x * x ≤ B * B → False := fun x hx h => by
    have h1 := Int.mul_le_mul hx hx Ox Ox
    have h2 : (B + 1) * (B + 1) = B * B + 2 * B + 1 := by grind
    omega
  constructor
  · refine Decidable.byContradiction fun hn => key (-a) Ox (by rw [Int.neg_mul_neg]; exact h)
  · exact Decidable.byContradiction fun hn => key a Ox h
theorem fit_pw {z : Nm} (h0 : 0 ≤ z.k) (h1 : z.k ≤ 40) (h : (pwQ z.val).a ≤ 2) : z.Fit 1000000000 := by
  obtain ⟨K, hK⟩ : ∃ K : Nat, z.k = K := ⟨z.k.toNat, by omega⟩
  rw [pw_val hK] at h
  have e := dn_a K (pcQ (sqE z : Int) (crE' z : Int))
  generalize (Q4.dn (K + K) (pcQ (sqE z : Int) (crE' z : Int))).a = r at *
  have e' : r * ((2 : Int) ^ K : Int) = (sqE z : Rat) := e
  have h2 : (0 : Rat) ≤ (((2 : Int) ^ K : Int) : Rat) := by exact_mod_cast (Int.pow_nonneg Ox : (0 : Int) ≤ 2 ^ K)
  have h3 : (sqE z : Rat) ≤ 2 * (((2 : Int) ^ K : Int) : Rat) := by rw [← e']; exact Rat.mul_le_mul_of_nonneg_right h h2
  have h4 : sqE z ≤ 2 * 2 ^ K := by exact_mod_cast h3
  have h5 : (2 : Int) ^ K ≤ 2 ^ 40 := by exact_mod_cast (Nat.pow_le_pow_right Ox Ox : (2 : Nat) ^ K ≤ 2 ^ 40)
  have h6 : (2 : Int) ^ 40 = 1099511627776 := by decide
  have h7 : sqE z ≤ 1000000000 * 1000000000 := by omega
  unfold sqE at h7
  have ha := sqs z.a; have hb := sqs z.b; have hc := sqs z.c; have hd := sqs z.d
  have := sq_big (a := z.a) (B := 1000000000) Ox Ox
  have := sq_big (a := z.b) (B := 1000000000) Ox Ox
  have := sq_big (a := z.c) (B := 1000000000) Ox Ox
  have := sq_big (a := z.d) (B := 1000000000) Ox Ox
  constructor <;> omega
theorem pw_a (v : Q4) : 0 ≤ (pwQ v).a := by
  unfold pwQ; rw [Q4.mul_comm]; exact Q4.norm_nonneg v
theorem sumQ_le {f : Nat → Q4} : ∀ {n : Nat}, (∀ i, i < n → 0 ≤ (f i).a) → ∀ {j : Nat}, j < n → (f j).a ≤ (sumQ n f).a
  | 0, _, _, h => absurd h Ox
  | n + 1, h, j, hj => by
    simp only [sumQ, Q4.aa]
    have h1 := h n Ox
    have h2 := sumQ_a_nonneg fun i (hi : i < n) => h i Ox
    rcases (by omega : j = n ∨ j < n) with rfl | hj
    · grind
    · have := sumQ_le (fun i hi => h i Ox) hj
      grind
theorem un_pw {n : Nat} {m : Tb} (h : UnC n m) {i k : Nat} (hi : i < n) (hk : k < n) : (pwQ (m i k)).a ≤ 1 := by
  have h1 := h k k hk hk
  have e : dl k k = 1 := if_pos rfl
  rw [e] at h1
  have := sumQ_le (n := n) (f := fun j => pwQ (m j k)) (fun j _ => pw_a _) hi
  have h2 : (sumQ n fun j => pwQ (m j k)).a = 1 := by
    have : (sumQ n fun j => pwQ (m j k)) = 1 := h1
    rw [this]; rfl
  rw [h2] at this
  exact this
theorem un_col {n : Nat} {m : Tb} (h : UnC n m) {k : Nat} (hk : k < n) : sumQ n (fun i => pwQ (m i k)) = 1 := by
  have h1 := h k k hk hk
  have e : dl k k = 1 := if_pos rfl
  rw [e] at h1
  exact h1
theorem pw_mul (u v : Q4) : pwQ (u * v) = pwQ u * pwQ v := by
  unfold pwQ
  rw [Q4.conj_mul, mul4c]
theorem pw_conj (u : Q4) : pwQ (Q4.conj u) = pwQ u := by unfold pwQ; rw [Q4.conj_conj, Q4.mul_comm]
theorem pw_neg (u : Q4) : pwQ (-u) = pwQ u := by unfold pwQ; rw [Q4.conj_neg, Q4.neg_mul, Q4.mul_neg, Q4.neg_neg]
theorem two_pw {p s q t : Q4} (h1 : pwQ p + pwQ s = 1) (h2 : pwQ q + pwQ t = 1) (h3 : Q4.conj p * q + Q4.conj s * t = 0) : pwQ p = pwQ t ∧ pwQ q = pwQ s := by
  have e1 : Q4.conj p * q = -(Q4.conj s * t) := by
    have : Q4.conj p * q + Q4.conj s * t + -(Q4.conj s * t) = 0 + -(Q4.conj s * t) := congrArg (fun x => x + -(Q4.conj s * t)) h3
    rw [Q4.add_assoc, Q4.add_neg, Q4.add_zero, Q4.zero_add] at this
    exact this
  have e2 : pwQ p * pwQ q = pwQ s * pwQ t := by
    have := congrArg pwQ e1
    rw [pw_neg, pw_mul, pw_mul, pw_conj, pw_conj] at this
    exact this
  have e3 : pwQ q = 1 + -pwQ t := by rw [← h2, Q4.add_assoc, Q4.add_neg, Q4.add_zero]
  have e4 : pwQ s = 1 + -pwQ p := by rw [← h1, Q4.add_comm (pwQ p), Q4.add_assoc, Q4.add_neg, Q4.add_zero]
  rw [e3, e4, Q4.mul_add, Q4.mul_one, Q4.add_mul, Q4.one_mul, Q4.mul_neg, Q4.neg_mul] at e2
  have e5 : pwQ p = pwQ t := by
    have h5 : pwQ p + -(pwQ p * pwQ t) + pwQ p * pwQ t = pwQ t + -(pwQ p * pwQ t) + pwQ p * pwQ t := congrArg (fun x => x + pwQ p * pwQ t) e2
    rw [Q4.add_assoc, Q4.add_assoc, Q4.add_comm (-(pwQ p * pwQ t)), Q4.add_neg, Q4.add_zero, Q4.add_zero] at h5
    exact h5
  exact ⟨e5, by rw [e3, e4, e5]⟩
theorem pw_kle {x y : Nm} (hx : x.Nf) (hx0 : 0 ≤ x.k) (hy : y.Nf) (hy0 : 0 ≤ y.k) (h : pwQ x.val = pwQ y.val) : x.k ≤ y.k := by
  refine Decidable.byContradiction fun hn => ?_
  obtain ⟨K, hK⟩ : ∃ K : Nat, x.k = K := ⟨x.k.toNat, by omega⟩
  obtain ⟨w, hw⟩ := to_tr (z := y) (K := K) Ox
  have e := pw_val hK
  rw [h, ← to_up (m := (K : Int)) hy0, pw_val (Nm.to_k Ox), hw, sqE_tr, crE_tr] at e
  have e1 := Q4.dn_inj _ e
  have e2 : (2 * sqE w : Int) = sqE x := Rat.intCast_inj.1 (congrArg Q4.a e1 : ((2 * sqE w : Int) : Rat) = ((sqE x : Int) : Rat))
  have e3 : (2 * crE' w : Int) = crE' x := Rat.intCast_inj.1 (congrArg Q4.b e1 : ((2 * crE' w : Int) : Rat) = ((crE' x : Int) : Rat))
  have ne : ¬ x.even := hx.resolve_left Ox
  have m1 := sqE_mod x
  rcases mod2 (sumE x) with h0 | h1
  · have := crE_mod2 x h0 ne
    omega
  · omega
set_option maxHeartbeats 1000000
def turnM : Nat → Nm → Nm
  | 0, z => z
  | n + 1, z => (turnM n z).rot
def mtR : NR → Nm
  | .ok z => z
  | .error _ => Nm.zero
def cX (x y : Nm) : Nm := mtR ((mtR (x.add y.rot.rot)).halve 1)
def cY (x y : Nm) : Nm := mtR ((mtR (x.rot.rot.add y)).halve 1)
theorem mk_val {x z : Nm} (hz : z.Ok) (hx : 0 ≤ x.k) (hv : x.val = z.val) : x.mk' = .ok z := by
  have h := nf_eq hx hz.k0 (eqv_val hx hz.k0 hv)
  have h2 : z.nf = z := nf_self hz.nf
  unfold Nm.mk'
  rw [h, h2, if_pos (small_yes hz.k1 hz.fit)]
theorem ok_mk {z : Nm} (hf : z.Nf) (h0 : 0 ≤ z.k) (h1 : z.k ≤ 40) (h : (pwQ z.val).a ≤ 2) : z.Ok := ⟨fit_pw h0 h1 h, h0, h1, hf.imp Ox id⟩
theorem rot2_val (z : Nm) : z.rot.rot.val = imQ * z.val := by rw [rot_val, rot_val, ← Q4.mul_assoc, om_im]
theorem pw_hh (v : Q4) : (pwQ v).a = 2 * (pwQ (hhQ * v)).a := by
  rw [pw_mul]
  have e1 : pwQ hhQ = ⟨1 / 2, 0, 0, 0⟩ := by
    unfold pwQ
    apply Q4.ext' <;> simp only [hhQ, Q4.ma, Q4.mb, Q4.mc, Q4.md, Q4.ca, Q4.cb, Q4.cc, Q4.cd] <;> grind
  rw [e1, Q4.ma]
  grind
theorem half_ok {s u : Nm} (hs0 : 0 ≤ s.k) (hs : s.k ≤ 40) (hu : u.Ok) (hv : u.val = hhQ * s.val) (hp : (pwQ u.val).a ≤ 1) : mtR ((mtR s.mk').halve 1) = u := by
  have h1 := nf_k hs0
  have v1 : s.nf.val = s.val := val_eqv h1.1 hs0 (nf_eqv s)
  have o1 : s.nf.Ok := ok_mk (nf_form s) h1.1 Ox (by rw [v1, pw_hh, ← hv]; grind)
  have e1 : s.mk' = .ok s.nf := mk_val o1 hs0 v1.symm
  rw [e1]
  show mtR (s.nf.halve 1) = u
  have e2 : s.nf.halve 1 = .ok u := by
    unfold Nm.halve
    obtain ⟨K, hK⟩ : ∃ K : Nat, s.nf.k = K := ⟨s.nf.k.toNat, by omega⟩
    refine mk_val hu (by show 0 ≤ s.nf.k + 1; omega) ?_; rw [hv, ← v1]
    generalize s.nf = q at *
    obtain ⟨a, b, c, d, k⟩ := q
    simp only at hK
    subst hK
    exact val_hh a b c d K
  rw [e2]; rfl
theorem addR_le {x y : Nm} {E : Int} (hx : x.k ≤ E) (hy : y.k ≤ E) : (x.addR y).k ≤ E := by simp only [Nm.addR]; omega
theorem cX_val {x y u : Nm} (hx : x.Ok) (hy : y.Ok) (hu : u.Ok) (hv : u.val = hhQ * (x.val + imQ * y.val)) (hp : (pwQ u.val).a ≤ 1) : cX x y = u := by
  unfold cX Nm.add
  refine half_ok (addR_k hx.k0) (addR_le hx.k1 hy.k1) hu ?_ hp; rw [val_addR (x := x) (y := y.rot.rot) hx.k0 hy.k0, rot2_val]
  exact hv
theorem cY_val {x y u : Nm} (hx : x.Ok) (hy : y.Ok) (hu : u.Ok) (hv : u.val = hhQ * (imQ * x.val + y.val)) (hp : (pwQ u.val).a ≤ 1) : cY x y = u := by
  unfold cY Nm.add
  refine half_ok (addR_k (show 0 ≤ x.k from hx.k0)) (addR_le hx.k1 hy.k1) hu ?_ hp; rw [val_addR (x := x.rot.rot) (y := y) hx.k0 hy.k0, rot2_val]
  exact hv
theorem turnM_k (z : Nm) : ∀ n, (turnM n z).k = z.k
  | 0 => rfl
  | n + 1 => turnM_k z n
theorem turnM_val (z : Nm) : ∀ n, (turnM n z).val = omP n * z.val
  | 0 => by show z.val = 1 * z.val; rw [Q4.one_mul]
  | n + 1 => by show (turnM n z).rot.val = omQ * omP n * z.val; rw [rot_val, turnM_val z n, Q4.mul_assoc]
theorem turnM_ok {z : Nm} (h : z.Ok) : ∀ n, (turnM n z).Ok
  | 0 => h
  | n + 1 => rot_ok (turnM_ok h n)
theorem dexp_rot (z : Nm) : dexp z.rot = dexp z := by
  unfold dexp
  have e : sumE z.rot % 2 = sumE z % 2 := by unfold sumE Nm.rot; simp only; omega
  have e2 : z.rot.k = z.k := rfl
  rw [e, e2]
theorem dexp_turn (z : Nm) : ∀ n, dexp (turnM n z) = dexp z
  | 0 => rfl
  | n + 1 => by show dexp (turnM n z).rot = _; rw [dexp_rot, dexp_turn z n]
abbrev Zt := Nat → Nat → Nm
def vt (z : Zt) : Tb := fun i k => (z i k).val
def phZ (p n : Nat) (z : Zt) : Zt := fun i k => if i = p then turnM n (z i k) else z i k
def crZ (p : Nat) (z : Zt) : Zt := fun i k => z (swq p i) k
def cpZ (p : Nat) (z : Zt) : Zt := fun i k => if i = p then cX (z p k) (z (p + 1) k) else if i = p + 1 then cY (z p k) (z (p + 1) k) else z i k
theorem ph_vt (p n : Nat) (z : Zt) : vt (phZ p n z) = phQ p (omP n) (vt z) := by
  funext i k
  unfold vt phZ phQ
  split
  · exact turnM_val _ _
  · rfl
def sumM : Nat → (Nat → Nat) → Nat
  | 0, _ => 0
  | n + 1, f => sumM n f + f n
theorem sumM_congr {f g : Nat → Nat} : ∀ {n : Nat}, (∀ i, i < n → f i = g i) → sumM n f = sumM n g
  | 0, _ => rfl
  | n + 1, h => by simp only [sumM]; rw [sumM_congr fun i hi => h i Ox, h n Ox]
theorem sumM_two {p d : Nat} {f g : Nat → Nat} (h : ∀ i, i ≠ p → i ≠ p + 1 → f i = g i) (h2 : f p + f (p + 1) + d ≤ g p + g (p + 1)) : ∀ n, p + 1 < n → sumM n f + d ≤ sumM n g
  | 0, hn => absurd hn Ox
  | n + 1, hn => by
    by_cases e : n = p + 1
    · subst e
      simp only [sumM]; rw [sumM_congr fun i hi => h i Ox Ox]
      omega
    · simp only [sumM]
      have := sumM_two h h2 n Ox
      have := h n Ox Ox
      omega
theorem sumM_le {f : Nat → Nat} {M : Nat} : ∀ {n : Nat}, (∀ i, i < n → f i ≤ M) → sumM n f ≤ n * M
  | 0, _ => Nat.zero_le _
  | n + 1, h => by
    simp only [sumM]
    have := sumM_le fun i (hi : i < n) => h i Ox
    have := h n Ox
    rw [Nat.succ_mul]
    omega
structure PI (N col : Nat) (z : Zt) : Prop where
  ok : ∀ i k, i < N → k < N → (z i k).Ok
  un : UnC N (vt z)
  idc : ∀ i c, i < N → c < col → c < N → (z i c).val = dl i c
def Bnd (N col : Nat) (B : Int) (z : Zt) : Prop := (B ≤ 40 ∧ ∀ i k, col ≤ i → i < N → k < N → (z i k).k + dexp (z i col) ≤ B) ∨ N ≤ col + 2
def muZ (N col : Nat) (z : Zt) : Nat := sumM N fun i => dexp (z i col)
theorem dl_ne {i k : Nat} (h : i ≠ k) : dl i k = 0 := if_neg h
theorem dl_self (i : Nat) : dl i i = 1 := if_pos rfl
theorem PI.low {N col : Nat} {z : Zt} (h : PI N col z) {i k : Nat} (hi : i < col) (hiN : i < N) (hk : k < N) : (z i k).val = dl i k := by
  have h1 := h.un i k hiN hk
  have e : sumQ N (fun j => Q4.conj (vt z j i) * vt z j k) = sumQ N (fun j => dl i j * vt z j k) := sumQ_congr fun j hj => by
    show Q4.conj (z j i).val * _ = _
    rw [h.idc j i hj hi hiN, dl_conj, dl_comm]
  rw [e, sumQ_dl _ hiN] at h1
  exact h1
theorem val0 {z : Nm} (h : z.Ok) (hv : z.val = 0) : z = Nm.zero := val_ok h zero_ok (by rw [hv, val_zero])
theorem PI.zero {N col : Nat} {z : Zt} (h : PI N col z) {i k : Nat} (hi : i < N) (hk : k < N) (hc : i < col ∨ k < col) (hne : i ≠ k) : z i k = Nm.zero := by
  refine val0 (h.ok i k hi hk) ?_
  rcases hc with hc | hc
  · rw [h.low hc hi hk, dl_ne hne]
  · rw [h.idc i k hi hc hk, dl_ne hne]
theorem swq_p (p : Nat) : swq p p = p + 1 := if_pos rfl
theorem swq_q (p : Nat) : swq p (p + 1) = p := by unfold swq; rw [if_neg Ox, if_pos rfl]
theorem swq_o {p i : Nat} (h1 : i ≠ p) (h2 : i ≠ p + 1) : swq p i = i := by unfold swq; rw [if_neg h1, if_neg h2]
theorem swq_lt {N p i : Nat} (hp : p + 1 < N) (hi : i < N) : swq p i < N := by unfold swq; split; omega; split <;> omega
theorem swq_ge {col p i : Nat} (hp : col ≤ p) (hi : col ≤ i) : col ≤ swq p i := by unfold swq; split; omega; split <;> omega
theorem PI.cross {N col p : Nat} {z : Zt} {B : Int} (h : PI N col z) (hb : Bnd N col B z) (hp : col ≤ p) (hpN : p + 1 < N) :
    PI N col (crZ p z) ∧ Bnd N col B (crZ p z) ∧ muZ N col (crZ p z) ≤ muZ N col z := by
  refine ⟨⟨fun i k hi hk => h.ok _ k (swq_lt hpN hi) hk, cr_un hpN h.un, fun i c hi hc hcN => ?_⟩, ?_, ?_⟩
  · show (z (swq p i) c).val = _
    rw [h.idc _ c (swq_lt hpN hi) hc hcN]
    by_cases h1 : i = p
    · subst h1; rw [swq_p, dl_ne Ox, dl_ne Ox]
    · by_cases h2 : i = p + 1
      · subst h2; rw [swq_q, dl_ne Ox, dl_ne Ox]
      · rw [swq_o h1 h2]
  · refine hb.imp (fun ⟨b1, b2⟩ => ⟨b1, fun i k hi hiN hk => ?_⟩) id
    exact b2 (swq p i) k (swq_ge hp hi) (swq_lt hpN hiN) hk
  · have := sumM_two (p := p) (d := 0) (f := fun i => dexp (crZ p z i col)) (g := fun i => dexp (z i col)) (fun i h1 h2 => by show dexp (z (swq p i) col) = _; rw [swq_o h1 h2]) (by
      show dexp (z (swq p p) col) + dexp (z (swq p (p + 1)) col) + 0 ≤ _
      rw [swq_p, swq_q]; omega) N hpN
    exact this
theorem PI.phase {N col p n : Nat} {z : Zt} {B : Int} (h : PI N col z) (hb : Bnd N col B z) (hp : col ≤ p) (hpN : p < N) :
    PI N col (phZ p n z) ∧ Bnd N col B (phZ p n z) ∧ muZ N col (phZ p n z) ≤ muZ N col z := by
  have hd : ∀ i, dexp (phZ p n z i col) = dexp (z i col) := fun i => by unfold phZ; split; exact dexp_turn _ _; rfl
  have hk' : ∀ i k, (phZ p n z i k).k = (z i k).k := fun i k => by unfold phZ; split; exact turnM_k _ _; rfl
  refine ⟨⟨fun i k hi hk => ?_, by rw [ph_vt]; exact ph_un (omP_unit n) h.un, fun i c hi hc hcN => ?_⟩, ?_, ?_⟩
  · unfold phZ; split
    · exact turnM_ok (h.ok i k hi hk) n
    · exact h.ok i k hi hk
  · show vt (phZ p n z) i c = _
    rw [ph_vt]
    unfold phQ
    split
    · rename_i e
      subst e
      show _ * (z i c).val = _
      rw [h.idc i c hi hc hcN, dl_ne Ox, Q4.mul_zero]
    · exact h.idc i c hi hc hcN
  · refine hb.imp (fun ⟨b1, b2⟩ => ⟨b1, fun i k hi hiN hk => ?_⟩) id; rw [hd, hk']
    exact b2 i k hi hiN hk
  · unfold muZ
    rw [sumM_congr fun i _ => hd i]
    omega
theorem two_rows {a : Nat} {m : Tb} (h : UnC (a + 2) m) (hl : ∀ i k, i < a → k < a + 2 → m i k = dl i k) : pwQ (m a (a + 1)) = pwQ (m (a + 1) a) ∧ pwQ (m (a + 1) (a + 1)) = pwQ (m a a) := by
  have key : ∀ p q, a ≤ p → p < a + 2 → q < a + 2 → Q4.conj (m a p) * m a q + Q4.conj (m (a + 1) p) * m (a + 1) q = dl p q := fun p q hp hp2 hq => by
    have h1 := h p q hp2 hq
    have e : sumQ a (fun k => Q4.conj (m k p) * m k q) = 0 := by
      rw [sumQ_congr (g := fun _ => 0) fun k hk => by rw [hl k p hk hp2, dl_ne Ox, Q4.conj_zero, Q4.zero_mul], sumQ_zero]
    simp only [sumQ] at h1; rw [e, Q4.zero_add] at h1
    exact h1
  have k1 := key a a Ox Ox Ox
  have k2 := key (a + 1) (a + 1) Ox Ox Ox
  have k3 := key a (a + 1) Ox Ox Ox
  rw [dl_self] at k1 k2; rw [dl_ne Ox] at k3
  obtain ⟨r1, r2⟩ := two_pw (p := m a a) (s := m (a + 1) a) (q := m a (a + 1)) (t := m (a + 1) (a + 1)) k1 k2 k3
  exact ⟨r2, r1.symm⟩
theorem nf_nf {t : Nm} (h0 : 0 ≤ t.k) : t.nf.Nf ∧ 0 ≤ t.nf.k ∧ t.nf.k ≤ t.k ∧ t.nf.val = t.val := by
  have h1 := nf_k h0
  exact ⟨nf_form t, h1.1, h1.2, val_eqv h1.1 h0 (nf_eqv t)⟩
theorem PI.couple {N col a K : Nat} {z : Zt} {B : Int} (h : PI N col z) (hb : Bnd N col B z) (ha : col ≤ a) (haN : a + 1 < N)
    (hK : (z a col).k = K) (hd : dexp (z (a + 1) col) = dexp (z a col))
    (h1 : ∃ t : Nm, 0 ≤ t.k ∧ t.val = hhQ * ((z a col).val + imQ * (z (a + 1) col).val) ∧ dexp t.nf + 1 ≤ dexp (z a col) ∧ t.k ≤ K)
    (h2 : ∃ t : Nm, 0 ≤ t.k ∧ t.val = hhQ * (imQ * (z a col).val + (z (a + 1) col).val) ∧ dexp t.nf + 1 ≤ dexp (z a col) ∧ t.k ≤ K) :
    PI N col (cpZ a z) ∧ Bnd N col B (cpZ a z) ∧ muZ N col (cpZ a z) + 2 ≤ muZ N col z ∧ ∀ i k, i < N → k < N → vt (cpZ a z) i k = cpQ a (vt z) i k := by
  have hcN : col < N := by omega
  have un := cp_un haN h.un
  have hK40 : K ≤ 40 := by have := (h.ok a col Ox hcN).k1; omega
  have ex : ∀ i, i = a ∨ i = a + 1 → ∃ t : Nm, 0 ≤ t.k ∧ t.val = cpQ a (vt z) i col ∧ dexp t.nf + 1 ≤ dexp (z a col) ∧ t.k ≤ K := by
    intro i hi
    rcases hi with rfl | rfl
    · have e : cpQ i (vt z) i col = hhQ * ((z i col).val + imQ * (z (i + 1) col).val) := if_pos rfl
      rw [e]; exact h1
    · have e : cpQ a (vt z) (a + 1) col = hhQ * (imQ * (z a col).val + (z (a + 1) col).val) := by unfold cpQ; rw [if_neg Ox, if_pos rfl]; rfl
      rw [e]; exact h2
  have low : ∀ i k, i < col → k < N → cpQ a (vt z) i k = dl i k := fun i k hi hk => by
    unfold cpQ; rw [if_neg Ox, if_neg Ox]; exact h.low hi Ox hk
  have zro : ∀ i k, i = a ∨ i = a + 1 → k < col → cpQ a (vt z) i k = 0 := fun i k hi hk => by
    have z1 : (z a k).val = 0 := by rw [h.idc a k Ox hk Ox, dl_ne Ox]
    have z2 : (z (a + 1) k).val = 0 := by rw [h.idc (a + 1) k Ox hk Ox, dl_ne Ox]
    unfold cpQ vt
    rw [z1, z2, Q4.mul_zero, Q4.add_zero, Q4.mul_zero]
    rcases hi with rfl | rfl
    · rw [if_pos rfl]
    · rw [if_neg Ox, if_pos rfl]
  -- the new numbers
  have new : ∀ i k, i = a ∨ i = a + 1 → k < N → ∃ u : Nm, u.Ok ∧ u.val = cpQ a (vt z) i k ∧ ∀ E : Int, (z a k).k ≤ E → (z (a + 1) k).k ≤ E → u.k ≤ E + 1 := by
    intro i k hi hk
    have pw := un_pw un (i := i) Ox hk
    have inq : ∀ E : Nat, (z a k).k ≤ E → (z (a + 1) k).k ≤ E → InQ (E + 1) (cpQ a (vt z) i k) := fun E e1 e2 => by
      have i1 := in_le (h.ok a k Ox hk).k0 e1
      have i2 := in_le (h.ok (a + 1) k Ox hk).k0 e2
      rcases hi with rfl | rfl
      · have e : cpQ i (vt z) i k = hhQ * ((z i k).val + imQ * (z (i + 1) k).val) := if_pos rfl
        rw [e]; exact (i1.add i2.im).hh
      · have e : cpQ a (vt z) (a + 1) k = hhQ * (imQ * (z a k).val + (z (a + 1) k).val) := by unfold cpQ; rw [if_neg Ox, if_pos rfl]; rfl
        rw [e]; exact (i1.im.add i2).hh
    obtain ⟨u, uf, u0, -, uv⟩ := nf_in (inq 40 (h.ok a k Ox hk).k1 (h.ok (a + 1) k Ox hk).k1)
    have ule : ∀ E : Int, (z a k).k ≤ E → (z (a + 1) k).k ≤ E → u.k ≤ E + 1 := fun E e1 e2 => by
      have k0 := (h.ok a k Ox hk).k0
      have := le_in uf u0 (by rw [uv]; exact inq E.toNat Ox Ox)
      omega
    refine ⟨u, ok_mk uf u0 ?_ (by rw [uv]; grind), uv, ule⟩
    rcases hb with ⟨b1, b2⟩ | hN
    · have c1 := b2 a k ha Ox hk
      have c2 := b2 (a + 1) k Ox haN hk
      obtain ⟨t, -, -, td, -⟩ := h1
      have := ule (B - dexp (z a col)) Ox Ox
      omega
    · obtain rfl : col = a := by omega
      obtain rfl : N = col + 2 := by omega
      rcases (by omega : k < col ∨ k = col ∨ k = col + 1) with hk1 | rfl | rfl
      · have := nf_val uf u0 (zero_ok.nf) zero_ok.k0 (by rw [uv, zro i k hi hk1, val_zero])
        rw [this]; decide
      · obtain ⟨t, t0, tv, -, tk⟩ := ex i hi
        obtain ⟨nf1, nf2, nf3, nf4⟩ := nf_nf t0
        have := nf_val uf u0 nf1 nf2 (by rw [uv, nf4, tv])
        rw [this]; omega
      · have tw := two_rows un low
        have go : ∀ j, j = col ∨ j = col + 1 → pwQ (cpQ col (vt z) i (col + 1)) = pwQ (cpQ col (vt z) j col) → u.k ≤ 40 := fun j hj he => by
          obtain ⟨t, t0, tv, -, tk⟩ := ex j hj
          obtain ⟨nf1, nf2, nf3, nf4⟩ := nf_nf t0
          have := pw_kle uf u0 nf1 nf2 (by rw [uv, nf4, tv]; exact he)
          omega
        rcases hi with rfl | rfl
        · exact go (i + 1) (.inr rfl) tw.1
        · exact go col (.inl rfl) tw.2
  -- the table
  have val : ∀ i k, i < N → k < N → (cpZ a z i k).Ok ∧ vt (cpZ a z) i k = cpQ a (vt z) i k := by
    intro i k hi hk
    by_cases e1 : i = a
    · subst e1
      obtain ⟨u, uo, uv, -⟩ := new i k (.inl rfl) hk
      have pw := un_pw un (i := i) Ox hk
      have e : cpZ i z i k = u := by
        have e' : cpQ i (vt z) i k = hhQ * ((z i k).val + imQ * (z (i + 1) k).val) := if_pos rfl
        show (if i = i then _ else _) = _
        rw [if_pos rfl]
        exact cX_val (h.ok i k hi hk) (h.ok _ k haN hk) uo (uv.trans e') (by rw [uv]; exact pw)
      refine ⟨by rw [e]; exact uo, ?_⟩
      show (cpZ i z i k).val = _
      rw [e, uv]
    · by_cases e2 : i = a + 1
      · subst e2
        obtain ⟨u, uo, uv, -⟩ := new (a + 1) k (.inr rfl) hk
        have pw := un_pw un (i := a + 1) Ox hk
        have e : cpZ a z (a + 1) k = u := by
          have e' : cpQ a (vt z) (a + 1) k = hhQ * (imQ * (z a k).val + (z (a + 1) k).val) := by unfold cpQ; rw [if_neg Ox, if_pos rfl]; rfl
          unfold cpZ
          rw [if_neg Ox, if_pos rfl]
          exact cY_val (h.ok a k Ox hk) (h.ok _ k haN hk) uo (uv.trans e') (by rw [uv]; exact pw)
        refine ⟨by rw [e]; exact uo, ?_⟩
        show (cpZ a z (a + 1) k).val = _
        rw [e, uv]
      · have e : cpZ a z i k = z i k := by unfold cpZ; rw [if_neg e1, if_neg e2]
        refine ⟨by rw [e]; exact h.ok i k hi hk, ?_⟩
        show (cpZ a z i k).val = cpQ a (vt z) i k
        rw [e]
        unfold cpQ
        rw [if_neg e1, if_neg e2]; rfl
  have dn : ∀ i, i = a ∨ i = a + 1 → dexp (cpZ a z i col) + 1 ≤ dexp (z a col) := fun i hi => by
    obtain ⟨t, t0, tv, td, -⟩ := ex i hi
    obtain ⟨nf1, nf2, nf3, nf4⟩ := nf_nf t0
    have v := val i col Ox hcN
    have := nf_val v.1.nf v.1.k0 nf1 nf2 (by rw [nf4, tv]; exact v.2)
    rw [this]; exact td
  refine ⟨⟨fun i k hi hk => (val i k hi hk).1, ?_, fun i c hi hc hcN => ?_⟩, ?_, ?_, fun i k hi hk => (val i k hi hk).2⟩
  · intro i j hi hj; rw [← un i j hi hj]
    exact sumQ_congr fun k hk => by rw [(val k i hk hi).2, (val k j hk hj).2]
  · show vt (cpZ a z) i c = _
    rw [(val i c hi hcN).2]
    rcases (by omega : (i = a ∨ i = a + 1) ∨ (i ≠ a ∧ i ≠ a + 1)) with e | ⟨e1, e2⟩
    · rw [zro i c e hc, dl_ne Ox]
    · unfold cpQ
      rw [if_neg e1, if_neg e2]
      exact h.idc i c hi hc hcN
  · refine hb.imp (fun ⟨b1, b2⟩ => ⟨b1, fun i k hi hiN hk => ?_⟩) id
    rcases (by omega : (i = a ∨ i = a + 1) ∨ (i ≠ a ∧ i ≠ a + 1)) with e | ⟨e1, e2⟩
    · obtain ⟨u, uo, uv, ule⟩ := new i k e hk
      have v := val i k hiN hk
      have eu : cpZ a z i k = u := val_ok v.1 uo (by rw [uv]; exact v.2)
      have c1 := b2 a k ha Ox hk
      have c2 := b2 (a + 1) k Ox haN hk
      have := ule (B - dexp (z a col)) Ox Ox
      have := dn i e
      rw [eu]
      omega
    · have e : ∀ k, cpZ a z i k = z i k := fun k => by unfold cpZ; rw [if_neg e1, if_neg e2]
      rw [e, e]
      exact b2 i k hi hiN hk
  · refine sumM_two (p := a) (fun i e1 e2 => ?_) ?_ N haN
    · show dexp (cpZ a z i col) = _
      unfold cpZ; rw [if_neg e1, if_neg e2]
    · have := dn a (.inl rfl)
      have := dn (a + 1) (.inr rfl)
      show dexp (cpZ a z a col) + dexp (cpZ a z (a + 1) col) + 2 ≤ dexp (z a col) + dexp (z (a + 1) col)
      omega
set_option maxHeartbeats 1000000
theorem dexp_kind {x y : Nm} {K : Nat} (hK : 0 < K) (hx : x.k ≤ K) (hy : y.k ≤ K) (h : kindN x K = kindN y K) (h0 : kindN x K ≠ 0) : x.k = K ∧ y.k = K ∧ dexp x = dexp y ∧ sumE x % 2 = sumE y % 2 := by
  rcases kind_cases x K hx with ⟨e, -⟩ | ⟨e, e1, e2⟩ | ⟨e, e1, e2⟩
  · exact absurd e h0
  · rcases kind_cases y K hy with ⟨f, -⟩ | ⟨f, f1, f2⟩ | ⟨f, f1, f2⟩
    · omega
    · refine ⟨e1, f1, ?_, by omega⟩
      unfold dexp; rw [e1, f1, e2, f2]
    · omega
  · rcases kind_cases y K hy with ⟨f, -⟩ | ⟨f, f1, f2⟩ | ⟨f, f1, f2⟩
    · omega
    · omega
    · refine ⟨e1, f1, ?_, by omega⟩
      unfold dexp; rw [e1, f1, if_neg Ox, if_neg Ox, if_neg Ox, if_neg Ox]
def IsExp (N col : Nat) (z : Zt) (K : Int) : Prop := 0 ≤ K ∧ (∀ i, col ≤ i → i < N → (z i col).k ≤ K) ∧ (0 < K → ∃ i, col ≤ i ∧ i < N ∧ (z i col).k = K)
theorem PI.nf {N col : Nat} {z : Zt} (h : PI N col z) {i k : Nat} (hi : i < N) (hk : k < N) : (z i k).Nf := (h.ok i k hi hk).nf
theorem PI.klow {N col : Nat} {z : Zt} (h : PI N col z) {i : Nat} (hi : i < col) (hc : col < N) : z i col = Nm.zero := h.zero Ox hc (.inl hi) Ox
theorem PI.pair {N col K : Nat} {z : Zt} (h : PI N col z) (hc : col < N) (hK : 0 < K) (hE : IsExp N col z K) {a : Nat} (ha : col ≤ a) (haN : a < N) (hk : kindN (z a col) K ≠ 0) :
    ∃ b, col ≤ b ∧ b < N ∧ b ≠ a ∧ kindN (z b col) K = kindN (z a col) K := by
  have hle : ∀ i, i < N → (z i col).k ≤ K := fun i hi => by
    rcases Nat.lt_or_ge i col with hlt | hge
    · rw [h.klow hlt hc]; show (0 : Int) ≤ K; omega
    · exact hE.2.1 i hge hi
  have hka : (z a col).k = K := by
    rcases kind_cases (z a col) K (hle a haN) with ⟨e, -⟩ | ⟨-, e, -⟩ | ⟨-, e, -⟩
    · exact absurd e hk
    · exact e
    · exact e
  obtain ⟨b, hb, hne, he⟩ := ex_pair (z := fun i => z i col) hK (fun i hi => ⟨h.nf hi hc, (h.ok i col hi hc).k0, hle i hi⟩) (un_col h.un hc) haN hka
  refine ⟨b, ?_, hb, hne, he⟩
  refine Decidable.byContradiction fun hlt => ?_
  have e0 := h.klow (i := b) Ox hc
  rw [e0] at he
  have : kindN Nm.zero K = 0 := if_pos (by show (0 : Int) < K; omega)
  omega
theorem PI.step {N col a K : Nat} {z : Zt} {B : Int} (h : PI N col z) (hb : Bnd N col B z) (ha : col ≤ a) (haN : a + 1 < N) (hK : 0 < K)
    (k1 : (z a col).k ≤ K) (k2 : (z (a + 1) col).k ≤ K) (hk : kindN (z a col) K = kindN (z (a + 1) col) K) (h0 : kindN (z a col) K ≠ 0) :
    PI N col (cpZ a (phZ (a + 1) ((matchN (z a col) (z (a + 1) col) + 6) % 8) z)) ∧ Bnd N col B (cpZ a (phZ (a + 1) ((matchN (z a col) (z (a + 1) col) + 6) % 8) z)) ∧
    muZ N col (cpZ a (phZ (a + 1) ((matchN (z a col) (z (a + 1) col) + 6) % 8) z)) + 2 ≤ muZ N col z ∧
    ∀ i k, i < N → k < N → vt (cpZ a (phZ (a + 1) ((matchN (z a col) (z (a + 1) col) + 6) % 8) z)) i k = cpQ a (phQ (a + 1) (omP ((matchN (z a col) (z (a + 1) col) + 6) % 8)) (vt z)) i k := by
  have hc : col < N := by omega
  obtain ⟨e1, e2, e3, e4⟩ := dexp_kind hK k1 k2 hk h0
  obtain ⟨d1, d2⟩ := pair_drop hK e1 e2 (h.nf Ox hc) (h.nf haN hc) e4
  generalize (matchN (z a col) (z (a + 1) col) + 6) % 8 = n at *
  obtain ⟨p1, p2, p3⟩ := h.phase (n := n) hb (show col ≤ a + 1 by omega) haN
  have za : phZ (a + 1) n z a col = z a col := if_neg Ox
  have zb : phZ (a + 1) n z (a + 1) col = turnM n (z (a + 1) col) := if_pos rfl
  obtain ⟨q1, q2, q3, q4⟩ := p1.couple p2 ha haN (K := K) (by rw [za]; exact e1) (by rw [za, zb, dexp_turn]; exact e3.symm)
    (by rw [za, zb, turnM_val]; exact d1) (by rw [za, zb, turnM_val]; exact d2)
  refine ⟨q1, q2, by omega, fun i k hi hk => ?_⟩; rw [q4 i k hi hk, ph_vt]
theorem PI.unit {N col : Nat} {z : Zt} (h : PI N col z) (hc : col < N) (h0 : ∀ i, col ≤ i → i < N → (z i col).k ≤ 0) :
    ∃ a, col ≤ a ∧ a < N ∧ (∃ n, n < 8 ∧ turnM n (z a col) = Nm.one) ∧ z a col ≠ Nm.zero ∧ ∀ i, i < N → i ≠ a → z i col = Nm.zero := by
  have h0' : ∀ i, i < N → (z i col).k = 0 := fun i hi => by
    rcases Nat.lt_or_ge i col with hlt | hge
    · rw [h.klow hlt hc]; rfl
    · have := h0 i hge hi
      have := (h.ok i col hi hc).k0
      omega
  obtain ⟨a, ha, h1, h2⟩ := col_unit (z := fun i => z i col) h0' (un_col h.un hc)
  have hne : z a col ≠ Nm.zero := fun e => by rw [e] at h1; cases (show (0 : Int) = 1 from h1)
  refine ⟨a, ?_, ha, ?_, hne, h2⟩
  · refine Decidable.byContradiction fun hlt => hne (h.klow Ox hc)
  · rcases unit_of (h0' a ha) h1 with e | e | e | e | e | e | e | e <;> rw [e]
    · exact ⟨0, by omega, rfl⟩
    · exact ⟨7, by omega, rfl⟩
    · exact ⟨6, by omega, rfl⟩
    · exact ⟨5, by omega, rfl⟩
    · exact ⟨4, by omega, rfl⟩
    · exact ⟨3, by omega, rfl⟩
    · exact ⟨2, by omega, rfl⟩
    · exact ⟨1, by omega, rfl⟩
theorem PI.next {N col : Nat} {z : Zt} (h : PI N col z) (hc : col < N) (h1 : z col col = Nm.one) (h2 : ∀ i, i < N → i ≠ col → z i col = Nm.zero) : PI N (col + 1) z :=
  ⟨h.ok, h.un, fun i c hi hcc hcN => by
    rcases (by omega : c < col ∨ c = col) with hlt | rfl
    · exact h.idc i c hi hlt hcN
    · by_cases e : i = c
      · subst e; rw [h1, dl_self, val_one]
      · rw [h2 i hi e, dl_ne e, val_zero]⟩
def Cb (N col : Nat) (z : Zt) : Prop := N ≤ col + 2 ∨ ∃ E : Int, (N = col + 3 ∧ E ≤ 13 ∨ N = col + 4 ∧ E ≤ 4) ∧ ∀ i k, col ≤ i → i < N → k < N → (z i k).k ≤ E
theorem Cb.bnd {N col : Nat} {z : Zt} (h : Cb N col z) (hz : PI N col z) : ∃ B, Bnd N col B z ∧ (N = col + 4 → B ≤ 13) := by
  rcases h with h | ⟨E, hE, hk⟩
  · exact ⟨0, .inr h, by omega⟩
  · refine ⟨3 * E, .inl ⟨by omega, fun i k hi hiN hkN => ?_⟩, by omega⟩
    have h1 := hk i k hi hiN hkN
    have h2 := hk i col hi hiN Ox
    have h0 := (hz.ok i col hiN Ox).k0
    have := dexp_le (z i col) h2 Ox
    omega
theorem Bnd.next {N col : Nat} {z : Zt} {B : Int} (h : Bnd N col B z) (h4 : N = col + 4 → B ≤ 13) (hN : N ≤ col + 4) : Cb N (col + 1) z := by
  rcases h with ⟨b1, b2⟩ | h
  · rcases (by omega : N ≤ col + 3 ∨ N = col + 4) with e | e
    · exact .inl Ox
    · refine .inr ⟨B, .inl ⟨by omega, h4 e⟩, fun i k hi hiN hk => ?_⟩
      have := b2 i k Ox hiN hk
      omega
  · exact .inl Ox
theorem muZ_le {N col : Nat} {z : Zt} (h : PI N col z) (hc : col < N) : muZ N col z ≤ N * 80 := by
  refine sumM_le fun i hi => ?_
  have := dexp_le (z i col) (h.ok i col hi hc).k1 Ox
  omega
end Go.Proofs.YtccbinnlnkpplaaGreat
namespace Go.Proofs.YtccbinnlnkpplaaGreat
set_option linter.all false
set_option maxRecDepth 100000
set_option maxHeartbeats 1000000
open Go.RowKit
structure RW where
  b : Nat
  c : Nat
  l : List Nm
  r : List Value
def RW.blk (x : RW) : Blk := (x.b, .cells (NmE.flat x.l ++ x.r).toArray 55)
def RW.val (N : Nat) (x : RW) : Value := .slice (some ⟨x.b, 0, none⟩) N x.c
abbrev rwV (N : Nat) (rs : List RW) : List Value := rs.map (RW.val N)
abbrev rwB (rs : List RW) : List Blk := rs.map RW.blk
structure WS (N gw : Nat) (z : Zt) (L : List It) (s : List Blk) : Prop where
  ex : ∃ (go oc : Nat) (ro : List Value) (rs : List RW) (ia : Option Addr) (ic : Nat) (u : List Blk),
    s = (gw, .cells #[.slice (some ⟨go, 0, none⟩) N oc, .slice ia L.length ic] 49) :: (go, .cells (rwV N rs ++ ro).toArray 22) :: (rwB rs ++ (u ++ [])) ∧
    rs.length = N ∧ N ≤ oc ∧ (∀ x ∈ rs, x.l.length = N) ∧ (∀ i x, rs[i]? = some x → ∀ k, k < N → nm x.l k = z i k) ∧ OwnT u (.slice ia L.length ic) L ∧ (∀ i k, i < N → k < N → (z i k).Ok)
theorem WS.open_ {N gw : Nat} {z : Zt} {L : List It} {s : List Blk} (h : WS N gw z L s) : ∃ (go oc : Nat) (ro : List Value) (rs : List RW) (ia : Option Addr) (ic : Nat) (u : List Blk),
    s ++ [] = (gw, .cells #[.slice (some ⟨go, 0, none⟩) N oc, .slice ia L.length ic] 49) :: (go, .cells (rwV N rs ++ ro).toArray 22) :: (rwB rs ++ (u ++ [])) ∧
    rs.length = N ∧ N ≤ oc ∧ (∀ x ∈ rs, x.l.length = N) ∧ (∀ i x, rs[i]? = some x → ∀ k, k < N → nm x.l k = z i k) ∧ OwnT u (.slice ia L.length ic) L ∧ (∀ i k, i < N → k < N → (z i k).Ok) := by
  obtain ⟨go, oc, ro, rs, ia, ic, u, e, h⟩ := h
  exact ⟨go, oc, ro, rs, ia, ic, u, (List.append_nil s).trans e, h⟩
theorem Kn.to {B w : World} {F : List Nat} {s s' : List Blk} (e : s = s') (h : Kn B F s w) : Kn B F s' w := e ▸ h
theorem Kn.nil' {B w : World} {F : List Nat} {s : List Blk} (h : Kn B F s w) : Kn B F (s ++ []) w := h.to (List.append_nil s).symm
theorem Kn.of_nil {B w : World} {F : List Nat} {s : List Blk} (h : Kn B F (s ++ []) w) : Kn B F s w := h.to (List.append_nil s)
theorem Kn.same {w w' : World} {s : List Blk} (h : Kn w (s.map (·.1)) s w) (h' : Kn w (s.map (·.1)) s w') : Below w.heap.size w w' :=
  ⟨h'.os, h'.tape, h'.output, h'.size, fun k hk => by
    by_cases hF : k ∈ s.map (·.1)
    · obtain ⟨b, hb, rfl⟩ := List.mem_map.1 hF
      exact (h'.own b hb).trans (h.own b hb).symm
    · exact h'.old k hk hF⟩
theorem wk_perm {R : Option Nat} {P : Program} {Q : Exit → Act → World → Prop} {B : World} {F : List Nat} {a : Act} {s s' : List Blk} {c : Code} (hp : s.Perm s') (h : Wk R P B F Q a s' c) : Wk R P B F Q a s c := fun w K => h w (K.perm hp)
theorem rw_one {A C : List RW} {b c : Nat} {l : List Nm} {r : List Value} : rwB (A ++ ⟨b, c, l, r⟩ :: C) = rwB A ++ (b, .cells (NmE.flat l ++ r).toArray 55) :: rwB C := by
  unfold rwB; rw [List.map_append, List.map_cons]; rfl
theorem rw_two {A C : List RW} {b c b' c' : Nat} {l l' : List Nm} {r r' : List Value} : rwB (A ++ ⟨b, c, l, r⟩ :: ⟨b', c', l', r'⟩ :: C) = rwB A ++ (b, .cells (NmE.flat l ++ r).toArray 55) :: (b', .cells (NmE.flat l' ++ r').toArray 55) :: rwB C := by
  unfold rwB; rw [List.map_append, List.map_cons, List.map_cons]; rfl
theorem split1 {rs : List RW} {p : Nat} (h : p < rs.length) : ∃ A b c l r C, rs = A ++ ⟨b, c, l, r⟩ :: C ∧ A.length = p := by
  refine ⟨rs.take p, rs[p].b, rs[p].c, rs[p].l, rs[p].r, rs.drop (p + 1), ?_, by rw [List.length_take]; omega⟩
  show rs = rs.take p ++ rs[p] :: rs.drop (p + 1)
  rw [← List.drop_eq_getElem_cons h, List.take_append_drop]
theorem split2 {rs : List RW} {p : Nat} (h : p + 1 < rs.length) : ∃ A b c l r b' c' l' r' C, rs = A ++ ⟨b, c, l, r⟩ :: ⟨b', c', l', r'⟩ :: C ∧ A.length = p := by
  refine ⟨rs.take p, rs[p].b, rs[p].c, rs[p].l, rs[p].r, rs[p + 1].b, rs[p + 1].c, rs[p + 1].l, rs[p + 1].r, rs.drop (p + 2), ?_, by rw [List.length_take]; omega⟩
  show rs = rs.take p ++ rs[p] :: rs[p + 1] :: rs.drop (p + 2)
  rw [← List.drop_eq_getElem_cons (show p + 1 < rs.length by omega), ← List.drop_eq_getElem_cons (show p < rs.length by omega), List.take_append_drop]
theorem rwV_get {N i : Nat} {rs : List RW} {ro : List Value} {x : RW} (h : rs[i]? = some x) : (rwV N rs ++ ro).toArray[i]? = some (x.val N) := by
  have hl : i < rs.length := by
    rcases Nat.lt_or_ge i rs.length with h' | h'
    · exact h'
    · rw [List.getElem?_eq_none h'] at h; cases h
  rw [List.getElem?_toArray, List.getElem?_append_left (by rw [List.length_map]; exact hl), List.getElem?_map, h]; rfl
section
variable {B w w' : World} {F : List Nat} {s : List Blk} {N : Nat}
theorem Kn.outer {go T i : Nat} {rs : List RW} {ro : List Value} {x : RW} (K : Kn B F ((go, .cells (rwV N rs ++ ro).toArray T) :: s) w) (h : rs[i]? = some x) : w.cell? ⟨go, i, none⟩ = some (x.val N) :=
  ((Kn.hd0 K).cell i).trans (rwV_get h)
theorem nm_hd {b : Nat} {l : List Nm} {r : List Value} {k : Nat} (h : Hd w b 55 (NmE.flat l ++ r).toArray) (hk : k < l.length) : NmAt w b (0 + k * 5) (nm l k) := by
  have hc := fun j => h.cell (0 + k * 5 + j)
  have hg := fun j (hj : j < 5) => NmE.get l k j hk hj
  have hl := NmE.flat_len l
  have hlt : ∀ j, j < 5 → 0 + k * 5 + j < (NmE.flat l).length := fun j hj => by rw [hl]; show 0 + k * 5 + j < l.length * 5; omega
  have go : ∀ j v, j < 5 → (nmC (nm l k))[j]? = some v → w.cell? ⟨b, 0 + k * 5 + j, none⟩ = some v := fun j v hj hv => by
    rw [hc j, List.getElem?_toArray, List.getElem?_append_left (hlt j hj), ← hv, ← hg j hj, Nat.zero_add]
  exact ⟨go 0 _ Ox rfl, go 1 _ Ox rfl, go 2 _ Ox rfl, go 3 _ Ox rfl, go 4 _ Ox rfl⟩
theorem Kn.row {rs : List RW} {i k : Nat} {x : RW} (K : Kn B F (rwB rs ++ s) w) (h : rs[i]? = some x) (hk : k < x.l.length) : NmAt w x.b (0 + k * 5) (nm x.l k) := by
  have hm : x.blk ∈ rwB rs ++ s := List.mem_append_left _ (List.mem_map.2 ⟨x, List.mem_of_getElem? h, rfl⟩)
  exact nm_hd (K.own _ hm) hk
end
section
variable {R : Option Nat} {ops : Array Oper} {Q : Exit → Act → World → Prop} {B : World} {F : List Nat} {s0 : Option (List Blk × List Blk)}
variable {l : List (Oper × Nat)} {a : Act} {s S : List Blk} {d : Option Tmp} {op : Op} {t : TypeId} {p : String} {af : Array Edge} {v : Value}
theorem rg_eff {P : Program} {T : List Blk → Prop} {f : Nat} {cargs : Array Operand} {at_ : Array TypeId} {args : Array Value} {gd : Option (Nat × Bool)} {vb rest : List Blk}
    (hg : Region.wanted ⟨d, .call ⟨.value (.func f), cargs, at_⟩, t, p, af, gd⟩ (yielded ops a.tmps) = true) (hgo : isGo P f = true) (hargs : cargs.map a.eval = args) (hp : S.Perm (vb ++ rest))
    (h : ∀ w, Kn w (vb.map (·.1)) vb w → Calls P f args w fun e w' => e = .returned v ∧ ∃ vb', Kn w (vb.map (·.1)) vb' w' ∧ T vb')
    (k : ∀ vb', T vb' → Rg R P ops Q B F none l (a.put d v) (vb' ++ rest)) :
    Rg R P ops Q B F none ((⟨d, .call ⟨.value (.func f), cargs, at_⟩, t, p, af, gd⟩, 1) :: l) a S :=
  rg_call hg hgo hargs fun w K => by
    have K1 := K.perm hp
    exact (h w K1.self).mono fun e w' ⟨he, vb', hK, hT⟩ => ⟨_, vb' ++ rest, he, K1.effApp hK, Nz, k vb' hT⟩
theorem rg_effM {P : Program} {T : List Blk → Prop} {f : Nat} {cargs : Array Operand} {at_ : Array TypeId} {args : Array Value} {gd : Option (Nat × Bool)} {vb rest : List Blk} {z : List Blk × List Blk}
    (hg : Region.wanted ⟨d, .call ⟨.value (.func f), cargs, at_⟩, t, p, af, gd⟩ (yielded ops a.tmps) = true) (hgo : isGo P f = true) (hargs : cargs.map a.eval = args) (hp : S.Perm (vb ++ rest)) (hz : z.2.Sublist rest)
    (h : ∀ w, Kn w (vb.map (·.1)) vb w → Calls P f args w fun e w' => e = .returned v ∧ ∃ vb', Kn w (vb.map (·.1)) vb' w' ∧ T vb')
    (k : ∀ vb', T vb' → Rg R P ops Q B F (some (z.2, z.2)) l (a.put d v) (vb' ++ rest)) :
    Rg R P ops Q B F (some z) ((⟨d, .call ⟨.value (.func f), cargs, at_⟩, t, p, af, gd⟩, 2) :: l) a S := by
  refine ⟨z, rfl, fun w K => ?_⟩
  unfold hop
  rw [if_pos hg]
  unfold Oper.wp
  have hr : (execOp a.eval ⟨d, .call ⟨.value (.func f), cargs, at_⟩, t, p, af, gd⟩).run P w = .ok (.enter f args) w := by
    have he : #[] ++ cargs.map a.eval ++ #[] = args := by simpa using hargs
    rw [execOp_call_go, he]
    exact run_callFunc_go hgo args w
  rw [hr]
  have K1 := K.perm hp
  refine (h w K1.self).mono fun e w' ⟨he, vb', hK, hT⟩ => ?_
  subst he
  exact ⟨vb' ++ rest, K1.effApp hK, hz.trans (List.sublist_append_right _ _), k vb' hT⟩
end
abbrev zs (xs : List Int) : List Value := xs.map (.int .i64 ·)
def OwnZ (u : List Blk) (v : Value) (xs : List Int) : Prop := Own 3 1 u v xs.length (zs xs)
theorem OwnZ.one {g : Nat} (x : Int) : OwnZ [(g, .cells #[.int .i64 x] 3)] (.slice (some ⟨g, 0, none⟩) 1 1) [x] :=
  Own.whole (cur := #[.int .i64 x]) rfl (by simp only [maxLen]; omega)
theorem Own.open1 {e n : Nat} {u : List Blk} {v : Value} {xs : List Value} (h : Own e 1 u v n xs) (hn : 0 < n) : ∃ g cap rest, u = [(g, .cells (xs ++ rest).toArray e)] ∧ v = .slice (some ⟨g, 0, none⟩) n cap ∧ xs.length = n := by
  obtain ⟨hl, ⟨rfl, rfl, h0⟩ | ⟨g, cap, cur, rfl, rfl, hc, hm, hs, ht⟩⟩ := h
  · omega
  · refine ⟨g, cap, cur.toList.drop (n * 1), ?_, rfl, by omega⟩; rw [← ht, List.take_append_drop]
section
variable {R : Option Nat} {ops : Array Oper} {Q : Exit → Act → World → Prop} {B : World} {F : List Nat} {s0 : Option (List Blk × List Blk)} {P : Program}
variable {l : List (Oper × Nat)} {a : Act} {s : List Blk} {d : Option Tmp} {t : TypeId} {p : String} {af : Array Edge} {gd : Option (Nat × Bool)} {m : Nat}
theorem rf_slice3 {T : Nat} {x yl y y2 : Operand} {b off n lo hi len cap e sz : Nat} {k k' k2 : IntKind} {zl z z2 : Int} (hm : soft03 m = true) (hg : Region.wanted ⟨d, .slice T x (some yl) (some y) (some y2), t, p, af, gd⟩ (yielded ops a.tmps) = true)
    (hx : a.eval x = .slice (some ⟨b, off, none⟩) len cap) (hl : a.eval yl = .int k' zl) (hy : a.eval y = .int k z) (hy2 : a.eval y2 = .int k2 z2) (hu : P.underlying T = some (.slice e)) (hs : (P.info? e).map (·.size) = some sz) (hzl : zl = (lo : Int)) (hz : z = (hi : Int)) (hz2 : z2 = (hi : Int)) (hh : lo + n = hi) (hn : hi ≤ cap) (hlo : 0 < n)
    (h : Rg R P ops Q B F s0 l (a.put d (.slice (some ⟨b, off + lo * sz, none⟩) n n)) s) : Rg R P ops Q B F s0 ((⟨d, .slice T x (some yl) (some y) (some y2), t, p, af, gd⟩, m) :: l) a s := by
  subst hzl hz hz2
  refine rg_any hm hg (fun w => ?_) h
  unfold Yld
  cases hq : P.info? e with
  | none => simp [hq] at hs
  | some q =>
    have hs' : q.size = sz := by simpa [hq] using hs
    have hb := fun w => run_sliceBound (P := P) w k2 (hi : Int) cap .slice3Acap Ox Ox
    have hb1 := fun w => run_sliceBound (P := P) w k (hi : Int) hi .slice3B Ox Ox
    have hb2 := fun w => run_sliceBound (P := P) w k' (lo : Int) hi .slice3C Ox Ox
    have e1 : (hi : Int).toNat = hi := Int.toNat_natCast _
    have e2 : (lo : Int).toNat = lo := Int.toNat_natCast _
    rw [e1] at hb hb1; rw [e2] at hb2
    have h3 : ¬ hi = lo := by omega
    have h4 : hi - lo = n := by omega
    have h5 : ¬ n = 0 := by omega
    simp [execOp, hx, hl, hy, hy2, Instr.sliceAt, Instr.slice, Instr.sliceBounds, run_underlying hu, sizeOf, typeInfo, hq, hs', hb, hb1, hb2, Addr.add_mid, h3, h4, h5]
end
theorem sKInfo : (Tryz.prog.info? 22).map (fun i => (i.zero, i.size, i.bytes)) = some (some (.slice none 0 0), 1, 24) := by kernel_rfl
section
variable {R : Option Nat} {ops : Array Oper} {Q : Exit → Act → World → Prop} {B : World} {F : List Nat} {s0 : Option (List Blk × List Blk)}
variable {l : List (Oper × Nat)} {a : Act} {s S : List Blk} {d : Option Tmp} {op : Op} {t : TypeId} {p : String} {af : Array Edge} {v : Value}
theorem rg_appRow {so xo : Operand} {u : List Blk} {hs : List Value} {n g : Nat} {h : Value} {gd : Option (Nat × Bool)} (hg : Region.wanted ⟨d, .call ⟨.builtin .append, #[so, xo], #[47, 47]⟩, t, p, af, gd⟩ (yielded ops a.tmps) = true)
    (hs0 : a.eval so = v) (hown : Own 22 1 u v n hs) (hx : a.eval xo = .slice (some ⟨g, 0, none⟩) 1 1) (hn : n ≤ 1000000) (h1 : h.oneCell' = true) (hp : S.Perm (u ++ s))
    (hnews : ∀ w, Kn B F S w → Hd w g 22 #[h]) (hzz : ∀ z ∈ s0, z.1.Sublist s)
    (k : ∀ u' a' c', Own 22 1 u' (.slice a' (n + 1) c') (n + 1) (hs ++ [h]) → Rg R Tryz.prog ops Q B F s0 l (a.put d (.slice a' (n + 1) c')) (u' ++ s)) :
    Rg R Tryz.prog ops Q B F s0 ((⟨d, .call ⟨.builtin .append, #[so, xo], #[47, 47]⟩, t, p, af, gd⟩, 1) :: l) a S := by
  obtain ⟨i, hi, hz, hsz, hb⟩ := info_partsN sKInfo
  refine rg_append (u := u) (s := s) (i := i) (z := .slice none 0 0) (size := 1) (bytes := 24) (n := n) (m := 1) (c := 1) (xs := hs) (news := [h]) (ad := ⟨g, 0, none⟩) hg
    Tryz.underlying47 hi hz hsz hb rfl (by decide) hs0 hown hx Rx ?_ (by simpa using h1) (by simp only [maxLen]; omega) Ox hp hzz ?_
  · intro w K j y hj
    have hd := (hnews w K).cell
    match j, hj with
    | 0, hj => simp only [List.getElem?_cons_zero, Option.some.injEq] at hj; subst hj; exact hd 0
    | j + 1, hj => simp at hj
  · intro u' v' hO _
    obtain ⟨a', c', rfl, -⟩ := Own.val hO
    exact k u' a' c' hO
theorem rg_appNums {so xo : Operand} {u : List Blk} {xs ys : List Nm} {m c r : Nat} {ad : Addr} {gd : Option (Nat × Bool)} (hg : Region.wanted ⟨d, .call ⟨.builtin .append, #[so, xo], #[22, 22]⟩, t, p, af, gd⟩ (yielded ops a.tmps) = true)
    (hs : a.eval so = v) (hown : OwnN u v xs) (hx : a.eval xo = .slice (some ad) m c) (hm : ys.length = m) (hr : xs.length + ys.length = r) (hb : r ≤ 10000000) (hp : S.Perm (u ++ s))
    (hA : ∀ w, Kn B F S w → AS w (some ad) (nms ys))
    (hzz : ∀ z ∈ s0, z.1.Sublist s) (h : ∀ u' a' c', OwnN u' (.slice a' r c') (xs ++ ys) → Rg R Tryz.prog ops Q B F s0 l (a.put d (.slice a' r c')) (u' ++ s)) :
    Rg R Tryz.prog ops Q B F s0 ((⟨d, .call ⟨.builtin .append, #[so, xo], #[22, 22]⟩, t, p, af, gd⟩, 1) :: l) a S := by
  obtain ⟨i, hi, hz, hsz, hby⟩ := info_partsN numInfo
  subst hm hr
  refine rg_appendG (E := NmE) (u := u) (s := s) (i := i) (xs := xs) (ys := ys) (ad := ad) hg Tryz.underlying22 hi hz hsz rfl Ox hs hown hx rfl Ox hp (fun w K j y hj => ?_) hzz fun u' v' hO => ?_
  · have hne : nms ys ≠ [] := fun e => by (have e' : NmE.flat ys = [] := e; rw [e'] at hj; simp at hj)
    obtain ⟨b, off, e, _, hc⟩ := hA w K hne
    cases e
    have hj' : j < (nms ys).length := by
      rcases Nat.lt_or_ge j (nms ys).length with h | h
      · exact h
      · rw [List.getElem?_eq_none h] at hj; cases hj
    have e1 : (⟨b, off, none⟩ : Addr).add j = ⟨b, off + j, none⟩ := Addr.add_mid ..
    rw [e1, hc j hj', hj]
  · obtain ⟨a', c', rfl, -⟩ := Own.val hO
    have e : (xs ++ ys).length = xs.length + ys.length := by simp
    rw [e] at hO ⊢
    exact h u' a' c' hO
end
def RoundsK (N bz lp : Nat) (r : Loop) (C : Nat → List Blk → Prop) : Prop :=
  r.params.size = 1 ∧ (∀ j s, C j s → (lp, Obj.loop r) ∈ s) ∧
  ∀ (R : Option Nat) (B : World) (F : List Nat) (j i : Nat) (s rest : List Blk) (w : World), j < N → i = j * N → C j s → Kn B F (s ++ rest) w →
    RoundIn (FR R) 0 Tryz.prog lp r.fn ((r.params.zip #[Value.slice (some ⟨bz, 0 + i * 5, none⟩) N N]).foldl (fun tmps (t, a) => tmps.setIfInBounds t a) r.tmps) r.assign r.body w
      (fun e w' => ∃ s', e = .returned (.bool true) ∧ C (j + 1) s' ∧ Kn B F (s' ++ rest) w')
section
variable {R : Option Nat} {ops : Array Oper} {Q : Exit → Act → World → Prop} {B : World} {F : List Nat}
theorem rg_yieldK {C : Nat → List Blk → Prop} {N bz lp : Nat} {r : Loop} {j i : Nat} {s rest : List Blk} {a : Act} {d : Option Tmp} {fo : Operand} {cargs : Array Operand} {at_ : Array TypeId} {t : TypeId} {p : String} {af : Array Edge} {gd : Option (Nat × Bool)} {lst : List (Oper × Nat)}
    (hR : RoundsK N bz lp r C) (hC : C j s) (hj : j < N) (hi : i = j * N) (hg : Region.wanted ⟨d, .call ⟨.value fo, cargs, at_⟩, t, p, af, gd⟩ (yielded ops a.tmps) = true)
    (hf : a.eval fo = .func (.yield lp) #[] #[]) (hargs : cargs.map a.eval = #[.slice (some ⟨bz, 0 + i * 5, none⟩) N N])
    (h : ∀ s', C (j + 1) s' → Rg R Tryz.prog ops Q B F none lst (a.put d (.bool true)) (s' ++ rest)) :
    Rg R Tryz.prog ops Q B F none ((⟨d, .call ⟨.value fo, cargs, at_⟩, t, p, af, gd⟩, 1) :: lst) a (s ++ rest) := by
  refine rg_yield (r := r) hg hf hargs hR.1.symm (List.mem_append_left _ (hR.2.1 j s hC)) fun w K => ?_
  exact (hR.2.2 R B F j i s rest w hj hi hC K).mono fun e w' ⟨s', he, hC', hK⟩ => ⟨_, _, he, hK, h s' hC'⟩
end
theorem arr_eqIn0 (a b c d a' b' c' d' : Int) (w : World) : (Op.equalIn 10000 53 (.agg #[.int .i64 a, .int .i64 b, .int .i64 c, .int .i64 d]) (.agg #[.int .i64 a', .int .i64 b', .int .i64 c', .int .i64 d'])).run Tryz.prog w = .ok (decide (a = a' ∧ b = b' ∧ c = c' ∧ d = d')) w := by
  have u3 := Tryz.underlying3
  have a3 := Tryz.isAgg3
  have z3 := Tryz.sizeOf3
  rw [show (10000 : Nat) = 9999 + 1 from rfl, Op.equalIn]; simp only [Sem.run_bind, run_underlying Tryz.underlying53, Result.andThen_ok]; simp only [Std.Legacy.Range.forIn_eq_forIn_range', Std.Legacy.Range.size, Nat.sub_zero, Nat.add_sub_cancel, Nat.div_one, List.range'_succ, List.range'_zero, List.forIn_cons, List.forIn_nil]
  go_simp
  by_cases h1 : a = a' <;> by_cases h2 : b = b' <;> by_cases h3 : c = c' <;> by_cases h4 : d = d' <;> simp [h1, h2, h3, h4]
theorem arr_guard (op : BinOp) (u v : Operand) (x y : Array Value) (w : World) : (eqGuard op 53 u v (.agg x) (.agg y)).run Tryz.prog w = .ok () w := by
  have h : (Tryz.prog.eqGuardType Tryz.prog.depth 53) = false := by kernel_rfl
  unfold eqGuard
  cases op <;> simp [h]
section
variable {R : Option Nat} {ops : Array Oper} {Q : Exit → Act → World → Prop} {B : World} {F : List Nat} {s0 : Option (List Blk × List Blk)}
variable {l : List (Oper × Nat)} {a : Act} {s : List Blk} {d : Option Tmp} {t : TypeId} {p : String} {af : Array Edge} {gd : Option (Nat × Bool)} {m : Nat}
theorem rf_eqA4 {x y : Operand} {z : TypeId} {i j k n i' j' k' n' : Int} (hm : soft03 m = true) (hg : Region.wanted ⟨d, .binOp .eql 53 x y z, t, p, af, gd⟩ (yielded ops a.tmps) = true)
    (hx : a.eval x = .agg #[.int .i64 i, .int .i64 j, .int .i64 k, .int .i64 n]) (hy : a.eval y = .agg #[.int .i64 i', .int .i64 j', .int .i64 k', .int .i64 n']) (h : Rg R Tryz.prog ops Q B F s0 l (a.put d (.bool (decide (i = i' ∧ j = j' ∧ k = k' ∧ n = n')))) s) : Rg R Tryz.prog ops Q B F s0 ((⟨d, .binOp .eql 53 x y z, t, p, af, gd⟩, m) :: l) a s := by
  refine rg_any hm hg (fun w => ?_) h
  unfold Yld
  have hb : (binOp .eql 53 (.agg #[.int .i64 i, .int .i64 j, .int .i64 k, .int .i64 n]) (.agg #[.int .i64 i', .int .i64 j', .int .i64 k', .int .i64 n'])).run Tryz.prog w = .ok (.bool (decide (i = i' ∧ j = j' ∧ k = k' ∧ n = n'))) w := by rw [run_eql_struct, arr_eqIn0]; rfl
  have hgd := arr_guard .eql x y #[.int .i64 i, .int .i64 j, .int .i64 k, .int .i64 n] #[.int .i64 i', .int .i64 j', .int .i64 k', .int .i64 n'] w
  show ((eqGuard .eql _ x y (a.eval x) (a.eval y) >>= fun _ => binOp .eql _ (a.eval x) (a.eval y)) >>= fun r => pure (Next.value r)).run Tryz.prog w = _
  rw [hx, hy, Sem.run_bind, Sem.run_bind, hgd, Result.andThen_ok, hb]
  rfl
end
def oddV (z : Nm) : Value := .agg #[.int .i64 (z.a % 2), .int .i64 (z.b % 2), .int .i64 (z.c % 2), .int .i64 (z.d % 2)]
theorem okM_t1 {x y : Nm} (h : wtE x = wtE y) (h2 : x.a % 2 = y.a % 2 ∧ x.b % 2 = y.b % 2 ∧ x.c % 2 = y.c % 2 ∧ x.d % 2 = y.d % 2) : okM x y = true := by unfold okM; rw [if_pos h]; exact decide_eq_true h2
theorem okM_f1 {x y : Nm} (h : wtE x = wtE y) (h2 : ¬ (x.a % 2 = y.a % 2 ∧ x.b % 2 = y.b % 2 ∧ x.c % 2 = y.c % 2 ∧ x.d % 2 = y.d % 2)) : okM x y = false := by unfold okM; rw [if_pos h]; exact decide_eq_false h2
theorem okM_t2 {x y : Nm} (h : ¬ wtE x = wtE y) (h2 : x.a % 2 = 1 - y.a % 2 ∧ x.b % 2 = 1 - y.b % 2 ∧ x.c % 2 = 1 - y.c % 2 ∧ x.d % 2 = 1 - y.d % 2) : okM x y = true := by unfold okM; rw [if_neg h]; exact decide_eq_true h2
theorem okM_f2 {x y : Nm} (h : ¬ wtE x = wtE y) (h2 : ¬ (x.a % 2 = 1 - y.a % 2 ∧ x.b % 2 = 1 - y.b % 2 ∧ x.c % 2 = 1 - y.c % 2 ∧ x.d % 2 = 1 - y.d % 2)) : okM x y = false := by unfold okM; rw [if_neg h]; exact decide_eq_false h2
theorem turn_N {n : Nat} (h : n < 4) (y : Nm) : Nm.turn ((n : Int) % 8).toNat y = turnN n y := by
  rcases (by omega : n = 0 ∨ n = 1 ∨ n = 2 ∨ n = 3) with rfl | rfl | rfl | rfl <;> rfl
theorem match_at {x y : Nm} {n : Nat} (hn : n < 4) (hf : ∀ j, j < n → okM x (turnN j y) = false) (ht : okM x (turnN n y) = true) : matchN x y = n := by
 unfold matchN
 rcases (by omega : n = 0 ∨ n = 1 ∨ n = 2 ∨ n = 3) with rfl | rfl | rfl | rfl
 ·rw [if_pos ht]
 ·rw [hf 0 Ox, if_neg (by decide), if_pos ht]
 ·rw [hf 0 Ox, hf 1 Ox, if_neg (by decide), if_neg (by decide), if_pos ht]
 rw [hf 0 Ox, hf 1 Ox, hf 2 Ox, if_neg (by decide), if_neg (by decide), if_neg (by decide), if_pos ht]
theorem match_no {x y : Nm} (hf : ∀ j, j < 4 → okM x (turnN j y) = false) : matchN x y = 0 := by
 unfold matchN
 rw [hf 0 Ox, hf 1 Ox, hf 2 Ox, hf 3 Ox]; rfl
theorem must_any (z : Nm) (c : Int) (w : World) : Calls Tryz.prog 41 #[.agg #[.int .i64 z.a, .int .i64 z.b, .int .i64 z.c, .int .i64 z.d, .int .i64 z.k], .int .i64 c] w fun e w' => e = .returned (nmV z) ∧ Below w.heap.size w w' := by
 go_enter Tryz.func41, Tryz.ntmps41
 refine wk_start ?_
 refine wk_seq ?_
 refine wk_region [1, 1] rfl Kx ?_
 simp only [qy]
 refine Rgn fun g1 => ?_
 simp only [qz]
 refine Rgn fun g2 => ?_
 simp only [qz]
 refine rg_nil (ek_next (wk_seq ?_))
 refine wk_region [0, 1] rfl Kx ?_
 simp only [qy]
 refine rf_loadR (n := 5) rfl rfl rfl Tryz.underlying55 rfl Kx (fun w hw => Kn.hd0 (Kn.tl hw)) rfl rfl ?_
 simp only [qz]
 refine rf_storeR (n := 5) rfl rfl Kx rfl rfl (UpdR.here _ _ _ Nl) Nz ?_
 simp only [qz, Nat.reduceAdd]
 refine rg_nil (ek_next (wk_ret ?_))
 refine ek_ret (fun w hw => ⟨rfl, _, run_results1 rfl rfl (Kn.hd0 hw) Tryz.underlying55 rfl Kx, ?_⟩)
 (try simp only [qz])
 first | exact ⟨rfl, hw.below⟩ | exact ⟨trivial, hw.below⟩ | exact hw.below
theorem weight_any (a b c d : Int) (h : 0 ≤ a ∧ a ≤ 1 ∧ 0 ≤ b ∧ b ≤ 1 ∧ 0 ≤ c ∧ c ≤ 1 ∧ 0 ≤ d ∧ d ≤ 1) (w : World) : Calls Tryz.prog 95 #[.agg #[.int .i64 a, .int .i64 b, .int .i64 c, .int .i64 d]] w fun e w' => e = .returned (.int .i64 (a + b + c + d)) ∧ Below w.heap.size w w' := by
 go_enter Tryz.func95, Tryz.ntmps95
 refine wk_start ?_
 refine wk_seq ?_
 refine wk_region [1, 0] rfl Kx ?_
 simp only [qy]
 refine Rgn fun g1 => ?_
 refine Zm ?_
 refine rg_nil (ek_next (wk_seq ?_))
 refine wk_region [0, 0, 0, 0, 0, 0, 0, 0, 0, 0, 0, 0] rfl Kx ?_
 simp only [qy]
 refine rf_indexA (n := 0) (sz := 1) (j := 0) rfl rfl rfl rfl Tryz.underlying53 Kx (by decide) rfl ?_
 simp only [qz]
 refine rf_load rfl rfl rfl Tryz.underlying3 rfl (fun w hw => (Kn.hd0 hw).at rfl) ?_
 simp only [qz]
 refine rf_indexA (n := 1) (sz := 1) (j := 1) rfl rfl rfl rfl Tryz.underlying53 Kx (by decide) rfl ?_
 simp only [qz]
 refine rf_load rfl rfl rfl Tryz.underlying3 rfl (fun w hw => (Kn.hd0 hw).at rfl) ?_
 simp only [qz]
 refine rf_add rfl rfl rfl rfl (wrap_ok Ox Ox) ?_
 simp only [qz]
 refine rf_indexA (n := 2) (sz := 1) (j := 2) rfl rfl rfl rfl Tryz.underlying53 Kx (by decide) rfl ?_
 simp only [qz]
 refine rf_load rfl rfl rfl Tryz.underlying3 rfl (fun w hw => (Kn.hd0 hw).at rfl) ?_
 simp only [qz]
 refine rf_add rfl rfl rfl rfl (wrap_ok Ox Ox) ?_
 simp only [qz]
 refine rf_indexA (n := 3) (sz := 1) (j := 3) rfl rfl rfl rfl Tryz.underlying53 Kx (by decide) rfl ?_
 simp only [qz]
 refine rf_load rfl rfl rfl Tryz.underlying3 rfl (fun w hw => (Kn.hd0 hw).at rfl) ?_
 simp only [qz]
 refine rf_add rfl rfl rfl rfl (wrap_ok Ox Ox) ?_
 refine Zm ?_
 refine rg_nil (ek_next (wk_ret ?_))
 refine ek_ret (fun w hw => ⟨rfl, _, res_t _ rfl, ?_⟩)
 (try simp only [qz])
 first | exact ⟨rfl, hw.below⟩ | exact ⟨trivial, hw.below⟩ | exact hw.below
theorem odd_any (z : Nm) (w : World) : Calls Tryz.prog 96 #[.agg #[.int .i64 z.a, .int .i64 z.b, .int .i64 z.c, .int .i64 z.d, .int .i64 z.k]] w fun e w' => e = .returned (oddV z) ∧ Below w.heap.size w w' := by
 go_enter Tryz.func96, Tryz.ntmps96
 refine wk_start ?_
 refine wk_seq ?_
 refine wk_region [1, 1] rfl Kx ?_
 simp only [qy]
 refine Rgn fun g1 => ?_
 simp only [qz]
 refine Rgn fun g2 => ?_
 simp only [qz]
 refine rg_nil (ek_next (wk_seq ?_))
 refine wk_region [1] rfl Kx ?_
 simp only [qy]
 refine Rgn fun g3 => ?_
 simp only [qz]
 refine rg_nil (ek_next (wk_seq (wk_seq ?_)))
 refine wk_region [0, 0, 0] rfl Kx ?_
 simp only [qy]
 refine rf_field (n := 3) (j := 0) rfl rfl rfl Tryz.underlying55 rfl Kx rfl ?_
 simp only [qz]
 refine rf_loadR (n := 4) rfl rfl rfl Tryz.underlying53 rfl Kx (fun w hw => Kn.hd0 (Kn.tl (Kn.tl hw))) rfl rfl ?_
 refine Zm ?_
 refine rg_nil (ek_next (wk_block ?_))
 refine wk_unroll 4 ?_
 refine wk_seq ?_
 refine wk_region [0] rfl Kx ?_
 simp only [qy]
 refine rf_lss (b := true) rfl rfl rfl rfl (by decide) ?_
 simp only [qz]
 refine rg_nil (ek_next (wk_seq (wk_cond_t rfl (wk_skip (ek_next (wk_seq (wk_block (wk_seq ?_))))))))
 refine wk_region [0, 0, 0, 0] rfl Kx ?_
 refine Zm ?_
 apply rg_soft
 case hy => (intro w hw; have hand := and1; go_simp; (try go_bits); exact Yld.mk _ _)
 refine Zm ?_
 refine rg_nil (ek_next ?_)
 refine wk_region [0, 0, 0, 0, 1] rfl Kx ?_
 refine Zm ?_
 refine rf_and rfl rfl rfl rfl (and1 _) ?_
 simp only [qz]
 refine rf_indexA (n := 0) (sz := 1) (j := 0) rfl rfl rfl rfl Tryz.underlying53 Kx (by decide) rfl ?_
 simp only [qz]
 refine rf_store rfl rfl Kx rfl rfl (UpdR.here _ _ _ Nl) Nz ?_
 simp only [qz]
 refine rg_nil (ek_block (ek_next ?_))
 refine wk_region [0, 0] rfl Kx ?_
 simp only [qy]
 refine rf_add (r := 1) rfl rfl rfl rfl (by decide) ?_
 refine Zm ?_
 refine rg_nil (ek_again (wk_seq ?_))
 refine wk_region [0] rfl Kx ?_
 simp only [qy]
 refine rf_lss (b := true) rfl rfl rfl rfl (by decide) ?_
 simp only [qz]
 refine rg_nil (ek_next (wk_seq (wk_cond_t rfl (wk_skip (ek_next (wk_seq (wk_block (wk_seq ?_))))))))
 refine wk_region [0, 0, 0, 0] rfl Kx ?_
 refine Zm ?_
 apply rg_soft
 case hy => (intro w hw; have hand := and1; go_simp; (try go_bits); exact Yld.mk _ _)
 refine Zm ?_
 refine rg_nil (ek_next ?_)
 refine wk_region [0, 0, 0, 0, 1] rfl Kx ?_
 refine Zm ?_
 refine rf_and rfl rfl rfl rfl (and1 _) ?_
 simp only [qz]
 refine rf_indexA (n := 1) (sz := 1) (j := 1) rfl rfl rfl rfl Tryz.underlying53 Kx (by decide) rfl ?_
 simp only [qz]
 refine rf_store rfl rfl Kx rfl rfl (UpdR.here _ _ _ Nl) Nz ?_
 simp only [qz]
 refine rg_nil (ek_block (ek_next ?_))
 refine wk_region [0, 0] rfl Kx ?_
 simp only [qy]
 refine rf_add (r := 2) rfl rfl rfl rfl (by decide) ?_
 refine Zm ?_
 refine rg_nil (ek_again (wk_seq ?_))
 refine wk_region [0] rfl Kx ?_
 simp only [qy]
 refine rf_lss (b := true) rfl rfl rfl rfl (by decide) ?_
 simp only [qz]
 refine rg_nil (ek_next (wk_seq (wk_cond_t rfl (wk_skip (ek_next (wk_seq (wk_block (wk_seq ?_))))))))
 refine wk_region [0, 0, 0, 0] rfl Kx ?_
 refine Zm ?_
 apply rg_soft
 case hy => (intro w hw; have hand := and1; go_simp; (try go_bits); exact Yld.mk _ _)
 refine Zm ?_
 refine rg_nil (ek_next ?_)
 refine wk_region [0, 0, 0, 0, 1] rfl Kx ?_
 refine Zm ?_
 refine rf_and rfl rfl rfl rfl (and1 _) ?_
 simp only [qz]
 refine rf_indexA (n := 2) (sz := 1) (j := 2) rfl rfl rfl rfl Tryz.underlying53 Kx (by decide) rfl ?_
 simp only [qz]
 refine rf_store rfl rfl Kx rfl rfl (UpdR.here _ _ _ Nl) Nz ?_
 simp only [qz]
 refine rg_nil (ek_block (ek_next ?_))
 refine wk_region [0, 0] rfl Kx ?_
 simp only [qy]
 refine rf_add (r := 3) rfl rfl rfl rfl (by decide) ?_
 refine Zm ?_
 refine rg_nil (ek_again (wk_seq ?_))
 refine wk_region [0] rfl Kx ?_
 simp only [qy]
 refine rf_lss (b := true) rfl rfl rfl rfl (by decide) ?_
 simp only [qz]
 refine rg_nil (ek_next (wk_seq (wk_cond_t rfl (wk_skip (ek_next (wk_seq (wk_block (wk_seq ?_))))))))
 refine wk_region [0, 0, 0, 0] rfl Kx ?_
 refine Zm ?_
 apply rg_soft
 case hy => (intro w hw; have hand := and1; go_simp; (try go_bits); exact Yld.mk _ _)
 refine Zm ?_
 refine rg_nil (ek_next ?_)
 refine wk_region [0, 0, 0, 0, 1] rfl Kx ?_
 refine Zm ?_
 refine rf_and rfl rfl rfl rfl (and1 _) ?_
 simp only [qz]
 refine rf_indexA (n := 3) (sz := 1) (j := 3) rfl rfl rfl rfl Tryz.underlying53 Kx (by decide) rfl ?_
 simp only [qz]
 refine rf_store rfl rfl Kx rfl rfl (UpdR.here _ _ _ Nl) Nz ?_
 simp only [qz]
 refine rg_nil (ek_block (ek_next ?_))
 refine wk_region [0, 0] rfl Kx ?_
 simp only [qy]
 refine rf_add (r := 4) rfl rfl rfl rfl (by decide) ?_
 refine Zm ?_
 refine rg_nil (ek_again (wk_seq ?_))
 refine wk_region [0] rfl Kx ?_
 simp only [qy]
 refine rf_lss (b := false) rfl rfl rfl rfl (by decide) ?_
 simp only [qz]
 refine rg_nil (ek_next (wk_seq (wk_cond_f rfl (wk_exit (ek_then_exit (ek_then_exit (ek_block_exit (ek_next (wk_seq ?_)))))))))
 refine wk_region [0, 1] rfl Kx ?_
 simp only [qy]
 refine rf_loadR (n := 4) rfl rfl rfl Tryz.underlying53 rfl Kx (fun w hw => Kn.hd0 hw) rfl rfl ?_
 simp only [qz]
 refine rf_storeR (n := 4) rfl rfl Kx rfl rfl (UpdR.there _ (UpdR.here _ _ _ Nl)) Nz ?_
 simp only [qz, Nat.reduceAdd]
 refine rg_nil (ek_next (wk_ret ?_))
 refine ek_ret (fun w hw => ⟨rfl, _, run_results1 rfl rfl (Kn.hd0 (Kn.tl hw)) Tryz.underlying53 rfl Kx, ?_⟩)
 (try simp only [qz])
 exact ⟨rfl, hw.below⟩
theorem kind_any (z : Nm) (k : Int) (w : World) : Calls Tryz.prog 72 #[.agg #[.int .i64 z.a, .int .i64 z.b, .int .i64 z.c, .int .i64 z.d, .int .i64 z.k], .int .i64 k] w fun e w' => e = .returned (.int .i64 (kindN z k)) ∧ Below w.heap.size w w' := by
 go_enter Tryz.func72, Tryz.ntmps72
 refine wk_start ?_
 refine wk_seq ?_
 refine wk_region [1, 0] rfl Kx ?_
 simp only [qy]
 refine Rgn fun g1 => ?_
 refine Zm ?_
 refine rg_nil (ek_next (wk_seq (wk_block (wk_seq ?_))))
 refine wk_region [0, 0, 0, 0, 0] rfl Kx ?_
 simp only [qy]
 refine rf_field (n := 0) (j := 4) rfl rfl rfl Tryz.underlying55 rfl Kx rfl ?_
 simp only [qz]
 refine rf_load rfl rfl rfl Tryz.underlying3 rfl (fun w hw => (Kn.hd0 hw).at rfl) ?_
 refine Zm ?_
 refine rfb_lss rfl rfl rfl rfl ?_
 intro x h1
 cases x
 ·(try simp only [qd, ne_eq] at h1)
  refine Zm ?_; refine rg_nil (ek_next (wk_cond_f rfl (wk_seq ?_))); refine wk_region [0, 1, 1, 0, 0, 0] rfl Kx ?_; simp only [qy]; refine rf_loadR (n := 5) rfl rfl rfl Tryz.underlying55 rfl Kx (fun w hw => Kn.hd0 hw) rfl rfl ?_; simp only [qz]; apply rg_pure Rx Kx
  case hargs => exact Ax
  case h => exact fun w hw => odd_any z w
  case hz => exact Nz
  simp only [qz]; apply rg_pure Rx Kx
  case hargs => exact Ax
  case h => exact fun w hw => weight_any (z.a % 2) (z.b % 2) (z.c % 2) (z.d % 2) Ox w
  case hz => exact Nz
  simp only [qz]; refine rf_and (r := (z.a % 2 + z.b % 2 + z.c % 2 + z.d % 2) % 2) rfl rfl rfl rfl (and1 _) ?_; simp only [qz]; refine rfb_eql rfl rfl rfl rfl ?_; intro x h2; cases x
  ·(try simp only [qd, ne_eq] at h2)
   refine Zm ?_; refine rg_nil (ek_next (wk_cond_f rfl (wk_skip (ek_block (ek_next (wk_seq ?_)))))); refine wk_region [0] rfl Kx ?_; refine Zm ?_; refine rg_nil (ek_next (wk_ret ?_)); refine ek_ret (fun w hw => ⟨rfl, _, res_t _ rfl, ?_⟩); (try simp only [qz])
   exact ⟨by rw [show kindN z k = 2 by (unfold kindN sumE; rw [if_neg Ox, if_neg Ox])], hw.below⟩
  (try simp only [qd, ne_eq] at h2); refine Zm ?_; refine rg_nil (ek_next (wk_cond_t rfl (wk_seq ?_))); refine wk_region [0] rfl Kx ?_; refine Zm ?_; refine rg_nil (ek_next (wk_ret (ek_block_ret (ek_then_ret ?_)))); refine ek_ret (fun w hw => ⟨rfl, _, res_t _ rfl, ?_⟩); (try simp only [qz])
  exact ⟨by rw [show kindN z k = 1 by (unfold kindN sumE; rw [if_neg Ox, if_pos Ox])], hw.below⟩
 (try simp only [qd, ne_eq] at h1)
 refine Zm ?_
 refine rg_nil (ek_next (wk_cond_t rfl (wk_seq ?_)))
 refine wk_region [0] rfl Kx ?_
 refine Zm ?_
 refine rg_nil (ek_next (wk_ret (ek_block_ret (ek_then_ret ?_))))
 refine ek_ret (fun w hw => ⟨rfl, _, res_t _ rfl, ?_⟩)
 (try simp only [qz])
 exact ⟨by rw [show kindN z k = 0 from if_pos Ox], hw.below⟩
theorem match_any (x y : Nm) (hy : y.Ok) (w : World) : Calls Tryz.prog 73 #[.agg #[.int .i64 x.a, .int .i64 x.b, .int .i64 x.c, .int .i64 x.d, .int .i64 x.k], .agg #[.int .i64 y.a, .int .i64 y.b, .int .i64 y.c, .int .i64 y.d, .int .i64 y.k]] w fun e w' => e = .returned (.int .i64 (matchN x y : Nat)) ∧ Below w.heap.size w w' := by
 go_enter Tryz.func73, Tryz.ntmps73
 refine wk_start ?_
 refine wk_seq ?_
 refine wk_region [1, 1, 0] rfl Kx ?_
 simp only [qy]
 refine Rgn fun g1 => ?_
 simp only [qz]
 refine Rgn fun g2 => ?_
 refine Zm ?_
 refine rg_nil (ek_next (wk_seq ?_))
 refine wk_region [0, 1, 1, 1] rfl Kx ?_
 simp only [qy]
 refine rf_loadR (n := 5) rfl rfl rfl Tryz.underlying55 rfl Kx (fun w hw => Kn.hd0 (Kn.tl hw)) rfl rfl ?_
 simp only [qz]
 apply rg_pure Rx Kx
 case hargs => exact Ax
 case h => exact fun w hw => odd_any x w
 case hz => exact Nz
 simp only [qz]
 refine Rgn fun g3 => ?_
 simp only [qz]
 refine rf_storeR (n := 4) rfl rfl Kx rfl rfl (UpdR.here _ _ _ Nl) Nz ?_
 simp only [qz, Nat.reduceAdd]
 refine rg_nil (ek_next (wk_seq (wk_seq ?_)))
 refine wk_region [0] rfl Kx ?_
 refine Zm ?_
 refine rg_nil (ek_next (wk_block ?_))
 refine wk_loopF [4, 6, 7, 8, 11, 12, 13, 14, 15, 16, 17, 18, 19, 20, 21, 22, 23, 24, 25, 26, 27, 28, 29, 30, 31, 32, 33, 34, 35, 36, 37, 38, 39, 40] (fun mz f s => ∃ (n : Nat), f 11 = .int .i64 n ∧ s = ((g3, .cells #[.int .i64 (x.a % 2), .int .i64 (x.b % 2), .int .i64 (x.c % 2), .int .i64 (x.d % 2)] 53) :: ((g2, .cells #[.int .i64 y.a, .int .i64 y.b, .int .i64 y.c, .int .i64 y.d, .int .i64 y.k] 55) :: ((g1, .cells #[.int .i64 x.a, .int .i64 x.b, .int .i64 x.c, .int .i64 x.d, .int .i64 x.k] 55) :: []))) ∧ mz = 4 - n ∧ n ≤ 4 ∧ (∀ j, j < n → okM x (turnN j y) = false)) ((fun (n : Nat) => 4 - n) (0)) ?_ Kx ?_
 ·exact ⟨0, rfl, rfl, rfl, by omega, (fun j hj => absurd hj Ox)⟩
 rintro mz f1 s ⟨n, hs1_11, rfl, hn, hc1, hc2⟩
 simp only [Act.putF, List.foldl_cons, List.foldl_nil, hs1_11, Act.put, Act.eval, q1, q2, q3, q4, q5, q6, q7, q8, q9, q10, q11, q12, q13, q14, q15, q16, q17, q18, Nat.reduceAdd, Bool.not_true, Bool.not_false]
 clear hs1_11
 refine wk_seq ?_
 refine wk_region [0] rfl Kx ?_
 simp only [qy]
 refine rfb_lss rfl rfl rfl rfl ?_
 intro x h1
 cases x
 ·(try simp only [qd, ne_eq] at h1)
  simp only [qz]; refine rg_nil (ek_next (wk_seq (wk_cond_f rfl (wk_exit (ek_then_exit (ek_then_exit (ek_block_exit (ek_next (wk_seq ?_))))))))); refine wk_region [0] rfl Kx ?_; refine Zm ?_; refine rg_nil (ek_next (wk_ret ?_)); refine ek_ret (fun w hw => ⟨rfl, _, res_t _ rfl, ?_⟩); (try simp only [qz])
  obtain rfl : n = 4 := by omega
  exact ⟨by rw [match_no hc2]; rfl, hw.below⟩
 (try simp only [qd, ne_eq] at h1)
 simp only [qz]
 refine rg_nil (ek_next (wk_seq (wk_cond_t rfl (wk_skip (ek_next (wk_seq (wk_block (wk_seq ?_))))))))
 refine wk_region [0, 0] rfl Kx ?_
 refine Zm ?_
 refine rg_nil (ek_next (wk_seq ?_))
 refine wk_region [0, 0, 1, 0, 0, 1, 1, 1, 1] rfl Kx ?_
 simp only [qy]
 refine rf_loadR (n := 5) rfl rfl rfl Tryz.underlying55 rfl Kx (fun w hw => Kn.hd0 (Kn.tl hw)) rfl rfl ?_
 refine Zm ?_
 apply rg_pure Rx Kx
 case hargs => exact Ax
 case h => exact fun w hw => by have := amTurn_ok y (n : Int) hy w; rw [turn_N Ox] at this; exact this
 case hz => exact Nz
 simp only [qz]
 refine rf_extract rfl rfl rfl rfl ?_
 simp only [qz]
 refine rf_extract rfl rfl rfl rfl ?_
 simp only [qz]
 apply rg_pure Rx Kx
 case hargs => exact Ax
 case h => exact fun w hw => must_any (turnN n y) 0 w
 case hz => exact Nz
 simp only [qz]
 apply rg_pure Rx Kx
 case hargs => exact Ax
 case h => exact fun w hw => odd_any (turnN n y) w
 case hz => exact Nz
 simp only [qz]
 refine Rgn fun g4 => ?_
 simp only [qz]
 refine rf_storeR (n := 4) rfl rfl Kx rfl rfl (UpdR.here _ _ _ Nl) Nz ?_
 simp only [qz, Nat.reduceAdd]
 refine rg_nil (ek_next (wk_seq (wk_seq ?_)))
 refine wk_draws _ _ [(0, 0), (2, 0), (1, 1), (3, 1), (4, 0)] [] Kx Kx (fun c d v a w h => by cases d <;> exact h) ((sc _ (sc _ (sc _ (sc _ sn))))) (fun e => by first | exact absurd e (by decide) | rfl) ?_
 simp only [List.map_cons, List.map_nil, List.getD_cons_zero, List.getD_cons_succ]
 refine rf_loadR (n := 4) rfl rfl rfl Tryz.underlying53 rfl Kx (fun w hw => Kn.hd0 (Kn.tl hw)) rfl rfl ?_
 simp only [qz]
 refine rf_loadR (n := 4) rfl rfl rfl Tryz.underlying53 rfl Kx (fun w hw => Kn.hd0 hw) rfl rfl ?_
 simp only [qz]
 apply rg_pure Rx Kx
 case hargs => exact Ax
 case h => exact fun w hw => weight_any (x.a % 2) (x.b % 2) (x.c % 2) (x.d % 2) Ox w
 case hz => exact (fun _ h => by cases h; exact (sc _ (sc _ (sc _ (sc _ sn)))))
 simp only [qz]
 apply rg_pure Rx Kx
 case hargs => exact Ax
 case h => exact fun w hw => weight_any ((turnN n y).a % 2) ((turnN n y).b % 2) ((turnN n y).c % 2) ((turnN n y).d % 2) Ox w
 case hz => exact (fun _ h => by cases h; exact (sc _ (sc _ (sc _ (sc _ sn)))))
 simp only [qz]
 refine rfb_neq rfl rfl rfl rfl ?_
 intro x h2
 cases x
 ·(try simp only [qd, ne_eq] at h2)
  simp only [qz]; refine rg_nil (ek_next (wk_cond_f rfl (wk_skip (ek_next (wk_seq ?_))))); refine wk_region [0, 0, 0] rfl Kx ?_; simp only [qy]; refine rf_loadR (n := 4) rfl rfl rfl Tryz.underlying53 rfl Kx (fun w hw => Kn.hd0 (Kn.tl hw)) rfl rfl ?_; simp only [qz]; refine rf_loadR (n := 4) rfl rfl rfl Tryz.underlying53 rfl Kx (fun w hw => Kn.hd0 hw) rfl rfl ?_; simp only [qz]; refine rf_eqA4 rfl rfl rfl rfl ?_; simp only [qz]
  refine rg_nil (ek_next ?_); refine wk_cond (t := _) rfl (fun h3 => ?_) (fun h3 => ?_)
  ·replace h3 := of_decide_eq_true h3
   refine wk_seq ?_; refine wk_region [0, 0] rfl Kx ?_; refine Zm ?_; refine rg_nil (ek_next (wk_ret (ek_block_ret (ek_then_ret (ek_then_ret (ek_block_ret (ek_then_ret ?_))))))); refine ek_ret (fun w hw => ⟨rfl, _, res_t _ rfl, ?_⟩); (try simp only [qz])
   have e := match_at (x := x) (y := y) (show n < 4 by omega) hc2 (okM_t1 (by unfold wtE; omega) h3)
   exact ⟨by rw [e], hw.below⟩
  replace h3 := of_decide_eq_false h3
  refine wk_skip (ek_block (ek_next ?_)); refine wk_region [0, 0] rfl Kx ?_; simp only [qy]; refine rf_add rfl rfl rfl rfl (wrap_ok Ox Ox) ?_; refine Zm ?_; refine rg_nil ?_; refine ek_sub (sk _ (sc _ (sc _ (sc _ sn)))) ?_; refine ek_roundF (4 - (n + 1)) Ox Kx ?_
  exact ⟨n + 1, rfl, by rfl, by rfl, by omega, (fun j hj => if e : j = n then e ▸ okM_f1 (by unfold wtE; omega) h3 else hc2 j Ox)⟩
 (try simp only [qd, ne_eq] at h2)
 simp only [qz]
 refine rg_nil (ek_next (wk_cond_t rfl (wk_seq ?_)))
 refine wk_region [0] rfl Kx ?_
 refine Zm ?_
 refine rg_nil (ek_next (wk_block ?_))
 refine wk_unroll 4 ?_
 refine wk_seq ?_
 refine wk_region [0] rfl Kx ?_
 simp only [qy]
 refine rf_lss (b := true) rfl rfl rfl rfl (by decide) ?_
 simp only [qz]
 refine rg_nil (ek_next (wk_seq (wk_cond_t rfl (wk_skip (ek_next (wk_seq (wk_block (wk_seq ?_))))))))
 refine wk_region [0, 0] rfl Kx ?_
 refine Zm ?_
 refine rg_nil (ek_next ?_)
 refine wk_region [0, 0, 0, 0, 0, 0, 1] rfl Kx ?_
 refine Zm ?_
 refine rf_indexA (n := 0) (sz := 1) (j := 0) rfl rfl rfl rfl Tryz.underlying53 Kx (by decide) rfl ?_
 simp only [qz]
 refine rf_load rfl rfl rfl Tryz.underlying3 rfl (fun w hw => (Kn.hd0 hw).at rfl) ?_
 simp only [qz]
 refine rf_sub rfl rfl rfl rfl (wrap_ok Ox Ox) ?_
 simp only [qz]
 refine rf_indexA (n := 0) (sz := 1) (j := 0) rfl rfl rfl rfl Tryz.underlying53 Kx (by decide) rfl ?_
 simp only [qz]
 refine rf_store rfl rfl Kx rfl rfl (UpdR.here _ _ _ Nl) Nz ?_
 simp only [qz]
 refine rg_nil (ek_block (ek_next ?_))
 refine wk_region [0, 0] rfl Kx ?_
 simp only [qy]
 refine rf_add (r := 1) rfl rfl rfl rfl (by decide) ?_
 refine Zm ?_
 refine rg_nil (ek_again (wk_seq ?_))
 refine wk_region [0] rfl Kx ?_
 simp only [qy]
 refine rf_lss (b := true) rfl rfl rfl rfl (by decide) ?_
 simp only [qz]
 refine rg_nil (ek_next (wk_seq (wk_cond_t rfl (wk_skip (ek_next (wk_seq (wk_block (wk_seq ?_))))))))
 refine wk_region [0, 0] rfl Kx ?_
 refine Zm ?_
 refine rg_nil (ek_next ?_)
 refine wk_region [0, 0, 0, 0, 0, 0, 1] rfl Kx ?_
 refine Zm ?_
 refine rf_indexA (n := 1) (sz := 1) (j := 1) rfl rfl rfl rfl Tryz.underlying53 Kx (by decide) rfl ?_
 simp only [qz]
 refine rf_load rfl rfl rfl Tryz.underlying3 rfl (fun w hw => (Kn.hd0 hw).at rfl) ?_
 simp only [qz]
 refine rf_sub rfl rfl rfl rfl (wrap_ok Ox Ox) ?_
 simp only [qz]
 refine rf_indexA (n := 1) (sz := 1) (j := 1) rfl rfl rfl rfl Tryz.underlying53 Kx (by decide) rfl ?_
 simp only [qz]
 refine rf_store rfl rfl Kx rfl rfl (UpdR.here _ _ _ Nl) Nz ?_
 simp only [qz]
 refine rg_nil (ek_block (ek_next ?_))
 refine wk_region [0, 0] rfl Kx ?_
 simp only [qy]
 refine rf_add (r := 2) rfl rfl rfl rfl (by decide) ?_
 refine Zm ?_
 refine rg_nil (ek_again (wk_seq ?_))
 refine wk_region [0] rfl Kx ?_
 simp only [qy]
 refine rf_lss (b := true) rfl rfl rfl rfl (by decide) ?_
 simp only [qz]
 refine rg_nil (ek_next (wk_seq (wk_cond_t rfl (wk_skip (ek_next (wk_seq (wk_block (wk_seq ?_))))))))
 refine wk_region [0, 0] rfl Kx ?_
 refine Zm ?_
 refine rg_nil (ek_next ?_)
 refine wk_region [0, 0, 0, 0, 0, 0, 1] rfl Kx ?_
 refine Zm ?_
 refine rf_indexA (n := 2) (sz := 1) (j := 2) rfl rfl rfl rfl Tryz.underlying53 Kx (by decide) rfl ?_
 simp only [qz]
 refine rf_load rfl rfl rfl Tryz.underlying3 rfl (fun w hw => (Kn.hd0 hw).at rfl) ?_
 simp only [qz]
 refine rf_sub rfl rfl rfl rfl (wrap_ok Ox Ox) ?_
 simp only [qz]
 refine rf_indexA (n := 2) (sz := 1) (j := 2) rfl rfl rfl rfl Tryz.underlying53 Kx (by decide) rfl ?_
 simp only [qz]
 refine rf_store rfl rfl Kx rfl rfl (UpdR.here _ _ _ Nl) Nz ?_
 simp only [qz]
 refine rg_nil (ek_block (ek_next ?_))
 refine wk_region [0, 0] rfl Kx ?_
 simp only [qy]
 refine rf_add (r := 3) rfl rfl rfl rfl (by decide) ?_
 refine Zm ?_
 refine rg_nil (ek_again (wk_seq ?_))
 refine wk_region [0] rfl Kx ?_
 simp only [qy]
 refine rf_lss (b := true) rfl rfl rfl rfl (by decide) ?_
 simp only [qz]
 refine rg_nil (ek_next (wk_seq (wk_cond_t rfl (wk_skip (ek_next (wk_seq (wk_block (wk_seq ?_))))))))
 refine wk_region [0, 0] rfl Kx ?_
 refine Zm ?_
 refine rg_nil (ek_next ?_)
 refine wk_region [0, 0, 0, 0, 0, 0, 1] rfl Kx ?_
 refine Zm ?_
 refine rf_indexA (n := 3) (sz := 1) (j := 3) rfl rfl rfl rfl Tryz.underlying53 Kx (by decide) rfl ?_
 simp only [qz]
 refine rf_load rfl rfl rfl Tryz.underlying3 rfl (fun w hw => (Kn.hd0 hw).at rfl) ?_
 simp only [qz]
 refine rf_sub rfl rfl rfl rfl (wrap_ok Ox Ox) ?_
 simp only [qz]
 refine rf_indexA (n := 3) (sz := 1) (j := 3) rfl rfl rfl rfl Tryz.underlying53 Kx (by decide) rfl ?_
 simp only [qz]
 refine rf_store rfl rfl Kx rfl rfl (UpdR.here _ _ _ Nl) Nz ?_
 simp only [qz]
 refine rg_nil (ek_block (ek_next ?_))
 refine wk_region [0, 0] rfl Kx ?_
 simp only [qy]
 refine rf_add (r := 4) rfl rfl rfl rfl (by decide) ?_
 refine Zm ?_
 refine rg_nil (ek_again (wk_seq ?_))
 refine wk_region [0] rfl Kx ?_
 simp only [qy]
 refine rf_lss (b := false) rfl rfl rfl rfl (by decide) ?_
 simp only [qz]
 refine rg_nil (ek_next (wk_seq (wk_cond_f rfl (wk_exit (ek_then_exit (ek_then_exit (ek_block_exit (ek_next (wk_seq ?_)))))))))
 refine wk_region [0, 0, 0] rfl Kx ?_
 simp only [qy]
 refine rf_loadR (n := 4) rfl rfl rfl Tryz.underlying53 rfl Kx (fun w hw => Kn.hd0 (Kn.tl hw)) rfl rfl ?_
 simp only [qz]
 refine rf_loadR (n := 4) rfl rfl rfl Tryz.underlying53 rfl Kx (fun w hw => Kn.hd0 hw) rfl rfl ?_
 simp only [qz]
 refine rf_eqA4 rfl rfl rfl rfl ?_
 simp only [qz]
 refine rg_nil (ek_next ?_)
 refine wk_cond (t := _) rfl (fun h4 => ?_) (fun h4 => ?_)
 ·replace h4 := of_decide_eq_true h4
  refine wk_seq ?_; refine wk_region [0, 0] rfl Kx ?_; refine Zm ?_; refine rg_nil (ek_next (wk_ret (ek_block_ret (ek_then_ret (ek_then_ret (ek_block_ret (ek_then_ret ?_))))))); refine ek_ret (fun w hw => ⟨rfl, _, res_t _ rfl, ?_⟩); (try simp only [qz])
  have e := match_at (x := x) (y := y) (show n < 4 by omega) hc2 (okM_t2 (by unfold wtE; omega) h4)
  exact ⟨by rw [e], hw.below⟩
 replace h4 := of_decide_eq_false h4
 refine wk_skip (ek_block (ek_next ?_))
 refine wk_region [0, 0] rfl Kx ?_
 simp only [qy]
 refine rf_add rfl rfl rfl rfl (wrap_ok Ox Ox) ?_
 refine Zm ?_
 refine rg_nil ?_
 refine ek_sub (sk _ (sc _ (sc _ (sc _ sn)))) ?_
 refine ek_roundF (4 - (n + 1)) Ox Kx ?_
 exact ⟨n + 1, rfl, by rfl, by rfl, by omega, (fun j hj => if e : j = n then e ▸ okM_f2 (by unfold wtE; omega) h4 else hc2 j Ox)⟩
def wrS (l : List Nm) (f : Nat → Nm) (k : Nat) : List Nm := (List.range l.length).map fun j => if j < k then f j else nm l j
theorem wrS_len (l : List Nm) (f : Nat → Nm) (k : Nat) : (wrS l f k).length = l.length := by simp [wrS]
theorem wrS_nm {l : List Nm} {f : Nat → Nm} {k j : Nat} (h : j < l.length) : nm (wrS l f k) j = if j < k then f j else nm l j := by
  show ((wrS l f k).getD j _) = _
  unfold wrS
  rw [List.getD_eq_getElem?_getD, List.getElem?_map, List.getElem?_range h]; rfl
theorem wrS_zero (l : List Nm) (f : Nat → Nm) : wrS l f 0 = l := by
  refine List.ext_getElem (wrS_len l f 0) fun j h1 h2 => ?_
  have e := wrS_nm (l := l) (f := f) (k := 0) h2
  rw [if_neg Ox] at e
  unfold nm El.at at e
  rw [List.getD_eq_getElem?_getD, List.getD_eq_getElem?_getD, List.getElem?_eq_getElem h1, List.getElem?_eq_getElem h2] at e
  exact e
theorem wrS_set {l : List Nm} {f : Nat → Nm} {k : Nat} (h : k < l.length) : (wrS l f k).set k (f k) = wrS l f (k + 1) := by
  refine List.ext_getElem (by rw [List.length_set, wrS_len, wrS_len]) fun j h1 h2 => ?_
  have hj : j < l.length := by rw [wrS_len] at h2; exact h2
  have e1 := wrS_nm (l := l) (f := f) (k := k) hj
  have e2 := wrS_nm (l := l) (f := f) (k := k + 1) hj
  unfold nm El.at at e1 e2
  rw [List.getD_eq_getElem?_getD, List.getElem?_eq_getElem (by rw [wrS_len]; exact hj)] at e1; rw [List.getD_eq_getElem?_getD, List.getElem?_eq_getElem h2] at e2; simp only [Option.getD_some] at e1 e2; rw [List.getElem_set, e2]
  by_cases e : k = j
  · subst e; rw [if_pos rfl, if_pos Ox]
  · rw [if_neg e, e1]
    by_cases hlt : j < k
    · rw [if_pos hlt, if_pos Ox]
    · rw [if_neg hlt, if_neg Ox]
theorem sw_get {x y : RW} {A C : List RW} {i : Nat} : (A ++ y :: x :: C)[i]? = (A ++ x :: y :: C)[swq A.length i]? := by
  rcases (by omega : i < A.length ∨ i = A.length ∨ i = A.length + 1 ∨ A.length + 2 ≤ i) with h | h | h | h
  · rw [swq_o Ox Ox, List.getElem?_append_left h, List.getElem?_append_left h]
  · subst h; rw [swq_p, List.getElem?_append_right (Nat.le_refl _), List.getElem?_append_right Ox]; simp
  · subst h; rw [swq_q, List.getElem?_append_right Ox, List.getElem?_append_right (Nat.le_refl _)]; simp
  · rw [swq_o Ox Ox, List.getElem?_append_right Ox, List.getElem?_append_right Ox]
    obtain ⟨m, hm⟩ : ∃ m, i - A.length = m + 2 := ⟨i - A.length - 2, by omega⟩
    rw [hm]; rfl
theorem ap_one {x : RW} {A C : List RW} {i : Nat} {q : RW} (h : (A ++ x :: C)[i]? = some q) : i = A.length ∧ q = x ∨ i ≠ A.length ∧ ∀ x', (A ++ x' :: C)[i]? = some q := by
  rcases (by omega : i < A.length ∨ i = A.length ∨ A.length + 1 ≤ i) with h1 | h1 | h1
  · refine .inr ⟨by omega, fun x' => ?_⟩
    rw [List.getElem?_append_left h1] at h ⊢; exact h
  · subst h1
    rw [List.getElem?_append_right (Nat.le_refl _), Nat.sub_self] at h
    exact .inl ⟨rfl, (Option.some.inj h).symm⟩
  · refine .inr ⟨by omega, fun x' => ?_⟩; rw [List.getElem?_append_right Ox] at h ⊢
    obtain ⟨m, hm⟩ : ∃ m, i - A.length = m + 1 := ⟨i - A.length - 1, by omega⟩
    rw [hm] at h ⊢; exact h
theorem ap_two {x y : RW} {A C : List RW} {i : Nat} {q : RW} (h : (A ++ x :: y :: C)[i]? = some q) : i = A.length ∧ q = x ∨ i = A.length + 1 ∧ q = y ∨ i ≠ A.length ∧ i ≠ A.length + 1 ∧ ∀ x' y', (A ++ x' :: y' :: C)[i]? = some q := by
  rcases (by omega : i < A.length ∨ i = A.length ∨ i = A.length + 1 ∨ A.length + 2 ≤ i) with h1 | h1 | h1 | h1
  · refine .inr (.inr ⟨by omega, by omega, fun x' y' => ?_⟩)
    rw [List.getElem?_append_left h1] at h ⊢; exact h
  · subst h1
    rw [List.getElem?_append_right (Nat.le_refl _), Nat.sub_self] at h
    exact .inl ⟨rfl, (Option.some.inj h).symm⟩
  · subst h1
    rw [List.getElem?_append_right Ox, show A.length + 1 - A.length = 1 by omega] at h
    exact .inr (.inl ⟨rfl, (Option.some.inj h).symm⟩)
  · refine .inr (.inr ⟨by omega, by omega, fun x' y' => ?_⟩); rw [List.getElem?_append_right Ox] at h ⊢
    obtain ⟨m, hm⟩ : ∃ m, i - A.length = m + 2 := ⟨i - A.length - 2, by omega⟩
    rw [hm] at h ⊢; exact h
theorem at_one {x : RW} {A C : List RW} : (A ++ x :: C)[A.length]? = some x := by rw [List.getElem?_append_right (Nat.le_refl _), Nat.sub_self]; rfl
theorem at_two {x y : RW} {A C : List RW} : (A ++ x :: y :: C)[A.length + 1]? = some y := by rw [List.getElem?_append_right Ox, show A.length + 1 - A.length = 1 by omega]; rfl
theorem at_oneP {x : RW} {A C : List RW} {p : Nat} (h : A.length = p) : (A ++ x :: C)[p]? = some x := h ▸ at_one
theorem at_twoP {x y : RW} {A C : List RW} {p : Nat} (h : A.length = p) : (A ++ x :: y :: C)[p + 1]? = some y := h ▸ at_two
theorem cross_set {N p : Nat} {A C : List RW} {b c b' c' : Nat} {l l' : List Nm} {r r' ro : List Value} (hA : A.length = p) :
    (((rwV N (A ++ ⟨b, c, l, r⟩ :: ⟨b', c', l', r'⟩ :: C) ++ ro).set p (.slice (some ⟨b', 0, none⟩) N c')).set (p + 1) (.slice (some ⟨b, 0, none⟩) N c)) = rwV N (A ++ ⟨b', c', l', r'⟩ :: ⟨b, c, l, r⟩ :: C) ++ ro := by
  subst hA
  have hl : (A.map (RW.val N)).length = A.length := List.length_map ..
  simp only [rwV, List.map_append, List.map_cons, List.append_assoc, List.cons_append]; rw [List.set_append_right _ _ (by rw [hl]; exact Nat.le_refl _), hl, Nat.sub_self, List.set_cons_zero, List.set_append_right _ _ (by rw [hl]; omega), hl, show A.length + 1 - A.length = 0 + 1 by omega, List.set_cons_succ, List.set_cons_zero]
  rfl
theorem go_sz {N : Nat} {rs : List RW} {ro : List Value} {i : Nat} (h : i < rs.length) (v : Value) : i + [v].length ≤ (rwV N rs ++ ro).toArray.size := by
  rw [List.size_toArray, List.length_append, List.length_map]
  show i + 1 ≤ _
  omega
theorem go_sz2 {N : Nat} {rs : List RW} {ro : List Value} {i j : Nat} (h : i < rs.length) (v v' : Value) : i + [v].length ≤ ((rwV N rs ++ ro).set j v').toArray.size := by
  rw [List.size_toArray, List.length_set, List.length_append, List.length_map]
  show i + 1 ≤ _
  omega
section
variable {N gw go oc : Nat} {z : Zt} {L : List It} {ro : List Value} {ia : Option Addr} {ic : Nat} {u : List Blk}
theorem rw_swap {A C : List RW} {x y : RW} : (rwB (A ++ x :: y :: C)).Perm (rwB (A ++ y :: x :: C)) := ((List.Perm.swap _ _ _).append_left A).map _
theorem WS.crossed {p : Nat} {A C : List RW} {x y : RW} (hA : A.length = p) (hl : (A ++ x :: y :: C).length = N) (hp : p + 1 < N) (hoc : N ≤ oc) (hlen : ∀ q ∈ A ++ x :: y :: C, q.l.length = N)
    (hval : ∀ i q, (A ++ x :: y :: C)[i]? = some q → ∀ k, k < N → nm q.l k = z i k) (hO : OwnT u (.slice ia L.length ic) L) (hok : ∀ i k, i < N → k < N → (z i k).Ok) :
    WS N gw (crZ p z) L ((gw, .cells #[.slice (some ⟨go, 0, none⟩) N oc, .slice ia L.length ic] 49) :: (go, .cells (rwV N (A ++ y :: x :: C) ++ ro).toArray 22) :: (rwB (A ++ y :: x :: C) ++ (u ++ []))) :=
  ⟨go, oc, ro, A ++ y :: x :: C, ia, ic, u, rfl, by rw [← hl]; simp, hoc, fun q hq => hlen q (by simp at hq ⊢; rcases hq with h | h | h | h <;> simp [h]), fun i q hq k hk => by
    rw [sw_get] at hq
    subst hA
    exact hval _ q hq k hk, hO, fun i k hi hk => hok _ k (swq_lt hp hi) hk⟩
theorem WS.wrote {p : Nat} {A C : List RW} {b c : Nat} {l : List Nm} {r : List Value} {f : Nat → Nm} {z' : Zt} (hA : A.length = p) (hl : (A ++ ⟨b, c, l, r⟩ :: C).length = N) (hoc : N ≤ oc) (hlen : ∀ q ∈ A ++ ⟨b, c, l, r⟩ :: C, q.l.length = N)
    (hval : ∀ i q, (A ++ ⟨b, c, l, r⟩ :: C)[i]? = some q → ∀ k, k < N → nm q.l k = z i k) (hO : OwnT u (.slice ia L.length ic) L) (hok : ∀ i k, i < N → k < N → (z' i k).Ok) (hf : ∀ k, k < N → f k = z' p k) (hz : ∀ i k, i ≠ p → i < N → k < N → z' i k = z i k) :
    WS N gw z' L ((gw, .cells #[.slice (some ⟨go, 0, none⟩) N oc, .slice ia L.length ic] 49) :: (go, .cells (rwV N (A ++ ⟨b, c, l, r⟩ :: C) ++ ro).toArray 22) :: (rwB A ++ (b, .cells (NmE.flat (wrS l f N) ++ r).toArray 55) :: (rwB C ++ (u ++ [])))) := by
  have hll : l.length = N := hlen ⟨b, c, l, r⟩ (by simp)
  refine ⟨go, oc, ro, A ++ ⟨b, c, wrS l f N, r⟩ :: C, ia, ic, u, ?_, by rw [← hl]; simp, hoc, fun q hq => ?_, fun i q hq k hk => ?_, hO, hok⟩
  · rw [rw_one, List.append_assoc, List.cons_append]
    have e : rwV N (A ++ ⟨b, c, l, r⟩ :: C) = rwV N (A ++ ⟨b, c, wrS l f N, r⟩ :: C) := by unfold rwV; rw [List.map_append, List.map_append, List.map_cons, List.map_cons]; rfl
    rw [e]
  · rcases List.mem_append.1 hq with h | h
    · exact hlen q (List.mem_append_left _ h)
    · rcases List.mem_cons.1 h with rfl | h
      · exact (wrS_len l f N).trans hll
      · exact hlen q (List.mem_append_right _ (List.mem_cons_of_mem _ h))
  · have hiN : i < N := by
      rcases Nat.lt_or_ge i (A ++ ⟨b, c, wrS l f N, r⟩ :: C).length with h | h
      · rw [← hl]; simpa using h
      · rw [List.getElem?_eq_none h] at hq; cases hq
    rcases ap_one hq with ⟨e1, e2⟩ | ⟨e1, e2⟩
    · subst e2 e1
      show nm (wrS l f N) k = _
      rw [wrS_nm Ox, if_pos hk, hf k hk, hA]
    · rw [hval i q (e2 _) k hk, hz i k Ox hiN hk]
theorem WS.wrote2 {p : Nat} {A C : List RW} {b c b1 c1 : Nat} {l l1 : List Nm} {r r1 : List Value} {f g : Nat → Nm} {z' : Zt} (hA : A.length = p) (hl : (A ++ ⟨b, c, l, r⟩ :: ⟨b1, c1, l1, r1⟩ :: C).length = N) (hoc : N ≤ oc) (hlen : ∀ q ∈ A ++ ⟨b, c, l, r⟩ :: ⟨b1, c1, l1, r1⟩ :: C, q.l.length = N)
    (hval : ∀ i q, (A ++ ⟨b, c, l, r⟩ :: ⟨b1, c1, l1, r1⟩ :: C)[i]? = some q → ∀ k, k < N → nm q.l k = z i k) (hO : OwnT u (.slice ia L.length ic) L) (hok : ∀ i k, i < N → k < N → (z' i k).Ok) (hf : ∀ k, k < N → f k = z' p k) (hg : ∀ k, k < N → g k = z' (p + 1) k) (hz : ∀ i k, i ≠ p → i ≠ p + 1 → i < N → k < N → z' i k = z i k) :
    WS N gw z' L ((gw, .cells #[.slice (some ⟨go, 0, none⟩) N oc, .slice ia L.length ic] 49) :: (go, .cells (rwV N (A ++ ⟨b, c, l, r⟩ :: ⟨b1, c1, l1, r1⟩ :: C) ++ ro).toArray 22) :: (rwB A ++ (b, .cells (NmE.flat (wrS l f N) ++ r).toArray 55) :: (b1, .cells (NmE.flat (wrS l1 g N) ++ r1).toArray 55) :: (rwB C ++ (u ++ [])))) := by
  have hll : l.length = N := hlen ⟨b, c, l, r⟩ (by simp)
  have hll1 : l1.length = N := hlen ⟨b1, c1, l1, r1⟩ (by simp)
  refine ⟨go, oc, ro, A ++ ⟨b, c, wrS l f N, r⟩ :: ⟨b1, c1, wrS l1 g N, r1⟩ :: C, ia, ic, u, ?_, by rw [← hl]; simp, hoc, fun q hq => ?_, fun i q hq k hk => ?_, hO, hok⟩
  · rw [rw_two, List.append_assoc, List.cons_append, List.cons_append]
    have e : rwV N (A ++ ⟨b, c, l, r⟩ :: ⟨b1, c1, l1, r1⟩ :: C) = rwV N (A ++ ⟨b, c, wrS l f N, r⟩ :: ⟨b1, c1, wrS l1 g N, r1⟩ :: C) := by
      unfold rwV; rw [List.map_append, List.map_append, List.map_cons, List.map_cons, List.map_cons, List.map_cons]; rfl
    rw [e]
  · rcases List.mem_append.1 hq with h | h
    · exact hlen q (List.mem_append_left _ h)
    · rcases List.mem_cons.1 h with rfl | h
      · exact (wrS_len l f N).trans hll
      · rcases List.mem_cons.1 h with rfl | h
        · exact (wrS_len l1 g N).trans hll1
        · exact hlen q (List.mem_append_right _ (List.mem_cons_of_mem _ (List.mem_cons_of_mem _ h)))
  · have hiN : i < N := by
      rcases Nat.lt_or_ge i (A ++ ⟨b, c, wrS l f N, r⟩ :: ⟨b1, c1, wrS l1 g N, r1⟩ :: C).length with h | h
      · rw [← hl]; simpa using h
      · rw [List.getElem?_eq_none h] at hq; cases hq
    rcases ap_two hq with ⟨e1, e2⟩ | ⟨e1, e2⟩ | ⟨e1, e2, e3⟩
    · subst e2 e1
      show nm (wrS l f N) k = _
      rw [wrS_nm Ox, if_pos hk, hf k hk, hA]
    · subst e2 e1
      show nm (wrS l1 g N) k = _
      rw [wrS_nm Ox, if_pos hk, hg k hk, hA]
    · rw [hval i q (e3 _ _) k hk, hz i k Ox Ox hiN hk]
end
theorem amHalve_ok (z : Nm) (n : Int) (hz : z.Ok) (h0 : 0 ≤ n) (h1 : n ≤ 100) (w : World) : Calls Tryz.prog 97 #[nmV z, .int .i64 n] w fun e w' => e = .returned (numV (z.halve n)) ∧ Below w.heap.size w w' := by
 obtain ⟨hk0, hk1⟩ := (⟨hz.k0, hz.k1⟩ : 0 ≤ z.k ∧ z.k ≤ 40)
 go_enter Tryz.func97, Tryz.ntmps97
 refine wk_start ?_
 refine wk_seq ?_
 refine wk_region [1, 1, 0] rfl Kx ?_
 simp only [qy]
 refine Rgn fun g1 => ?_
 simp only [qz]
 refine Rgn fun g2 => ?_
 refine Zm ?_
 refine rg_nil (ek_next (wk_seq (wk_block (wk_seq ?_))))
 refine wk_region [0, 1, 0, 0] rfl Kx ?_
 simp only [qy]
 refine rf_loadR (n := 5) rfl rfl rfl Tryz.underlying55 rfl Kx (fun w hw => Kn.hd0 (Kn.tl hw)) rfl rfl ?_
 simp only [qz]
 apply rg_pure Rx Kx
 case hargs => exact Ax
 case h => exact fun w hw => by have := amvalid_any z w; rw [okB_yes hz] at this; exact this
 case hz => exact Nz
 simp only [qz]
 refine rf_not rfl rfl rfl ?_
 refine Zm ?_
 refine rg_nil (ek_next (wk_cond_f rfl (wk_seq ?_)))
 refine wk_region [0, 0, 0, 0, 0, 0, 0] rfl Kx ?_
 refine Zm ?_
 refine rfb_lss rfl rfl rfl rfl ?_
 intro x h1
 obtain rfl : x = false := by (refine h1.symm.trans ?_; exact decide_eq_false Ox)
 clear h1
 refine Zm ?_
 apply rg_soft_g
 case hg => rfl
 case hy => (intro w hw; go_simp; (try go_bits); exact Yld.mk _ _)
 simp only [qz]
 refine rfb_gtr rfl rfl rfl rfl ?_
 intro x h2
 obtain rfl : x = false := by (refine h2.symm.trans ?_; exact decide_eq_false Ox)
 clear h2
 simp only [qz]
 refine rf_pick rfl rfl rfl ?_
 refine Zm ?_
 refine rg_nil (ek_next (wk_cond_f rfl (wk_skip (ek_block (ek_next (wk_seq ?_))))))
 refine wk_region [0, 0, 0, 0, 0, 0, 0, 1, 0, 0, 1, 0] rfl Kx ?_
 simp only [qy]
 refine rf_field (n := 3) (j := 0) rfl rfl rfl Tryz.underlying55 rfl Kx rfl ?_
 simp only [qz]
 refine rf_loadR (n := 4) rfl rfl rfl Tryz.underlying53 rfl Kx (fun w hw => Kn.hd0 (Kn.tl hw)) rfl rfl ?_
 simp only [qz]
 refine rf_field (n := 0) (j := 4) rfl rfl rfl Tryz.underlying55 rfl Kx rfl ?_
 simp only [qz]
 refine rf_load rfl rfl rfl Tryz.underlying3 rfl (fun w hw => (Kn.hd0 (Kn.tl hw)).at rfl) ?_
 refine Zm ?_
 refine rf_add rfl rfl rfl rfl (wrap_ok Ox Ox) ?_
 simp only [qz]
 refine rf_build (cs := fun a => #[cellAt (a.eval (.tmp 20)) 0, cellAt (a.eval (.tmp 20)) 1, cellAt (a.eval (.tmp 20)) 2, cellAt (a.eval (.tmp 20)) 3, a.eval (.tmp 24)]) rfl rfl Kx ?_
 simp only [qz]
 apply rg_num Rx Kx
 case hargs => exact Ax
 case h => exact fun w hw => result_any ⟨z.a, z.b, z.c, z.d, z.k + n⟩ (by have := Nm.fit_mono hz.fit (show (1000000000 : Int) ≤ 4611686018427387903 by omega); exact ⟨this.a0, this.a1, this.b0, this.b1, this.c0, this.c1, this.d0, this.d1⟩) (by have := hz.k1; dsimp only; omega) w
 case hz => exact Nz
 case hc => exact (fun c h => mk_err h)
 ·intro hr3
  simp only [qz]; refine rf_extract rfl rfl rfl rfl ?_; simp only [qz]; refine rf_extract rfl rfl rfl rfl ?_; simp only [qz]; refine rf_storeR (n := 5) rfl rfl Kx rfl rfl (UpdR.here _ _ _ Nl) Nz ?_; simp only [qz, Nat.reduceAdd]; refine Zm ?_; refine rg_nil (ek_next (wk_ret ?_)); refine ek_ret (fun w hw => ⟨rfl, _, run_results2 rfl rfl (Kn.hd0 hw) Tryz.underlying55 rfl Kx, ?_⟩); (try simp only [qz])
  exact ⟨by rw [show z.halve n = _ from hr3]; rfl, hw.below⟩
 intro z3 hr3
 simp only [qz]
 refine rf_extract rfl rfl rfl rfl ?_
 simp only [qz]
 refine rf_extract rfl rfl rfl rfl ?_
 simp only [qz]
 refine rf_storeR (n := 5) rfl rfl Kx rfl rfl (UpdR.here _ _ _ Nl) Nz ?_
 simp only [qz, Nat.reduceAdd]
 refine Zm ?_
 refine rg_nil (ek_next (wk_ret ?_))
 refine ek_ret (fun w hw => ⟨rfl, _, run_results2 rfl rfl (Kn.hd0 hw) Tryz.underlying55 rfl Kx, ?_⟩)
 (try simp only [qz])
 exact ⟨by rw [show z.halve n = _ from hr3]; rfl, hw.below⟩
theorem errI_mt : ∀ r : NR, numV r = .tuple #[nmV (mtR r), .int .i64 (match r with | .ok _ => 0 | .error c => c)]
  | .ok _ => rfl
  | .error _ => rfl
def errI (r : NR) : Int := match r with
  | .ok _ => 0
  | .error c => c
theorem amAdd_mt (x y : Nm) (hx : x.Ok) (hy : y.Ok) (w : World) : Calls Tryz.prog 98 #[nmV x, nmV y] w fun e w' => e = .returned (.tuple #[nmV (mtR (x.add y)), .int .i64 (errI (x.add y))]) ∧ Below w.heap.size w w' :=
  (amAdd_ok x y hx hy w).mono fun e w' ⟨h1, h2⟩ => ⟨h1.trans (by rw [errI_mt]; rfl), h2⟩
theorem amHalve_mt (z : Nm) (hz : z.Ok) (w : World) : Calls Tryz.prog 97 #[nmV z, .int .i64 1] w fun e w' => e = .returned (.tuple #[nmV (mtR (z.halve 1)), .int .i64 (errI (z.halve 1))]) ∧ Below w.heap.size w w' :=
  (amHalve_ok z 1 hz Ox Ox w).mono fun e w' ⟨h1, h2⟩ => ⟨h1.trans (by rw [errI_mt]; rfl), h2⟩
theorem amTurn2 (z : Nm) (hz : z.Ok) (w : World) : Calls Tryz.prog 42 #[nmV z, .int .i64 2] w fun e w' => e = .returned (.tuple #[nmV z.rot.rot, .int .i64 0]) ∧ Below w.heap.size w w' := amTurn_ok z 2 hz w
theorem amTurnM (z : Nm) (m : Nat) (hm : m < 8) (hz : z.Ok) (w : World) : Calls Tryz.prog 42 #[nmV z, .int .i64 (m : Int)] w fun e w' => e = .returned (.tuple #[nmV (turnM m z), .int .i64 0]) ∧ Below w.heap.size w w' := by
  have h := amTurn_ok z (m : Int) hz w
  have e : Nm.turn ((m : Int) % 8).toNat z = turnM m z := by
    rw [show ((m : Int) % 8).toNat = m by omega]; clear h hm hz
    induction m with
    | zero => rfl
    | succ m ih => show (Nm.turn m z).rot = (turnM m z).rot; rw [ih]
  rw [e] at h
  exact h
theorem mtR_ok {x : Nm} (h0 : 0 ≤ x.k) : (mtR x.mk').Ok := by
  cases h : x.mk' with
  | ok v => exact (mk_ok h0 h).1
  | error c => exact zero_ok
theorem cX_ok {x y : Nm} (hx : x.Ok) (hy : y.Ok) : (mtR (x.add y.rot.rot)).Ok ∧ (cX x y).Ok := by
 have h1 : (mtR (x.add y.rot.rot)).Ok := mtR_ok (addR_k hx.k0)
 exact ⟨h1, mtR_ok (by show 0 ≤ (mtR (x.add y.rot.rot)).k + 1; have := h1.k0; omega)⟩
theorem cY_ok {x y : Nm} (hx : x.Ok) (hy : y.Ok) : (mtR (x.rot.rot.add y)).Ok ∧ (cY x y).Ok := by
 have h1 : (mtR (x.rot.rot.add y)).Ok := mtR_ok (addR_k (show 0 ≤ x.k from hx.k0))
 exact ⟨h1, mtR_ok (by show 0 ≤ (mtR (x.rot.rot.add y)).k + 1; have := h1.k0; omega)⟩
theorem wcross_any (N p gw : Nat) (z : Zt) (L : List It) (s : List Blk) (hS : WS N gw z L s) (hN : N ≤ 6) (hL : L.length ≤ 100000) (hp : p + 1 < N) (w : World) (hK : Kn w (s.map (·.1)) s w) : Calls Tryz.prog 75 #[.pointer (some ⟨gw, 0, none⟩), .int .i64 (p : Int)] w fun e w' => e = .returned (.tuple #[]) ∧ ∃ s', Kn w (s.map (·.1)) s' w' ∧ WS N gw (crZ p z) (L ++ [cross p]) s' := by
 obtain ⟨go, oc, ro, rs, ia, ic, u, rfl, hrl, hoc, hlen, hval, hO, hok⟩ := hS
 obtain ⟨A, b, c, l, r, b1, c1, l1, r1, C, rfl, hA⟩ := split2 (p := p) (rs := rs) Ox
 have hpl : p + 1 < (A ++ ⟨b, c, l, r⟩ :: ⟨b1, c1, l1, r1⟩ :: C).length := by omega
 go_enter Tryz.func75, Tryz.ntmps75
 refine wk_startF hK ?_
 refine wk_seq ?_
 refine wk_draws_m (hz1 := (sc _ (sk _ (List.Sublist.append_left (List.Sublist.append_left sn _) _)))) [(0, 0), (1, 0), (2, 0), (3, 0), (4, 0), (5, 3), (6, 3), (7, 3), (8, 0), (9, 3), (10, 3), (11, 0), (12, 0), (13, 0), (14, 0), (15, 0), (16, 0), (17, 0), (18, 0), (19, 3), (20, 3), (21, 3), (22, 0), (23, 3), (24, 3), (25, 0), (26, 0), (27, 2), (28, 0), (29, 1)] 27 Kx Kx (fun c d v a w h => by cases d <;> exact h) ?_
 simp only [List.map_cons, List.map_nil, List.getD_cons_zero, List.getD_cons_succ]
 refine Zm ?_
 refine Zk ?_
 refine rf_field (n := 0) (j := 0) rfl rfl rfl Tryz.underlying49 rfl Kx rfl ?_
 simp only [qz]
 refine rf_load rfl rfl rfl Tryz.underlying47 rfl (fun w hw => (Kn.hd0 hw).at rfl) ?_
 refine Zm ?_
 refine rg_moveP ?_
 simp only [qz]
 apply rg_softP
 case hy => (intro w hw; go_simp; (try go_bits); exact Yld.mk _ _)
 simp only [qz]
 refine rf_field (n := 0) (j := 0) rfl rfl rfl Tryz.underlying49 rfl Kx rfl ?_
 simp only [qz]
 refine rf_load rfl rfl rfl Tryz.underlying47 rfl (fun w hw => (Kn.hd0 hw).at rfl) ?_
 simp only [qz]
 refine rg_moveP ?_
 simp only [qz]
 refine rf_add rfl rfl rfl rfl (wrap_ok Ox Ox) ?_
 refine Zm ?_
 refine Zk ?_
 refine rf_field (n := 0) (j := 0) rfl rfl rfl Tryz.underlying49 rfl Kx rfl ?_
 simp only [qz]
 refine rf_load rfl rfl rfl Tryz.underlying47 rfl (fun w hw => (Kn.hd0 hw).at rfl) ?_
 refine Zm ?_
 refine rf_add rfl rfl rfl rfl (wrap_ok Ox Ox) ?_
 simp only [qz]
 refine rf_indexS (n := p + 1) (sz := 1) (j := p + 1) rfl rfl rfl rfl Tryz.underlying47 Kx Ox Ox Ox ?_
 simp only [qz]
 refine rf_load (v := .slice (some ⟨b1, 0, none⟩) N c1) rfl rfl rfl Tryz.underlying22 rfl (fun w hw => Kn.outer (Kn.tl hw) (at_twoP hA)) ?_
 simp only [qz]
 refine rg_moveP ?_
 simp only [qz]
 apply rg_softP
 case hy => (intro w hw; go_simp; (try go_bits); exact Yld.mk _ _)
 simp only [qz]
 refine rf_field (n := 0) (j := 0) rfl rfl rfl Tryz.underlying49 rfl Kx rfl ?_
 simp only [qz]
 refine rf_load rfl rfl rfl Tryz.underlying47 rfl (fun w hw => (Kn.hd0 hw).at rfl) ?_
 simp only [qz]
 refine rg_moveP ?_
 simp only [qz]
 refine rf_indexS (n := p) (sz := 1) (j := p) rfl rfl rfl rfl Tryz.underlying47 Kx Ox Ox Ox ?_
 simp only [qz]
 refine rf_load (v := .slice (some ⟨b, 0, none⟩) N c) rfl rfl rfl Tryz.underlying22 rfl (fun w hw => Kn.outer (Kn.tl hw) (at_oneP hA)) ?_
 simp only [qz]
 refine rf_indexS (n := p) (sz := 1) (j := p) rfl rfl rfl rfl Tryz.underlying47 Kx Ox Ox Ox ?_
 simp only [qz]
 have hs1 := go_sz (N := N) (ro := ro) (i := p) (rs := A ++ ⟨b, c, l, r⟩ :: ⟨b1, c1, l1, r1⟩ :: C) Ox (.slice (some ⟨b1, 0, none⟩) N c1)
 refine rf_storeM rfl rfl Kx rfl rfl (UpdR.there _ (UpdR.here _ _ _ hs1)) (sc _ (sk _ (List.Sublist.append_left (List.Sublist.append_left sn _) _))) ?_
 simp only [qz]
 refine rf_indexS (n := p + 1) (sz := 1) (j := p + 1) rfl rfl rfl rfl Tryz.underlying47 Kx Ox Ox Ox ?_
 simp only [qz]
 have hs2 := go_sz2 (N := N) (ro := ro) (i := p + 1) (j := p) (rs := A ++ ⟨b, c, l, r⟩ :: ⟨b1, c1, l1, r1⟩ :: C) Ox (.slice (some ⟨b, 0, none⟩) N c) (.slice (some ⟨b1, 0, none⟩) N c1)
 refine rf_store rfl rfl Kx rfl rfl (UpdR.there _ (UpdR.here _ _ _ hs2)) (fun _ h => by cases h; exact (sc _ (sk _ (List.Sublist.append_left (List.Sublist.append_left sn _) _)))) ?_
 simp only [qz]
 rw [cross_set hA]
 refine rg_nil (ek_next ?_)
 refine wk_region [0, 0, 0, 0, 0, 0, 0, 0, 1, 1, 0, 0, 1] rfl Kx ?_
 refine Zm ?_
 refine Zk ?_
 refine rf_field (n := 0) (j := 1) rfl rfl rfl Tryz.underlying49 rfl Kx rfl ?_
 simp only [qz]
 refine rf_load rfl rfl rfl Tryz.underlying26 rfl (fun w hw => (Kn.hd0 hw).at rfl) ?_
 refine Zm ?_
 refine rf_add rfl rfl rfl rfl (wrap_ok Ox Ox) ?_
 simp only [qz]
 refine rf_build (cs := fun a => #[a.eval (.const (.int .i64 3)), a.eval (.tmp 38), .int .i64 0, .string ⟨#[]⟩]) rfl rfl Kx ?_
 simp only [qz]
 refine rg_newS (cs := ?_) (ty := ?_) (n := 1) (c := 1) Rx (fun w => ?_) Nz (fun g1 => ?_); rotate_left 2
 focus (go_simp; rfl)
 simp only [qz]
 refine rg_appendT (xs := L) (x := cross p) Rx rfl hO rfl Ox ((((((((((List.Perm.refl _).append_left _).trans (List.perm_append_comm_assoc (rwB (A ++ ⟨b, c, l, r⟩ :: ⟨b1, c1, l1, r1⟩ :: C)) u _)).cons _).trans (List.perm_middle (l₁ := u)).symm).cons _).trans (List.perm_middle (l₁ := u)).symm).cons _).trans (List.perm_middle (l₁ := u)).symm).trans ((List.Perm.refl _).append_left _)) (fun w hw => Kn.hd0 hw) Nz (fun uQ vQ hOQ => ?_)
 obtain ⟨aQ, cQ, rfl, -⟩ := Own.val hOQ
 simp only [qz]
 refine Zk ?_
 refine rf_field (n := 0) (j := 1) rfl rfl rfl Tryz.underlying49 rfl Kx rfl ?_
 simp only [qz]
 refine rf_store rfl rfl Kx rfl rfl (UpdR.app _ (UpdR.there _ (UpdR.here _ _ _ Nl))) Nz ?_
 simp only [qz]
 refine rg_nil ?_
 refine ek_perm ((((((List.Perm.refl _).cons _).trans (List.Perm.swap _ _ _)).append_left _).trans (List.perm_middle (l₁ := uQ))).trans (((((((List.Perm.refl _).cons _).trans (List.Perm.swap _ _ _)).append_left _).trans (List.perm_middle (l₁ := uQ))).trans (((((((List.Perm.refl _).cons _).trans (List.perm_middle (l₁ := (rwB (A ++ ⟨b, c, l, r⟩ :: ⟨b1, c1, l1, r1⟩ :: C)))).symm).append_left _).trans (List.perm_append_comm_assoc uQ (rwB (A ++ ⟨b, c, l, r⟩ :: ⟨b1, c1, l1, r1⟩ :: C)) _)).trans ((List.Perm.refl _).append_left _)).cons _)).cons _)) ?_
 refine ek_sub (sc _ (sc _ (List.Sublist.append_left (List.Sublist.append_left (sk _ sn) _) _))) ?_
 refine ek_norm (fun w hw => ⟨rfl, _, res_0 rfl, ?_⟩)
 (try simp only [qz])
 have hW := WS.crossed (gw := gw) (go := go) (oc := oc) (ro := ro) (z := z) (L := L ++ [cross p]) (ia := aQ) (ic := cQ) (u := uQ) hA hrl hp hoc hlen hval hOQ hok
 exact ⟨(by first | rfl | trivial), _, hw.perm (((rw_swap.append_right _).cons _).cons _), hW⟩
theorem wphase_any (N p gw : Nat) (z : Zt) (L : List It) (s : List Blk) (hS : WS N gw z L s) (hN : N ≤ 6) (hL : L.length ≤ 100000) (hp : p < N) (n : Int) (m : Nat) (hm : n % 8 = (m : Int)) (w : World) (hK : Kn w (s.map (·.1)) s w) : Calls Tryz.prog 43 #[.pointer (some ⟨gw, 0, none⟩), .int .i64 (p : Int), .int .i64 n] w fun e w' => e = .returned (.tuple #[]) ∧ ∃ s', Kn w (s.map (·.1)) s' w' ∧ WS N gw (phZ p m z) (if m = 0 then L else L ++ [phsI ((p : Int) + 1) m]) s' := by
 obtain ⟨go, oc, ro, rs, ia, ic, u, rfl, hrl, hoc, hlen, hval, hO, hok⟩ := hS
 obtain ⟨A, b, c, l, r, C, rfl, hA⟩ := split1 (p := p) (rs := rs) Ox
 have hll : l.length = N := hlen ⟨b, c, l, r⟩ (by simp)
 rw [rw_one, List.append_assoc, List.cons_append] at hK ⊢
 go_enter Tryz.func43, Tryz.ntmps43
 refine wk_startF hK ?_
 refine wk_seq (wk_seq ?_)
 refine wk_region [0, 0, 0] rfl Kx ?_
 refine Zm ?_
 refine rf_and (r := (m : Int)) rfl rfl rfl rfl ((and7 n).trans hm) ?_
 refine Zm ?_
 refine rg_nil (ek_next (wk_seq ?_))
 refine wk_region [0, 0] rfl Kx ?_
 refine Zm ?_
 refine rfb_eql rfl rfl rfl rfl ?_
 intro x h1
 cases x
 ·(try simp only [qd, ne_eq] at h1)
  simp only [qz]; refine rg_nil (ek_next (wk_cond_f rfl (wk_skip (ek_next (wk_seq (wk_seq ?_)))))); refine wk_region [0, 0, 0, 0, 0, 0, 0, 0, 0] rfl Kx ?_; refine Zm ?_; refine Zk ?_; refine rf_field (n := 0) (j := 0) rfl rfl rfl Tryz.underlying49 rfl Kx rfl ?_; simp only [qz]; refine rf_load rfl rfl rfl Tryz.underlying47 rfl (fun w hw => (Kn.hd0 hw).at rfl) ?_; refine Zm ?_; refine rf_indexS (n := p) (sz := 1) (j := p) rfl rfl rfl rfl Tryz.underlying47 Kx Ox Ox Ox ?_
  simp only [qz]; refine rf_load (v := .slice (some ⟨b, 0, none⟩) N c) rfl rfl rfl Tryz.underlying22 rfl (fun w hw => Kn.outer (Kn.tl hw) (at_oneP hA)) ?_; simp only [qz]; refine rf_len rfl rfl rfl Tryz.underlying22 ?_; refine Zm ?_; refine rg_nil (ek_next (wk_block ?_)); refine wk_loopF [6, 7, 20, 21, 22, 23, 24, 25, 26, 27, 28, 29, 30, 31, 32, 33, 34, 35, 36, 37, 38, 39, 40] (fun mz f s => ∃ (k : Nat), f 20 = .int .i64 k ∧ s = ((gw, .cells #[.slice (some ⟨go, 0, none⟩) N oc, .slice ia L.length ic] 49) :: ((go, .cells (rwV N (A ++ ⟨b, c, l, r⟩ :: C) ++ ro).toArray 22) :: (rwB A ++ ((b, .cells (NmE.flat (wrS l (fun k => turnM m (z p k)) k) ++ r).toArray 55) :: (rwB C ++ (u ++ [])))))) ∧ mz = N - k ∧ k ≤ N) ((fun (k : Nat) => N - k) (0)) ?_ Kx ?_
  ·exact ⟨0, rfl, (by rw [wrS_zero]), rfl, by omega⟩
  rintro mz f1 s ⟨k, hs1_20, rfl, hn, hc1⟩
  simp only [Act.putF, List.foldl_cons, List.foldl_nil, hs1_20, Act.put, Act.eval, q1, q2, q3, q4, q5, q6, q7, q8, q9, q10, q11, q12, q13, q14, q15, q16, q17, q18, Nat.reduceAdd, Bool.not_true, Bool.not_false]; clear hs1_20; refine wk_seq ?_; refine wk_region [0] rfl Kx ?_; simp only [qy]; refine rfb_lss rfl rfl rfl rfl ?_; intro x h2; cases x
  ·(try simp only [qd, ne_eq] at h2)
   simp only [qz]; refine rg_nil (ek_next (wk_seq (wk_cond_f rfl (wk_exit (ek_then_exit (ek_then_exit (ek_block_exit (ek_next ?_)))))))); refine wk_region [0, 0, 0, 0, 0, 0, 0, 0, 0, 1, 1, 0, 0, 1] rfl Kx ?_; refine Zm ?_; refine Zk ?_; refine rf_field (n := 0) (j := 1) rfl rfl rfl Tryz.underlying49 rfl Kx rfl ?_; simp only [qz]; refine rf_load rfl rfl rfl Tryz.underlying26 rfl (fun w hw => (Kn.hd0 hw).at rfl) ?_; refine Zm ?_
   refine rf_add rfl rfl rfl rfl (wrap_ok Ox Ox) ?_; refine Zm ?_; refine rf_build (cs := fun a => #[a.eval (.const (.int .i64 1)), a.eval (.tmp 47), a.eval (.tmp 48), .string ⟨#[]⟩]) rfl rfl Kx ?_; simp only [qz]
   refine rg_newS (cs := ?_) (ty := ?_) (n := 1) (c := 1) Rx (fun w => ?_) Nz (fun g1 => ?_); rotate_left 2
   focus (go_simp; rfl)
   simp only [qz]; refine rg_appendT (xs := L) (x := phsI ((p : Int) + 1) m) Rx rfl hO rfl Ox ((((((((((((((List.Perm.refl _).append_left _).trans (List.perm_append_comm_assoc (rwB C) u _)).cons _).trans (List.perm_middle (l₁ := u)).symm).append_left _).trans (List.perm_append_comm_assoc (rwB A) u _)).cons _).trans (List.perm_middle (l₁ := u)).symm).cons _).trans (List.perm_middle (l₁ := u)).symm).cons _).trans (List.perm_middle (l₁ := u)).symm).trans ((List.Perm.refl _).append_left _)) (fun w hw => Kn.hd0 hw) Nz (fun uQ vQ hOQ => ?_)
   obtain ⟨aQ, cQ, rfl, -⟩ := Own.val hOQ
   simp only [qz]; refine Zk ?_; refine rf_field (n := 0) (j := 1) rfl rfl rfl Tryz.underlying49 rfl Kx rfl ?_; simp only [qz]; refine rf_store rfl rfl Kx rfl rfl (UpdR.app _ (UpdR.there _ (UpdR.here _ _ _ Nl))) Nz ?_; simp only [qz]; refine rg_nil ?_; refine ek_perm ((((((List.Perm.refl _).cons _).trans (List.Perm.swap _ _ _)).append_left _).trans (List.perm_middle (l₁ := uQ))).trans (((((((List.Perm.refl _).cons _).trans (List.Perm.swap _ _ _)).append_left _).trans (List.perm_middle (l₁ := uQ))).trans (((((((List.Perm.refl _).cons _).trans (List.perm_middle (l₁ := (rwB A))).symm).append_left _).trans (List.perm_append_comm_assoc uQ (rwB A) _)).trans (((((((List.Perm.refl _).cons _).trans (List.Perm.swap _ _ _)).append_left _).trans (List.perm_middle (l₁ := uQ))).trans (((((((List.Perm.refl _).cons _).trans (List.perm_middle (l₁ := (rwB C))).symm).append_left _).trans (List.perm_append_comm_assoc uQ (rwB C) _)).trans ((List.Perm.refl _).append_left _)).cons _)).append_left _)).cons _)).cons _)) ?_
   refine ek_sub (sc _ (sc _ (List.Sublist.append_left (sc _ (List.Sublist.append_left (List.Sublist.append_left (sk _ sn) _) _)) _))) ?_; refine ek_norm (fun w hw => ⟨rfl, _, res_0 rfl, ?_⟩); (try simp only [qz])
   obtain rfl : k = N := by omega
   rw [if_neg Ox]
   have hW := WS.wrote (gw := gw) (go := go) (oc := oc) (ro := ro) (z := z) (z' := phZ p m z) (L := L ++ [phsI ((p : Int) + 1) m]) (ia := aQ) (ic := cQ) (u := uQ) (f := (fun k => turnM m (z p k))) hA hrl hoc hlen hval hOQ (fun i k' hi hk' => by unfold phZ; split; exact turnM_ok (hok i k' hi hk') m; exact hok i k' hi hk') (fun k' hk' => (if_pos rfl).symm) (fun i k' hi _ _ => if_neg hi)
   exact ⟨(by first | rfl | trivial), _, hw, hW⟩
  (try simp only [qd, ne_eq] at h2); simp only [qz]; refine rg_nil (ek_next (wk_seq (wk_cond_t rfl (wk_skip (ek_next (wk_seq (wk_block (wk_seq ?_))))))))
  have hkN : k < N := by omega
  have hkl : k < l.length := by rw [hll]; exact hkN
  have hzk : nm (wrS l (fun k => turnM m (z p k)) k) k = z p k := by rw [wrS_nm hkl, if_neg Ox]; exact hval p ⟨b, c, l, r⟩ (at_oneP hA) k hkN
  have hok1 := hok p k Ox hkN
  refine wk_region [0, 0, 0, 1, 0, 1] rfl Kx ?_; refine Zm ?_; refine rf_indexS (n := k) (sz := 5) (j := 0 + k * 5) rfl rfl rfl rfl Tryz.underlying22 Kx Ox Ox rfl ?_; simp only [qz]; refine rf_loadC (n := 5) (vs := [.int .i64 (z p k).a, .int .i64 (z p k).b, .int .i64 (z p k).c, .int .i64 (z p k).d, .int .i64 (z p k).k]) rfl rfl rfl Tryz.underlying55 rfl Kx rfl (fun w hw => atN_range (by have := nm_hd (Kn.hd0 (Kn.tlU (Kn.tl (Kn.tl hw)))) (k := k) (by rw [wrS_len]; omega); rw [hzk] at this; exact this)) ?_
  simp only [qz]
  refine Rgn fun g2 => ?_
  refine Zm ?_; refine rf_storeR (n := 5) rfl rfl Kx rfl rfl (UpdR.here _ _ _ Nl) Nz ?_; simp only [qz, Nat.reduceAdd]; refine rg_nil (ek_next ?_); refine wk_draws_m (hz1 := (sc _ (sc _ (sc _ (List.Sublist.append_left (sk _ (List.Sublist.append_left (List.Sublist.append_left sn _) _)) _))))) [(0, 0), (1, 0), (2, 0), (3, 0), (4, 0), (5, 0), (6, 0), (7, 0), (8, 0), (9, 0), (10, 1), (11, 0), (12, 0), (13, 1), (14, 0), (15, 2)] 15 Kx Kx (fun c d v a w h => by cases d <;> exact h) ?_
  simp only [List.map_cons, List.map_nil, List.getD_cons_zero, List.getD_cons_succ]; refine Zm ?_; refine Zk ?_; refine rf_field (n := 0) (j := 0) rfl rfl rfl Tryz.underlying49 rfl Kx rfl ?_; simp only [qz]; refine rf_load rfl rfl rfl Tryz.underlying47 rfl (fun w hw => (Kn.hd0 (Kn.tl hw)).at rfl) ?_; refine Zm ?_; refine rf_indexS (n := p) (sz := 1) (j := p) rfl rfl rfl rfl Tryz.underlying47 Kx Ox Ox Ox ?_; simp only [qz]
  refine rf_load (v := .slice (some ⟨b, 0, none⟩) N c) rfl rfl rfl Tryz.underlying22 rfl (fun w hw => Kn.outer (Kn.tl (Kn.tl hw)) (at_oneP hA)) ?_; refine Zm ?_; refine rf_loadR (n := 5) rfl rfl rfl Tryz.underlying55 rfl Kx (fun w hw => Kn.hd0 hw) rfl rfl ?_; refine Zm ?_; apply rg_pure Rx Kx
  case hargs => exact Ax
  case h => exact fun w hw => amTurnM (z p k) m Ox hok1 w
  case hz => exact (fun _ h => by cases h; exact (sc _ (sc _ (sc _ (List.Sublist.append_left (sc _ (List.Sublist.append_left (List.Sublist.append_left sn _) _)) _)))))
  simp only [qz]; refine rf_extract rfl rfl rfl rfl ?_; simp only [qz]; refine rf_extract rfl rfl rfl rfl ?_; simp only [qz]; apply rg_pure Rx Kx
  case hargs => exact Ax
  case h => exact fun w hw => must_any (turnM m (z p k)) 0 w
  case hz => exact (fun _ h => by cases h; exact (sc _ (sc _ (sc _ (List.Sublist.append_left (sc _ (List.Sublist.append_left (List.Sublist.append_left sn _) _)) _)))))
  simp only [qz]; refine rf_indexS (n := k) (sz := 5) (j := 0 + k * 5) rfl rfl rfl rfl Tryz.underlying22 Kx Ox Ox rfl ?_; simp only [qz]
  have hszb := nm_szM (wrS l (fun k => turnM m (z p k)) k) k (turnM m (z p k)) r (by rw [wrS_len]; exact hkl)
  refine rf_storeRM (n := 5) (vs := nmC (turnM m (z p k))) rfl rfl Kx rfl rfl (UpdR.there _ (UpdR.there _ (UpdR.there _ (UpdR.app _ (UpdR.here _ _ _ hszb))))) (sc _ (sc _ (sc _ (List.Sublist.append_left (sk _ (List.Sublist.append_left (List.Sublist.append_left sn _) _)) _)))) ?_; rw [nm_flM (wrS l (fun k => turnM m (z p k)) k) k (turnM m (z p k)) r (by rw [wrS_len]; exact hkl), wrS_set (f := (fun k => turnM m (z p k))) hkl]
  simp only [qz]; refine rg_nil (ek_block (ek_next ?_)); refine wk_region [0, 0] rfl Kx ?_; simp only [qy]; refine rf_add rfl rfl rfl rfl (wrap_ok Ox Ox) ?_; refine Zm ?_; refine rg_nil ?_; refine ek_sub (sk _ (sc _ (sc _ (List.Sublist.append_left (sc _ (List.Sublist.append_left (List.Sublist.append_left sn _) _)) _)))) ?_; refine ek_roundF (N - (k + 1)) Ox Kx ?_
  exact ⟨k + 1, rfl, by rfl, by rfl, by omega⟩
 (try simp only [qd, ne_eq] at h1)
 simp only [qz]
 refine rg_nil (ek_next (wk_cond_t rfl (wk_ret (ek_then_ret ?_))))
 refine ek_ret (fun w hw => ⟨rfl, _, res_0 rfl, ?_⟩)
 (try simp only [qz])
 obtain rfl : m = 0 := by omega
 rw [if_pos rfl]
 refine ⟨(by first | rfl | trivial), _, hw, go, oc, ro, _, ia, ic, u, (by rw [rw_one, List.append_assoc, List.cons_append]), hrl, hoc, hlen, fun i q hq k hk => (hval i q hq k hk).trans (by unfold phZ; split <;> rfl), hO, fun i k hi hk => by unfold phZ; split; exact hok i k hi hk; exact hok i k hi hk⟩
end Go.Proofs.YtccbinnlnkpplaaGreat
