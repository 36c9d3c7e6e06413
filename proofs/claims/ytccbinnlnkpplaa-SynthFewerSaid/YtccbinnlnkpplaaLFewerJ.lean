/- Texts in one: PgU, PgV, Zs, PgK, Fw1, Pg7, Us2, RtR, Orr, Pg8, Fw2, Pg6. -/
import Derived.Test.YtccbinnlnkpplaaLFewerI
import Derived.OrdersIn
namespace Go.Proofs.Ytccbinnlnkpplaa
set_option linter.all false

theorem empU : (⟨#[]⟩ : ByteArray).toList.isEmpty = true := by
  unfold ByteArray.toList
  unfold ByteArray.toList.loop
  rfl
theorem fit_crossU {N p : Nat} (hp : p + 1 < N) : fitB N (cross p) = true := by
  have e : wd (cross p) = 2 := by unfold wd cross; rw [if_neg (show ¬ ((3 : Int) = 1) by decide), if_pos (show (3 : Int) = 2 ∨ (3 : Int) = 3 by decide), if_pos ⟨rfl, empU⟩]
  exact fitB_true ⟨by rw [e]; decide, by show (1 : Int) ≤ (p : Int) + 1; omega, by rw [e]; show (p : Int) + 1 ≤ _; omega⟩
theorem fit_cplU {N p : Nat} (hp : p + 1 < N) : fitB N (cplI ((p : Int) + 1)) = true := by
  have e : wd (cplI ((p : Int) + 1)) = 2 := by unfold wd cplI; rw [if_neg (show ¬ ((2 : Int) = 1) by decide), if_pos (show (2 : Int) = 2 ∨ (2 : Int) = 3 by decide), if_pos ⟨rfl, empU⟩]
  exact fitB_true ⟨by rw [e]; decide, by show (1 : Int) ≤ (p : Int) + 1; omega, by rw [e]; show (p : Int) + 1 ≤ _; omega⟩
theorem fit_phsU {N p m : Nat} (hp : p < N) (h0 : m ≠ 0) (h7 : m < 8) : fitB N (phsI ((p : Int) + 1) m) = true := by
  have e : wd (phsI ((p : Int) + 1) m) = 1 := by unfold wd phsI; rw [if_pos (show (1 : Int) = 1 from rfl), if_pos ⟨by show (1 : Int) ≤ (m : Int); omega, by show (m : Int) ≤ 7; omega, empU⟩]
  exact fitB_true ⟨by rw [e]; decide, by show (1 : Int) ≤ (p : Int) + 1; omega, by rw [e]; show (p : Int) + 1 ≤ _; omega⟩
theorem itQ_cross (p : Nat) (m : Tb) : itQ (cross p) m = crQ p m := by
  have e : ((cross p).at_ - 1).toNat = p := by show ((p : Int) + 1 - 1).toNat = p; omega
  unfold itQ
  rw [if_neg (show ¬ (cross p).kind = 1 by show ¬ (3 : Int) = 1; decide), if_pos (show (cross p).kind = 3 from rfl), e]
theorem itQ_cpl (p : Nat) (m : Tb) : itQ (cplI ((p : Int) + 1)) m = cpQ p m := by
  have e : ((cplI ((p : Int) + 1)).at_ - 1).toNat = p := by show ((p : Int) + 1 - 1).toNat = p; omega
  unfold itQ
  rw [if_neg (show ¬ (cplI ((p : Int) + 1)).kind = 1 by show ¬ (2 : Int) = 1; decide), if_neg (show ¬ (cplI ((p : Int) + 1)).kind = 3 by show ¬ (2 : Int) = 3; decide), e]
theorem itQ_phs (p n : Nat) (hn : n < 8) (m : Tb) : itQ (phsI ((p : Int) + 1) n) m = phQ p (omP n) m := by
  have e : ((phsI ((p : Int) + 1) n).at_ - 1).toNat = p := by show ((p : Int) + 1 - 1).toNat = p; omega
  have e2 : ((phsI ((p : Int) + 1) n).n % 8).toNat = n := by show ((n : Int) % 8).toNat = n; omega
  unfold itQ
  rw [if_pos (show (phsI ((p : Int) + 1) n).kind = 1 from rfl), e, e2]
theorem phQ_zero (p : Nat) (m : Tb) : phQ p (omP 0) m = m := by
  funext i k
  unfold phQ
  split
  · show 1 * m i k = m i k; rw [Q4.one_mul]
  · rfl
theorem mem_snoc {L : List It} {x : It} {P : It → Prop} (h : ∀ y ∈ L, P y) (hx : P x) : ∀ y ∈ L ++ [x], P y := fun y hy => by
  rcases List.mem_append.1 hy with h' | h'
  · exact h y h'
  · rcases List.mem_singleton.1 h' with rfl; exact hx
/-- What is kept in a column; the items that are still to come are paid by the measure. -/
structure Rn (N col : Nat) (B : Int) (M0 : Tb) (W : Nat) (z : Zt) (L : List It) : Prop where
  pi : PI N col z
  bnd : Bnd N col B z
  act : EqT N (vt z) (actQ L M0)
  fit : ∀ x ∈ L, fitB N x = true
  len : L.length + 2 * muZ N col z ≤ W
theorem bs_at (b : Nat) (z : Zt) : ∀ j, j ≤ b → bsZ b z j (b - j) = z b ∧ ∀ i, i < b - j → bsZ b z j i = z i
  | 0, _ => ⟨rfl, fun _ _ => rfl⟩
  | j + 1, hj => by
    obtain ⟨h1, h2⟩ := bs_at b z j (by omega)
    have e : b - (j + 1) = b - 1 - j := by omega
    rw [e]
    refine ⟨?_, fun i hi => ?_⟩
    · show bsZ b z j (swq (b - 1 - j) (b - 1 - j)) = z b
      rw [swq_p, show b - 1 - j + 1 = b - j by omega]
      exact h1
    · show bsZ b z j (swq (b - 1 - j) i) = z i
      rw [swq_o (by omega) (by omega)]
      exact h2 i (by omega)
theorem bs_keep {N col b : Nat} {B : Int} {M0 : Tb} {z : Zt} {L : List It} (h : PI N col z) (hb : Bnd N col B z) (ha : EqT N (vt z) (actQ L M0)) (hf : ∀ x ∈ L, fitB N x = true) (hbN : b < N) : ∀ j, col + j ≤ b →
    PI N col (bsZ b z j) ∧ Bnd N col B (bsZ b z j) ∧ muZ N col (bsZ b z j) ≤ muZ N col z ∧ EqT N (vt (bsZ b z j)) (actQ (L ++ bsL b j) M0) ∧ ∀ x ∈ L ++ bsL b j, fitB N x = true
  | 0, _ => ⟨h, hb, Nat.le_refl _, by rw [show L ++ bsL b 0 = L from List.append_nil L]; exact ha, by rw [show L ++ bsL b 0 = L from List.append_nil L]; exact hf⟩
  | j + 1, hj => by
    obtain ⟨h1, h2, h3, h4, h5⟩ := bs_keep h hb ha hf hbN j (by omega)
    obtain ⟨c1, c2, c3⟩ := h1.cross h2 (show col ≤ b - 1 - j by omega) (show b - 1 - j + 1 < N by omega)
    have hx := fit_crossU (N := N) (p := b - 1 - j) (by omega)
    refine ⟨c1, c2, Nat.le_trans c3 h3, ?_, ?_⟩
    · rw [bsL, ← List.append_assoc, actQ_snoc, itQ_cross]
      have := itQ_congr hx h4
      rw [itQ_cross, itQ_cross] at this
      exact this
    · rw [bsL, ← List.append_assoc]
      exact mem_snoc h5 hx
theorem phs_keep {N p m : Nat} {M0 : Tb} {z : Zt} {L : List It} (ha : EqT N (vt z) (actQ L M0)) (hf : ∀ x ∈ L, fitB N x = true) (hp : p < N) (hm : m < 8) :
    EqT N (vt (phZ p m z)) (actQ (if m = 0 then L else L ++ [phsI ((p : Int) + 1) m]) M0) ∧ (∀ x ∈ (if m = 0 then L else L ++ [phsI ((p : Int) + 1) m]), fitB N x = true) ∧ (if m = 0 then L else L ++ [phsI ((p : Int) + 1) m]).length ≤ L.length + 1 := by
  by_cases h0 : m = 0
  · subst h0
    rw [if_pos rfl, ph_vt, phQ_zero]
    exact ⟨ha, hf, by omega⟩
  · rw [if_neg h0]
    have hx := fit_phsU (N := N) hp h0 hm
    refine ⟨?_, mem_snoc hf hx, by rw [List.length_append]; exact Nat.le_refl _⟩
    rw [actQ_snoc, itQ_phs p m hm, ph_vt]
    have := itQ_congr hx ha
    rw [itQ_phs p m hm, itQ_phs p m hm] at this
    exact this
theorem Rn.pair {N col W K : Nat} {B : Int} {M0 : Tb} {z z' : Zt} {L L' : List It} (h : Rn N col B M0 W z L) (hN : N ≤ 4) (hc : col < N) (hK : 0 < K) (hE : IsExp N col z K) (hP : PairR N col K z L z' L') :
    Rn N col B M0 W z' L' ∧ muZ N col z' < muZ N col z := by
  obtain ⟨pi, bnd, act, fit, len⟩ := h
  rcases hP with ⟨-, -, hno⟩ | ⟨a, b, hca, hab, hbN, hk0, hkb, rfl, rfl⟩
  · exfalso
    obtain ⟨a, ha, haN, hka⟩ := hE.2.2 (by omega)
    have hk : kindN (z a col) K ≠ 0 := by
      rcases kind_cases (z a col) K (by omega) with ⟨e, h1⟩ | ⟨e, -⟩ | ⟨e, -⟩ <;> omega
    obtain ⟨b, hb, hbN, hne, he⟩ := pi.pair hc hK hE ha haN hk
    rcases (by omega : a < b ∨ b < a) with hlt | hlt
    · exact hno a b ha hlt hbN hk he
    · exact hno b a hb hlt haN (by omega) he.symm
  · obtain ⟨c1, c2, c3, c4, c5⟩ := bs_keep pi bnd act fit hbN (b - (a + 1)) (by omega)
    obtain ⟨e1, e2⟩ := bs_at b z (b - (a + 1)) (by omega)
    rw [show b - (b - (a + 1)) = a + 1 by omega] at e1 e2
    have e3 := e2 a (by omega)
    have hlen := bsL_len b (b - (a + 1))
    generalize bsZ b z (b - (a + 1)) = y at *
    generalize bsL b (b - (a + 1)) = M at *
    have k1 : (z a col).k ≤ K := hE.2.1 a hca (by omega)
    have k2 : (z b col).k ≤ K := hE.2.1 b (by omega) hbN
    have s := c1.step (K := K) c2 hca (show a + 1 < N by omega) hK (by rw [e3]; exact k1) (by rw [e1]; exact k2) (by rw [e3, e1]; exact hkb.symm) (by rw [e3]; exact hk0)
    have ez : z a col = y a col := by rw [e3]
    rw [ez]
    obtain ⟨s1, s2, s3, s4⟩ := s
    have hm : (matchN (y a col) (y (a + 1) col) + 6) % 8 < 8 := Nat.mod_lt _ (by omega)
    generalize (matchN (y a col) (y (a + 1) col) + 6) % 8 = m at *
    obtain ⟨p1, p2, p3⟩ := phs_keep (p := a + 1) (m := m) c4 c5 (by omega) hm
    have hx := fit_cplU (N := N) (p := a) (by omega)
    refine ⟨⟨s1, s2, ?_, mem_snoc p2 hx, ?_⟩, by omega⟩
    · rw [actQ_snoc, itQ_cpl]
      have := itQ_congr hx p1
      rw [itQ_cpl, itQ_cpl] at this
      intro i k hi hk
      rw [s4 i k hi hk, ← this i k hi hk, ph_vt]
    · rw [List.length_append] at p3 ⊢
      show _ + 1 + _ ≤ _
      omega
/-- The end of a column: one number that is not 0. -/
theorem Rn.unit {N col W : Nat} {B : Int} {M0 : Tb} {z : Zt} {L : List It} (h : Rn N col B M0 W z L) (hc : col < N) (hE : ¬ 0 < expZ z col (N - col)) :
    ∃ a, col ≤ a ∧ a < N ∧ z a col ≠ Nm.zero ∧ (∀ i, i < N → i ≠ a → z i col = Nm.zero) := by
  have he := expZ_exp (N := N) (z := z) (show col ≤ N by omega)
  obtain ⟨a, h1, h2, -, h3, h4⟩ := h.pi.unit hc (fun i hi hiN => by have := he.2.1 i hi hiN; omega)
  exact ⟨a, h1, h2, h3, h4⟩
theorem Rn.beside {N col W a : Nat} {B : Int} {M0 : Tb} {z : Zt} {L : List It} (h : Rn N col B M0 W z L) (hN : N ≤ 4) (hc : col < N) (ha : col ≤ a) (haN : a < N) (hne : z a col ≠ Nm.zero) (hE : ¬ 0 < expZ z col (N - col)) :
    PI N col (bsZ a z (a - col)) ∧ Bnd N col B (bsZ a z (a - col)) ∧ EqT N (vt (bsZ a z (a - col))) (actQ (L ++ bsL a (a - col)) M0) ∧ (∀ x ∈ L ++ bsL a (a - col), fitB N x = true) ∧ (L ++ bsL a (a - col)).length ≤ W + 3 ∧
    (∃ n, n < 8 ∧ turnM n (bsZ a z (a - col) col col) = Nm.one) ∧ ∀ i, i < N → i ≠ col → bsZ a z (a - col) i col = Nm.zero := by
  obtain ⟨pi, bnd, act, fit, len⟩ := h
  have he := expZ_exp (N := N) (z := z) (show col ≤ N by omega)
  obtain ⟨c1, c2, c3, c4, c5⟩ := bs_keep pi bnd act fit haN (a - col) (by omega)
  obtain ⟨e1, e2⟩ := bs_at a z (a - col) (by omega)
  rw [show a - (a - col) = col by omega] at e1
  have hz : ∀ j, j ≤ a - col → ∀ i, col ≤ i → i < N → (bsZ a z j i col).k ≤ 0 := by
    intro j hj
    induction j with
    | zero => intro i hi hiN; have := he.2.1 i hi hiN; show (z i col).k ≤ 0; omega
    | succ j ih => intro i hi hiN; exact ih (by omega) _ (swq_ge (by omega) hi) (swq_lt (by omega) hiN)
  obtain ⟨a', h1, h2, h3, h4, h5⟩ := c1.unit hc (hz _ (Nat.le_refl _))
  have hlen := bsL_len a (a - col)
  have ea : a' = col := by
    refine Decidable.byContradiction fun hn => ?_
    have := h5 col hc (fun e => hn e.symm)
    rw [e1] at this
    exact hne this
  subst ea
  exact ⟨c1, c2, c4, c5, by rw [List.length_append, hlen]; omega, h3, h5⟩
theorem Rn.last {N col m : Nat} {B : Int} {M0 : Tb} {z : Zt} {L : List It} (hN : N ≤ col + 4) (hB : N = col + 4 → B ≤ 13) (hc : col < N) (pi : PI N col z) (bnd : Bnd N col B z) (act : EqT N (vt z) (actQ L M0)) (fit : ∀ x ∈ L, fitB N x = true)
    (hm : m < 8) (h1 : turnM m (z col col) = Nm.one) (h2 : ∀ i, i < N → i ≠ col → z i col = Nm.zero) :
    PI N (col + 1) (phZ col m z) ∧ Cb N (col + 1) (phZ col m z) ∧ EqT N (vt (phZ col m z)) (actQ (if m = 0 then L else L ++ [phsI ((col : Int) + 1) m]) M0) ∧
    (∀ x ∈ (if m = 0 then L else L ++ [phsI ((col : Int) + 1) m]), fitB N x = true) ∧ (if m = 0 then L else L ++ [phsI ((col : Int) + 1) m]).length ≤ L.length + 1 := by
  obtain ⟨c1, c2, -⟩ := pi.phase (n := m) bnd (Nat.le_refl col) hc
  obtain ⟨p1, p2, p3⟩ := phs_keep (p := col) (m := m) act fit hc hm
  refine ⟨c1.next hc ((if_pos rfl).trans h1) (fun i hi hne => (if_neg hne).trans (h2 i hi hne)), c2.next hB hN, p1, p2, p3⟩
end Go.Proofs.Ytccbinnlnkpplaa
namespace Go.Proofs.Ytccbinnlnkpplaa
set_option linter.all false

def halfI (x : It) : It := ⟨1, x.at_, 4, ⟨#[]⟩⟩
/-- The items that undo an item. -/
def invI (x : It) : List It := if x.kind = 1 then [⟨x.kind, x.at_, 8 - x.n, x.name⟩] else if x.kind = 2 then [halfI x, x, halfI x] else [x]
/-- What undoes the last items, the last one first. -/
def invS (xs : List It) : Nat → List It
  | 0 => []
  | j + 1 => invS xs j ++ invI (it xs (xs.length - 1 - j))
theorem invI_len (x : It) : 1 ≤ (invI x).length ∧ (invI x).length ≤ 3 := by
  unfold invI
  split
  · exact ⟨Nat.le_refl 1, by simp⟩
  · split
    · exact ⟨by simp, by simp⟩
    · exact ⟨by simp, by simp⟩
theorem invS_len (xs : List It) : ∀ j, (invS xs j).length ≤ 3 * j
  | 0 => Nat.le_refl _
  | j + 1 => by
    have h1 := invS_len xs j
    have h2 := (invI_len (it xs (xs.length - 1 - j))).2
    rw [invS, List.length_append]
    omega
theorem omP_add (a : Nat) : ∀ b, omP (a + b) = omP a * omP b
  | 0 => by show omP a = omP a * 1; rw [Q4.mul_one]
  | b + 1 => by show omQ * omP (a + b) = omP a * (omQ * omP b); rw [omP_add a b, ← Q4.mul_assoc, ← Q4.mul_assoc, Q4.mul_comm omQ]
theorem omP_four : omP 4 = -1 := by
  show omQ * (omQ * (omQ * (omQ * 1))) = -1
  apply Q4.ext' <;> simp only [omQ, Q4.ma, Q4.mb, Q4.mc, Q4.md, Q4.na, Q4.nb, Q4.nc, Q4.nd, Q4.oa, Q4.ob, Q4.oc, Q4.od] <;> grind
theorem omP_eight : omP 8 = 1 := by
  rw [show (8 : Nat) = 4 + 4 from rfl, omP_add, omP_four, Q4.neg_mul, Q4.one_mul, Q4.neg_neg]
theorem ph_inv {n : Nat} (h1 : n ≤ 8) (p : Nat) (m : Tb) : phQ p (omP (8 - n)) (phQ p (omP n) m) = m := by
  funext i k
  unfold phQ
  by_cases e : i = p
  · rw [if_pos e, if_pos e, ← Q4.mul_assoc, ← omP_add, show 8 - n + n = 8 by omega, omP_eight, Q4.one_mul]
  · rw [if_neg e, if_neg e]
theorem swq_swq (p i : Nat) : swq p (swq p i) = i := by
  by_cases h1 : i = p
  · subst h1; rw [swq_p, swq_q]
  · by_cases h2 : i = p + 1
    · subst h2; rw [swq_q, swq_p]
    · rw [swq_o h1 h2, swq_o h1 h2]
theorem cr_inv (p : Nat) (m : Tb) : crQ p (crQ p m) = m := by
  funext i k
  show m (swq p (swq p i)) k = m i k
  rw [swq_swq]
theorem cp_alg (a b : Q4) : -(hhQ * (-(hhQ * (a + imQ * b)) + imQ * (hhQ * (imQ * a + b)))) = a ∧ hhQ * (imQ * -(hhQ * (a + imQ * b)) + hhQ * (imQ * a + b)) = b := by
  constructor <;> apply Q4.ext' <;> simp only [hhQ, imQ, Q4.ma, Q4.mb, Q4.mc, Q4.md, Q4.aa, Q4.ab, Q4.ac, Q4.ad, Q4.na, Q4.nb, Q4.nc, Q4.nd] <;> grind
theorem cpQ_p (p k : Nat) (m : Tb) : cpQ p m p k = hhQ * (m p k + imQ * m (p + 1) k) := if_pos rfl
theorem cpQ_q (p k : Nat) (m : Tb) : cpQ p m (p + 1) k = hhQ * (imQ * m p k + m (p + 1) k) := by unfold cpQ; rw [if_neg (by omega), if_pos rfl]
theorem cpQ_o {p i : Nat} (h1 : i ≠ p) (h2 : i ≠ p + 1) (k : Nat) (m : Tb) : cpQ p m i k = m i k := by unfold cpQ; rw [if_neg h1, if_neg h2]
theorem phQ_p (p k : Nat) (u : Q4) (m : Tb) : phQ p u m p k = u * m p k := if_pos rfl
theorem phQ_o {p i : Nat} (h : i ≠ p) (k : Nat) (u : Q4) (m : Tb) : phQ p u m i k = m i k := if_neg h
theorem cp_inv (p : Nat) (m : Tb) : phQ p (omP 4) (cpQ p (phQ p (omP 4) (cpQ p m))) = m := by
  funext i k
  have n1 : ∀ x : Q4, omP 4 * x = -x := fun x => by rw [omP_four, Q4.neg_mul, Q4.one_mul]
  obtain ⟨h1, h2⟩ := cp_alg (m p k) (m (p + 1) k)
  by_cases e : i = p
  · subst e
    rw [phQ_p, n1, cpQ_p, phQ_p, phQ_o (by omega), n1, cpQ_p, cpQ_q]
    exact h1
  · by_cases e2 : i = p + 1
    · subst e2
      rw [phQ_o e, cpQ_q, phQ_p, phQ_o e, n1, cpQ_p, cpQ_q]
      exact h2
    · rw [phQ_o e, cpQ_o e e2, phQ_o e, cpQ_o e e2]
theorem itQ_half (x : It) (m : Tb) : itQ (halfI x) m = phQ (x.at_ - 1).toNat (omP 4) m := by
  unfold itQ
  rw [if_pos (show (halfI x).kind = 1 from rfl)]; rfl
theorem inv_act {N : Nat} {x : It} (hx : fitB N x = true) (m : Tb) : actQ (invI x) (itQ x m) = m := by
  unfold invI
  rcases it_kind hx with ⟨k1, -, h1, h7⟩ | ⟨k2, -⟩
  · rw [if_pos k1]
    show itQ ⟨x.kind, x.at_, 8 - x.n, x.name⟩ (itQ x m) = m
    unfold itQ
    rw [if_pos k1, if_pos (show (⟨x.kind, x.at_, 8 - x.n, x.name⟩ : It).kind = 1 from k1)]
    show phQ (x.at_ - 1).toNat (omP ((8 - x.n) % 8).toNat) _ = m
    rw [show ((8 - x.n) % 8).toNat = 8 - (x.n % 8).toNat by omega]
    exact ph_inv (by omega) _ m
  · have n1 : ¬ x.kind = 1 := by omega
    rw [if_neg n1]
    by_cases k3 : x.kind = 2
    · rw [if_pos k3]
      show itQ (halfI x) (itQ x (itQ (halfI x) (itQ x m))) = m
      rw [itQ_half, itQ_half]
      unfold itQ
      rw [if_neg n1, if_neg (by omega), if_neg n1, if_neg (by omega)]
      exact cp_inv _ m
    · rw [if_neg k3]
      show itQ x (itQ x m) = m
      unfold itQ
      rw [if_neg n1, if_pos (by omega), if_neg n1, if_pos (by omega)]
      exact cr_inv _ m
theorem invS_act {N : Nat} {xs : List It} (hf : ∀ x ∈ xs, fitB N x = true) (m : Tb) : ∀ j, j ≤ xs.length → actQ (invS xs j) (actQ xs m) = actQ (xs.take (xs.length - j)) m
  | 0, _ => by rw [Nat.sub_zero, List.take_length]; rfl
  | j + 1, hj => by
    have ih := invS_act hf m j (by omega)
    have e1 : xs.length - j = (xs.length - 1 - j) + 1 := by omega
    have e2 : xs.length - (j + 1) = xs.length - 1 - j := by omega
    show actQ (invS xs j ++ invI _) _ = _
    unfold actQ at ih ⊢
    rw [List.foldl_append, ih, e1, take_it (by omega), e2, List.foldl_append]
    exact inv_act (hf _ (it_mem (by omega))) _
theorem fit_ph {N : Nat} {x : It} (hx : fitB N x = true) {n : Int} {s : ByteArray} (hn : 1 ≤ n ∧ n ≤ 7) (hs : s.toList.isEmpty = true) : fitB N ⟨1, x.at_, n, s⟩ = true := by
  have h' := of_decide_eq_true hx
  have e : wd ⟨1, x.at_, n, s⟩ = 1 := by unfold wd; rw [if_pos rfl, if_pos ⟨hn.1, hn.2, hs⟩]
  have := wd_range x
  exact fitB_true ⟨by rw [e]; decide, h'.2.1, by rw [e]; show x.at_ ≤ _; omega⟩
theorem invI_fit {N : Nat} {x : It} (hx : fitB N x = true) : ∀ y ∈ invI x, fitB N y = true := by
  intro y hy
  unfold invI at hy
  have h' := of_decide_eq_true hx
  have hr := wd_range x
  split at hy
  · rename_i k1
    rcases List.mem_singleton.1 hy with rfl
    have h0 := h'.1
    unfold wd at h0
    rw [if_pos k1] at h0
    split at h0
    · rename_i hn
      have := fit_ph hx (n := 8 - x.n) (s := x.name) (by omega) hn.2.2
      rw [k1]; exact this
    · exact absurd rfl h0
  · split at hy
    · simp only [List.mem_cons, List.not_mem_nil, or_false] at hy
      rcases hy with rfl | rfl | rfl
      · exact fit_ph hx (by decide) empU
      · exact hx
      · exact fit_ph hx (by decide) empU
    · rcases List.mem_singleton.1 hy with rfl; exact hx
theorem invS_fit {N : Nat} {xs : List It} (hf : ∀ x ∈ xs, fitB N x = true) : ∀ j, j ≤ xs.length → ∀ y ∈ invS xs j, fitB N y = true
  | 0, _, _, h => by cases h
  | j + 1, hj, y, hy => by
    rcases List.mem_append.1 hy with h | h
    · exact invS_fit hf j (by omega) y h
    · exact invI_fit (hf _ (it_mem (by omega))) y h
/-- The table of the inverse circuit is the adjoint. -/
theorem inv_dag {N : Nat} {xs : List It} (hf : ∀ x ∈ xs, fitB N x = true) : EqT N (actQ (invS xs xs.length) dl) (fun i k => Q4.conj (actQ xs dl k i)) := fun i l hi hl => by
  have hV := invS_fit hf xs.length (Nat.le_refl _)
  have hU : UnR N (actQ xs dl) := unR_iff.2 (actQ_un hf (dl_un N))
  have h0 := invS_act hf dl xs.length (Nat.le_refl _)
  rw [Nat.sub_self, List.take_zero] at h0
  have h1 : ∀ k, sumQ N (fun j => actQ (invS xs xs.length) dl i j * actQ xs dl j k) = dl i k := fun k => by
    rw [← act_lin _ hV hi, h0]; rfl
  have h2 := mul_assocT (n := N) (fun i j => actQ (invS xs xs.length) dl i j) (actQ xs dl) (fun k l => Q4.conj (actQ xs dl l k)) i l
  rw [sumQ_congr fun k _ => by rw [h1 k], sumQ_dl _ hi] at h2
  rw [sumQ_congr fun j hj => by rw [hU j l hj hl], sumQ_dlr _ hl] at h2
  exact h2.symm
/-! ### Errors -/
theorem allOk_set {l : List Nm} (h : allOk l = true) (j : Nat) {z : Nm} (hz : z.Ok) : allOk (l.set j z) = true := by
  unfold allOk at h ⊢
  rw [List.all_eq_true] at h ⊢
  intro x hx
  rcases List.mem_or_eq_of_mem_set hx with h1 | h1
  · exact h x h1
  · rw [h1]; exact okB_iff.2 hz
theorem plcS_ok {N p m : Nat} {L l : List Nm} (hL : ∀ k, (nm L k).Ok) (hl : allOk l = true) : ∀ t, allOk (plcS N p m L l t) = true
  | 0 => hl
  | t + 1 => allOk_set (plcS_ok hL hl t) _ (hL t)
theorem itL_valid {N : Nat} (h1 : 1 ≤ N) (h6 : N ≤ 6) (x : It) : validB N (itL N x) = true := by
  refine validB_mk h1 h6 (itL_len h1 h6 x) (plcS_ok (fun k => ?_) (validB_true (idM_ok h1 h6)).choose_spec.2.2.2.2.2 _)
  have key : ∀ y ∈ ownL x, y.Ok := by
    intro y hy
    unfold ownL at hy
    split at hy
    · rcases List.mem_singleton.1 hy with rfl; rw [turn_M]; exact turnM_ok one_ok _
    · split at hy <;> simp only [List.mem_cons, List.not_mem_nil, or_false] at hy <;> rcases hy with rfl | rfl | rfl | rfl <;> exact okB_iff.1 (by decide)
  rcases Nat.lt_or_ge k (ownL x).length with h | h
  · exact key _ (NmE.at_mem h)
  · show ((ownL x).getD k Nm.zero).Ok
    rw [List.getD_eq_getElem?_getD, List.getElem?_eq_none h]; exact zero_ok
theorem matS_lim {N : Nat} {xs : List It} (h1 : 1 ≤ N) (h6 : N ≤ 6) (hf : ∀ x ∈ xs, fitB N x = true) : ∀ j, j ≤ xs.length → ∀ {c : Int}, matS N xs j = .error c → c = 4
  | 0, _, c, h => by cases h
  | j + 1, hj, c, h => by
    rw [matS] at h
    split at h
    · rename_i c' h0
      cases h
      exact matS_lim h1 h6 hf j (by omega) h0
    · rename_i l h0
      have hv := (matS_act h1 h6 hf j (by omega) h0).1
      unfold mulM at h
      rw [itL_valid h1 h6, hv, Bool.and_self, if_pos rfl, if_pos rfl] at h
      obtain ⟨t, ht, he⟩ := gather_err_mem h
      exact prodsR_code he
/-! ### The statement -/
theorem fits_of {n : Int} {xs : List It} (h : validI n xs = true) : ∃ N : Nat, n = N ∧ 1 ≤ N ∧ N ≤ 6 ∧ xs.length ≤ 5000 ∧ (∀ x ∈ xs, fitB N x = true) ∧ itemE n xs = 0 := by
  have h0 := h
  unfold validI at h
  rw [Bool.and_eq_true, Bool.and_eq_true, decide_eq_true_eq, decide_eq_true_eq, List.all_eq_true] at h
  obtain ⟨h1, h2, h3⟩ := h
  obtain ⟨N, rfl⟩ : ∃ N : Nat, n = N := ⟨n.toNat, by omega⟩
  exact ⟨N, rfl, by omega, by omega, h2, h3, by unfold itemE; rw [if_pos h1, if_pos h0]⟩
theorem itemE_fits {N : Nat} {xs : List It} (h1 : 1 ≤ N) (h6 : N ≤ 6) (hl : xs.length ≤ 5000) (hf : ∀ x ∈ xs, fitB N x = true) : itemE N xs = 0 := by
  have hv : validI N xs = true := by
    unfold validI
    rw [Bool.and_eq_true, Bool.and_eq_true, decide_eq_true_eq, decide_eq_true_eq, List.all_eq_true]
    exact ⟨by omega, hl, hf⟩
  unfold itemE
  rw [if_pos (by omega), if_pos hv]
theorem matO_S {N : Nat} {xs : List It} (h1 : 1 ≤ N) (h6 : N ≤ 6) (hl : xs.length ≤ 5000) (hf : ∀ x ∈ xs, fitB N x = true) : matO N xs = matS N xs xs.length := by
  unfold matO
  rw [if_pos (itemE_fits h1 h6 hl hf), Int.toNat_natCast]
theorem mat_facts {N : Nat} {xs : List It} {m : List Nm} (h1 : 1 ≤ N) (h6 : N ≤ 6) (hf : ∀ x ∈ xs, fitB N x = true) (h : matS N xs xs.length = .ok m) :
    validB N m = true ∧ unB N m = true ∧ EqT N (tb N m) (actQ xs dl) ∧ expo m ≤ cpls xs := by
  obtain ⟨hv, he⟩ := matS_act h1 h6 hf xs.length (Nat.le_refl _) h
  rw [List.take_length] at he
  refine ⟨hv, (unB_C hv).2 (unC_congr he (actQ_un hf (dl_un N))), he, expo_cpls hf hv he⟩
end Go.Proofs.Ytccbinnlnkpplaa
namespace Go.Proofs.Ytccbinnlnkpplaa
set_option linter.all false
open Go.RowKit

abbrev zs (xs : List Int) : List Value := xs.map (.int .i64 ·)
def OwnZ (u : List Blk) (v : Value) (xs : List Int) : Prop := Own 3 1 u v xs.length (zs xs)
theorem OwnZ.one {g : Nat} (x : Int) : OwnZ [(g, .cells #[.int .i64 x] 3)] (.slice (some ⟨g, 0, none⟩) 1 1) [x] :=
  Own.whole (cur := #[.int .i64 x]) rfl (by simp only [maxLen]; omega)
theorem Own.open1 {e n : Nat} {u : List Blk} {v : Value} {xs : List Value} (h : Own e 1 u v n xs) (hn : 0 < n) : ∃ g cap rest, u = [(g, .cells (xs ++ rest).toArray e)] ∧ v = .slice (some ⟨g, 0, none⟩) n cap ∧ xs.length = n := by
  obtain ⟨hl, ⟨rfl, rfl, h0⟩ | ⟨g, cap, cur, rfl, rfl, hc, hm, hs, ht⟩⟩ := h
  · omega
  · refine ⟨g, cap, cur.toList.drop (n * 1), ?_, rfl, by omega⟩
    rw [← ht, List.take_append_drop]
end Go.Proofs.Ytccbinnlnkpplaa
namespace Go.Proofs.Ytccbinnlnkpplaa
set_option linter.all false
open Go.RowKit

section
variable {R : Option Nat} {ops : Array Oper} {Q : Exit → Act → World → Prop} {B : World} {F : List Nat} {s0 : Option (List Blk × List Blk)} {P : Program}
variable {l : List (Oper × Nat)} {a : Act} {s : List Blk} {d : Option Tmp} {t : TypeId} {p : String} {af : Array Edge} {gd : Option (Nat × Bool)} {m : Nat}
/-- x[lo:hi:hi]. -/
theorem rf_slice3 {T : Nat} {x yl y y2 : Operand} {b off n lo hi len cap e sz : Nat} {k k' k2 : IntKind} {zl z z2 : Int} (hm : soft03 m = true) (hg : Region.wanted ⟨d, .slice T x (some yl) (some y) (some y2), t, p, af, gd⟩ (yielded ops a.tmps) = true)
    (hx : a.eval x = .slice (some ⟨b, off, none⟩) len cap) (hl : a.eval yl = .int k' zl) (hy : a.eval y = .int k z) (hy2 : a.eval y2 = .int k2 z2) (hu : P.underlying T = some (.slice e)) (hs : (P.info? e).map (·.size) = some sz) (hzl : zl = (lo : Int)) (hz : z = (hi : Int)) (hz2 : z2 = (hi : Int)) (hh : lo + n = hi) (hn : hi ≤ cap) (hlo : 0 < n)
    (h : Rg R P ops Q B F s0 l (a.put d (.slice (some ⟨b, off + lo * sz, none⟩) n n)) s) : Rg R P ops Q B F s0 ((⟨d, .slice T x (some yl) (some y) (some y2), t, p, af, gd⟩, m) :: l) a s := by
  subst hzl hz hz2
  refine rg_any hm hg (fun w => ?_) h
  unfold Yld
  cases hq : P.info? e with
  | none => simp [hq] at hs
  | some q =>
    have hs' : q.size = sz := by simpa [hq] using hs
    have hb := fun w => run_sliceBound (P := P) w k2 (hi : Int) cap .slice3Acap (by omega) (by omega)
    have hb1 := fun w => run_sliceBound (P := P) w k (hi : Int) hi .slice3B (by omega) (by omega)
    have hb2 := fun w => run_sliceBound (P := P) w k' (lo : Int) hi .slice3C (by omega) (by omega)
    have e1 : (hi : Int).toNat = hi := Int.toNat_natCast _
    have e2 : (lo : Int).toNat = lo := Int.toNat_natCast _
    rw [e1] at hb hb1
    rw [e2] at hb2
    have h3 : ¬ hi = lo := by omega
    have h4 : hi - lo = n := by omega
    have h5 : ¬ n = 0 := by omega
    simp [execOp, hx, hl, hy, hy2, Instr.sliceAt, Instr.slice, Instr.sliceBounds, run_underlying hu, sizeOf, typeInfo, hq, hs', hb, hb1, hb2, Addr.add_mid, h3, h4, h5]
end
theorem sKInfo : (Try.prog.info? 36).map (fun i => (i.zero, i.size, i.bytes)) = some (some (.slice none 0 0), 1, 24) := by kernel_rfl
section
variable {R : Option Nat} {ops : Array Oper} {Q : Exit → Act → World → Prop} {B : World} {F : List Nat} {s0 : Option (List Blk × List Blk)}
variable {l : List (Oper × Nat)} {a : Act} {s S : List Blk} {d : Option Tmp} {op : Op} {t : TypeId} {p : String} {af : Array Edge} {v : Value}
/-- append of a row to a list of rows. -/
theorem rg_appRow {so xo : Operand} {u : List Blk} {hs : List Value} {n g : Nat} {h : Value} {gd : Option (Nat × Bool)} (hg : Region.wanted ⟨d, .call ⟨.builtin .append, #[so, xo], #[129, 129]⟩, t, p, af, gd⟩ (yielded ops a.tmps) = true)
    (hs0 : a.eval so = v) (hown : Own 36 1 u v n hs) (hx : a.eval xo = .slice (some ⟨g, 0, none⟩) 1 1) (hn : n ≤ 1000000) (h1 : h.oneCell' = true) (hp : S.Perm (u ++ s))
    (hnews : ∀ w, Kn B F S w → Hd w g 36 #[h]) (hzz : ∀ z ∈ s0, z.1.Sublist s)
    (k : ∀ u' a' c', Own 36 1 u' (.slice a' (n + 1) c') (n + 1) (hs ++ [h]) → Rg R Try.prog ops Q B F s0 l (a.put d (.slice a' (n + 1) c')) (u' ++ s)) :
    Rg R Try.prog ops Q B F s0 ((⟨d, .call ⟨.builtin .append, #[so, xo], #[129, 129]⟩, t, p, af, gd⟩, 1) :: l) a S := by
  obtain ⟨i, hi, hz, hsz, hb⟩ := info_partsN sKInfo
  refine rg_append (u := u) (s := s) (i := i) (z := .slice none 0 0) (size := 1) (bytes := 24) (n := n) (m := 1) (c := 1) (xs := hs) (news := [h]) (ad := ⟨g, 0, none⟩) hg
    Try.underlying129 hi hz hsz hb rfl (by decide) hs0 hown hx (by rfl) ?_ (by simpa using h1) (by simp only [maxLen]; omega) (by omega) hp hzz ?_
  · intro w K j y hj
    have hd := (hnews w K).cell
    match j, hj with
    | 0, hj => simp only [List.getElem?_cons_zero, Option.some.injEq] at hj; subst hj; exact hd 0
    | j + 1, hj => simp at hj
  · intro u' v' hO _
    obtain ⟨a', c', rfl, -⟩ := Own.val hO
    exact k u' a' c' hO
/-- append of a list of numbers. -/
theorem rg_appNums {so xo : Operand} {u : List Blk} {xs ys : List Nm} {m c r : Nat} {ad : Addr} {gd : Option (Nat × Bool)} (hg : Region.wanted ⟨d, .call ⟨.builtin .append, #[so, xo], #[36, 36]⟩, t, p, af, gd⟩ (yielded ops a.tmps) = true)
    (hs : a.eval so = v) (hown : OwnN u v xs) (hx : a.eval xo = .slice (some ad) m c) (hm : ys.length = m) (hr : xs.length + ys.length = r) (hb : r ≤ 10000000) (hp : S.Perm (u ++ s))
    (hA : ∀ w, Kn B F S w → AS w (some ad) (nms ys))
    (hzz : ∀ z ∈ s0, z.1.Sublist s) (h : ∀ u' a' c', OwnN u' (.slice a' r c') (xs ++ ys) → Rg R Try.prog ops Q B F s0 l (a.put d (.slice a' r c')) (u' ++ s)) :
    Rg R Try.prog ops Q B F s0 ((⟨d, .call ⟨.builtin .append, #[so, xo], #[36, 36]⟩, t, p, af, gd⟩, 1) :: l) a S := by
  obtain ⟨i, hi, hz, hsz, hby⟩ := info_partsN numInfo
  subst hm hr
  refine rg_appendG (E := NmE) (u := u) (s := s) (i := i) (xs := xs) (ys := ys) (ad := ad) hg Try.underlying36 hi hz hsz rfl (by omega) hs hown hx rfl (by omega) hp (fun w K j y hj => ?_) hzz fun u' v' hO => ?_
  · have hne : nms ys ≠ [] := fun e => by (have e' : NmE.flat ys = [] := e; rw [e'] at hj; simp at hj)
    obtain ⟨b, off, e, _, hc⟩ := hA w K hne
    cases e
    have hj' : j < (nms ys).length := by
      rcases Nat.lt_or_ge j (nms ys).length with h | h
      · exact h
      · rw [List.getElem?_eq_none h] at hj; cases hj
    have e1 : (⟨b, off, none⟩ : Addr).add j = ⟨b, off + j, none⟩ := Addr.add_mid ..
    rw [e1, hc j hj', hj]
  · obtain ⟨a', c', rfl, -⟩ := Own.val hO
    have e : (xs ++ ys).length = xs.length + ys.length := by simp
    rw [e] at hO ⊢
    exact h u' a' c' hO
end
/-- The rounds of a loop over chunks of N numbers of the block bz. -/
def RoundsK (N bz lp : Nat) (r : Loop) (C : Nat → List Blk → Prop) : Prop :=
  r.params.size = 1 ∧ (∀ j s, C j s → (lp, Obj.loop r) ∈ s) ∧
  ∀ (R : Option Nat) (B : World) (F : List Nat) (j i : Nat) (s rest : List Blk) (w : World), j < N → i = j * N → C j s → Kn B F (s ++ rest) w →
    RoundIn (FR R) 0 Try.prog lp r.fn ((r.params.zip #[Value.slice (some ⟨bz, 0 + i * 5, none⟩) N N]).foldl (fun tmps (t, a) => tmps.setIfInBounds t a) r.tmps) r.assign r.body w
      (fun e w' => ∃ s', e = .returned (.bool true) ∧ C (j + 1) s' ∧ Kn B F (s' ++ rest) w')
section
variable {R : Option Nat} {ops : Array Oper} {Q : Exit → Act → World → Prop} {B : World} {F : List Nat}
theorem rg_yieldK {C : Nat → List Blk → Prop} {N bz lp : Nat} {r : Loop} {j i : Nat} {s rest : List Blk} {a : Act} {d : Option Tmp} {fo : Operand} {cargs : Array Operand} {at_ : Array TypeId} {t : TypeId} {p : String} {af : Array Edge} {gd : Option (Nat × Bool)} {lst : List (Oper × Nat)}
    (hR : RoundsK N bz lp r C) (hC : C j s) (hj : j < N) (hi : i = j * N) (hg : Region.wanted ⟨d, .call ⟨.value fo, cargs, at_⟩, t, p, af, gd⟩ (yielded ops a.tmps) = true)
    (hf : a.eval fo = .func (.yield lp) #[] #[]) (hargs : cargs.map a.eval = #[.slice (some ⟨bz, 0 + i * 5, none⟩) N N])
    (h : ∀ s', C (j + 1) s' → Rg R Try.prog ops Q B F none lst (a.put d (.bool true)) (s' ++ rest)) :
    Rg R Try.prog ops Q B F none ((⟨d, .call ⟨.value fo, cargs, at_⟩, t, p, af, gd⟩, 1) :: lst) a (s ++ rest) := by
  refine rg_yield (r := r) hg hf hargs hR.1.symm (List.mem_append_left _ (hR.2.1 j s hC)) fun w K => ?_
  exact (hR.2.2 R B F j i s rest w hj hi hC K).mono fun e w' ⟨s', he, hC', hK⟩ => ⟨_, _, he, hK, h s' hC'⟩
end
end Go.Proofs.Ytccbinnlnkpplaa
namespace Go.Proofs.Ytccbinnlnkpplaa
set_option linter.all false
open Go.RowKit

/-- The rounds of a loop over a list of items from its end on. -/
def RoundsB (xs : List It) (lp : Nat) (r : Loop) (C : Nat → List Blk → Prop) : Prop :=
  r.params.size = 2 ∧ (∀ j s, C j s → (lp, Obj.loop r) ∈ s) ∧
  ∀ (R : Option Nat) (B : World) (F : List Nat) (j k : Nat) (s rest : List Blk) (w : World), k < xs.length → k + j + 1 = xs.length → C j s → Kn B F (s ++ rest) w →
    RoundIn (FR R) 0 Try.prog lp r.fn ((r.params.zip #[Value.int .i64 k, .agg #[.int .i64 (it xs k).kind, .int .i64 (it xs k).at_, .int .i64 (it xs k).n, .string (it xs k).name]]).foldl (fun tmps (t, a) => tmps.setIfInBounds t a) r.tmps) r.assign r.body w
      (fun e w' => ∃ s', e = .returned (.bool true) ∧ C (j + 1) s' ∧ Kn B F (s' ++ rest) w')
section
variable {R : Option Nat} {ops : Array Oper} {Q : Exit → Act → World → Prop} {B : World} {F : List Nat} {s0 : Option (List Blk × List Blk)}
theorem rg_yieldB {C : Nat → List Blk → Prop} {xs : List It} {lp : Nat} {r : Loop} {j k : Nat} {s rest : List Blk} {a : Act} {d : Option Tmp} {fo : Operand} {cargs : Array Operand} {at_ : Array TypeId} {t : TypeId} {p : String} {af : Array Edge} {gd : Option (Nat × Bool)} {lst : List (Oper × Nat)}
    (hR : RoundsB xs lp r C) (hC : C j s) (hk : k < xs.length) (hj : k + j + 1 = xs.length) (hg : Region.wanted ⟨d, .call ⟨.value fo, cargs, at_⟩, t, p, af, gd⟩ (yielded ops a.tmps) = true)
    (hf : a.eval fo = .func (.yield lp) #[] #[]) (hargs : cargs.map a.eval = #[.int .i64 k, .agg #[.int .i64 (it xs k).kind, .int .i64 (it xs k).at_, .int .i64 (it xs k).n, .string (it xs k).name]])
    (h : ∀ s', C (j + 1) s' → Rg R Try.prog ops Q B F none lst (a.put d (.bool true)) (s' ++ rest)) :
    Rg R Try.prog ops Q B F none ((⟨d, .call ⟨.value fo, cargs, at_⟩, t, p, af, gd⟩, 1) :: lst) a (s ++ rest) := by
  refine rg_yield (r := r) hg hf hargs hR.1.symm (List.mem_append_left _ (hR.2.1 j s hC)) fun w K => ?_
  exact (hR.2.2 R B F j k s rest w hk hj hC K).mono fun e w' ⟨s', he, hC', hK⟩ => ⟨_, _, he, hK, h s' hC'⟩
variable {l : List (Oper × Nat)} {a : Act} {s S : List Blk} {d : Option Tmp} {op : Op} {t : TypeId} {p : String} {af : Array Edge} {v : Value}
/-- append of a literal of three items. -/
theorem rg_appT3 {so xo : Operand} {u : List Blk} {xs : List It} {g1 : Nat} {x y z : It} {gd : Option (Nat × Bool)} (hg : Region.wanted ⟨d, .call ⟨.builtin .append, #[so, xo], #[32, 32]⟩, t, p, af, gd⟩ (yielded ops a.tmps) = true)
    (hs : a.eval so = v) (hown : OwnT u v xs) (hx : a.eval xo = .slice (some ⟨g1, 0, none⟩) 3 3) (hn : xs.length ≤ 1000000) (hp : S.Perm (u ++ s)) (hm : ∀ w, Kn B F S w → Hd w g1 80 (itC x ++ (itC y ++ itC z)).toArray)
    (hzz : ∀ z ∈ s0, z.1.Sublist s) (h : ∀ u' v', OwnT u' v' (xs ++ [x, y, z]) → Rg R Try.prog ops Q B F s0 l (a.put d v') (u' ++ s)) :
    Rg R Try.prog ops Q B F s0 ((⟨d, .call ⟨.builtin .append, #[so, xo], #[32, 32]⟩, t, p, af, gd⟩, 1) :: l) a S := by
  obtain ⟨i, hi, hz, hsz, hb⟩ := info_parts itInfo
  refine rg_append (u := u) (s := s) (i := i) (z := .agg #[.int .i64 0, .int .i64 0, .int .i64 0, .string ⟨#[]⟩]) (size := 4) (bytes := 40) (n := xs.length) (m := 3) (c := 3) (xs := its xs) (news := itC x ++ (itC y ++ itC z)) (ad := ⟨g1, 0, none⟩) hg
    Try.underlying32 hi hz hsz hb rfl (by decide) hs hown hx (by rfl) ?_ (by simp [Value.oneCell']) (by simp only [maxLen]; omega) (by omega) hp hzz ?_
  · intro w K j y' hj
    have hd := (hm w K).cell j
    have e : (⟨g1, 0, none⟩ : Addr).add j = ⟨g1, j, none⟩ := by unfold Addr.add; split <;> simp_all
    rw [e, hd, ← hj]
    simp
  · intro u' v' hO _
    have hO' : OwnT u' v' (xs ++ [x, y, z]) := by
      have e : its (xs ++ [x, y, z]) = its xs ++ (itC x ++ (itC y ++ itC z)) := by simp [its]
      unfold OwnT
      rw [e, List.length_append]
      exact hO
    exact h u' v' hO'
end
section
variable {P : Program} {R : Option Nat} {B : World} {F : List Nat} {s s1 s1' : List Blk} {l : Nat} {r : Loop} {X : Ending → World → Prop} {a : Act}
/-- A round whose assignments make memory. -/
theorem roundIn_kn2 {tmps : Array Value} (hr : r.state = .ready)
    (h : Wk (some l) P B F (Exit.then (fun a₁ w₁ => ∃ s1 s1', Kn B F s1 w₁ ∧ Rep l (.loop r) (.loop { r with state := .busy }) s1 s1' ∧ Wk (some l) P B F (roundPost P l X) a₁ s1' r.body) (fun _ _ _ => False)) ⟨tmps, []⟩ s r.assign)
    {w : World} (K : Kn B F s w) : RoundIn (FR R) 0 P l r.fn tmps r.assign r.body w X := by
  refine roundIn_of_wpIn trivial (wpIn_mono (h w K) fun e a₁ w₁ hq => ?_)
  cases e with
  | normal =>
    obtain ⟨s1, s1', K₁, hrep, hb⟩ := hq
    exact ⟨_, run_beginRound (K₁.own _ hrep.mem) hr, hb _ (K₁.rep hrep)⟩
  | _ => exact hq
theorem ek_asg2 {c : Code} (hrep : Rep l (.loop r) (.loop { r with state := .busy }) s1 s1') (h : Wk (some l) P B F (roundPost P l X) a s1' c) :
    Ek B F (Exit.then (fun a₁ w₁ => ∃ s1 s1', Kn B F s1 w₁ ∧ Rep l (.loop r) (.loop { r with state := .busy }) s1 s1' ∧ Wk (some l) P B F (roundPost P l X) a₁ s1' c) (fun _ _ _ => False)) .normal a s1 := fun _ K => ⟨_, _, K, hrep, h⟩
end
theorem fold_zipB {γ : Type} (f : γ → Nat × Value → γ) (t : γ) (p q : Nat) (v u : Value) : Array.foldl f t (#[p, q].zip #[v, u]) = f (f t (p, v)) (q, u) := by
  have e : (#[p, q].zip #[v, u]) = #[(p, v), (q, u)] := by rw [List.zip_toArray]; rfl
  rw [e]; simp
theorem cpls_take {xs : List It} {j : Nat} (h : j < xs.length) : cpls (xs.take (j + 1)) = cpls (xs.take j) + if (it xs j).kind = 2 then 1 else 0 := by
  rw [take_it h]
  unfold cpls
  rw [List.filter_append, List.length_append]
  congr 1
  by_cases e : (it xs j).kind = 2
  · rw [if_pos e, List.filter_cons_of_pos (by simpa using e)]; rfl
  rw [if_neg e, List.filter_cons_of_neg (by simpa using e)]; rfl
theorem its_memF {N : Nat} {xs : List It} (hf : ∀ x ∈ xs, fitB N x = true) {k : Nat} (h : k < xs.length) : fitB N (it xs k) = true := hf _ (it_mem h)
set_option maxRecDepth 100000 in
set_option maxHeartbeats 1000000 in
theorem rcouplers_any (xs : List It) (a : Option Addr) (c : Nat) (hl : xs.length ≤ 1000000) (w : World) (hA : AS w a (its xs)) : Calls Try.prog 56 #[.slice a xs.length c] w fun e w' => e = .returned (.int .i64 (cpls xs : Nat)) ∧ Below w.heap.size w w' := by
  go_enter Try.func56, Try.ntmps56
  refine wk_start ?_
  refine wk_seq ?_
  refine wk_region [0] rfl (by kernel_rfl) ?_
  simp only [qy]
  refine rg_assign ?_
  simp only [qz]
  refine rg_nil (ek_next (wk_seq ?_))
  refine wk_region [0] rfl (by kernel_rfl) ?_
  simp only [qy]
  refine rg_assign ?_
  simp only [qz]
  refine rg_nil (ek_next (wk_seq (wk_seq ?_)))
  refine wk_region [0] rfl (by kernel_rfl) ?_
  simp only [qy]
  refine rg_assign ?_
  simp only [qz]
  refine rg_nil (ek_next (wk_block ?_))
  refine wk_loopF [3, 4, 5, 6, 7, 8, 9, 10, 11, 12, 13, 14, 15, 16, 17, 18] (fun mz f s => ∃ (j k : Nat), f 3 = .int .i64 k ∧ f 4 = .int .i64 j ∧ s = [] ∧ mz = xs.length - j ∧ j ≤ xs.length ∧ Hid (cpls (xs.take j) = k)) ((fun (j k : Nat) => xs.length - j) (0) (0)) ?_ (by kernel_rfl) ?_
  · exact ⟨0, 0, rfl, rfl, rfl, rfl, by omega, Lib.hid rfl⟩
  rintro mz f1 s ⟨j, k, hs1_3, hs1_4, rfl, hn, hd1, hd2⟩
  simp only [Act.putF, List.foldl_cons, List.foldl_nil, hs1_3, hs1_4, Act.put, Act.eval, q1, q2, q3, q4, q5, q6, q7, q8, q9, q10, q11, q12, q13, q14, q15, q16, q17, q18, Nat.reduceAdd, Bool.not_true, Bool.not_false]
  clear hs1_3 hs1_4
  have hk := hd2
  clear hd2
  have hkl : k ≤ 1000000 := by (have := List.length_filter_le (fun x => decide (x.kind = 2)) (xs.take j); have h2 := List.length_take_le j xs; rw [← hk.out]; exact Nat.le_trans this (by omega))
  refine wk_seq (wk_seq ?_)
  refine wk_region [0, 0, 0, 0] rfl (by kernel_rfl) ?_
  simp only [qy]
  refine rg_move ?_
  simp only [qz]
  refine rg_move ?_
  simp only [qz]
  refine rf_len rfl rfl rfl Try.underlying32 ?_
  simp only [qz]
  refine rfb_lss rfl rfl rfl rfl ?_
  intro x h1
  cases x
  · (try simp only [qd, ne_eq] at h1)
    simp only [qz]
    refine rg_nil (ek_next (wk_cond_f rfl (wk_exit (ek_then_exit (ek_then_exit (ek_block_exit (ek_next (wk_seq ?_))))))))
    refine wk_region [0, 0] rfl (by kernel_rfl) ?_
    simp only [qy]
    refine rg_move ?_
    simp only [qz]
    refine rg_assign ?_
    simp only [qz]
    refine rg_nil (ek_next (wk_ret ?_))
    refine ek_ret (fun w hw => ⟨rfl, _, res_t _ rfl, ?_⟩)
    (try simp only [qz])
    obtain rfl : j = xs.length := by omega
    exact ⟨by rw [← hk.out, List.take_length], hw.below⟩
  (try simp only [qd, ne_eq] at h1)
  simp only [qz]
  obtain ⟨b, off, rfl, hlt, hcell⟩ := AS.openT hA (by omega)
  have hck := hcell j (by omega)
  refine rg_nil (ek_next (wk_cond_t rfl (wk_skip (ek_next (wk_seq (wk_block (wk_seq ?_)))))))
  refine wk_region [0, 0, 0, 0, 0, 0] rfl (by kernel_rfl) ?_
  simp only [qy]
  refine rg_move ?_
  simp only [qz]
  refine rg_move ?_
  simp only [qz]
  refine rf_indexS (n := j) (sz := 4) (j := off + j * 4) rfl rfl rfl rfl Try.underlying32 (by kernel_rfl) (by omega) (by omega) rfl ?_
  simp only [qz]
  refine rf_field (n := 0) (j := off + j * 4) rfl rfl rfl Try.underlying80 rfl (by kernel_rfl) rfl ?_
  simp only [qz]
  refine rf_load (v := .int .i64 (it xs j).kind) rfl rfl rfl Try.underlying3 rfl (fun w hw => (Kn.cellB hw hlt (by simp) _).trans hck.c0) ?_
  simp only [qz]
  refine rfb_eql rfl rfl rfl rfl ?_
  intro x h2
  cases x
  · (try simp only [qd, ne_eq] at h2)
    simp only [qz]
    refine rg_nil (ek_next (wk_cond_f rfl (wk_skip (ek_block (ek_next ?_)))))
    refine wk_region [0, 0, 0] rfl (by kernel_rfl) ?_
    simp only [qy]
    refine rg_move ?_
    simp only [qz]
    refine rf_add rfl rfl rfl rfl (wrap_ok (by omega) (by omega)) ?_
    simp only [qz]
    refine rg_assign ?_
    simp only [qz]
    refine rg_nil ?_
    refine ek_roundF (xs.length - (j + 1)) (by omega) (by kernel_rfl) ?_
    exact ⟨j + 1, k, rfl, rfl, by rfl, by rfl, by omega, (Lib.hid (by rw [cpls_take (by omega), hk.out, if_neg h2, Nat.add_zero]))⟩
  (try simp only [qd, ne_eq] at h2)
  simp only [qz]
  refine rg_nil (ek_next (wk_cond_t rfl ?_))
  refine wk_region [0, 0, 0] rfl (by kernel_rfl) ?_
  simp only [qy]
  refine rg_move ?_
  simp only [qz]
  refine rf_add rfl rfl rfl rfl (wrap_ok (by omega) (by omega)) ?_
  simp only [qz]
  refine rg_assign ?_
  simp only [qz]
  refine rg_nil (ek_block (ek_next ?_))
  refine wk_region [0, 0, 0] rfl (by kernel_rfl) ?_
  simp only [qy]
  refine rg_move ?_
  simp only [qz]
  refine rf_add rfl rfl rfl rfl (wrap_ok (by omega) (by omega)) ?_
  simp only [qz]
  refine rg_assign ?_
  simp only [qz]
  refine rg_nil ?_
  refine ek_roundF (xs.length - (j + 1)) (by omega) (by kernel_rfl) ?_
  exact ⟨j + 1, k + 1, rfl, rfl, by rfl, by rfl, by omega, (Lib.hid (by rw [cpls_take (by omega), hk.out, if_pos h2]))⟩

set_option maxRecDepth 100000 in
set_option maxHeartbeats 1000000 in
theorem backward_any (xs : List It) (a : Option Addr) (c : Nat) (w : World) : Calls Try.prog 104 #[.slice a xs.length c] w fun e w' => ∃ gs, e = .returned (.func (.func 152) #[] #[.pointer (some ⟨gs, 0, none⟩)]) ∧ Made w [(gs, .cells #[.slice a xs.length c] 32)] w' := by
  go_enter Try.func104, Try.ntmps104
  refine wk_start ?_
  refine wk_seq ?_
  refine wk_region [1, 0] rfl (by kernel_rfl) ?_
  simp only [qy]
  refine rg_new (cs := ?_) (ty := ?_) (by rfl) (fun w => ?_) (fun _ h => by cases h) (fun g1 => ?_); rotate_left 2
  focus (go_simp; rfl)
  simp only [qz]
  refine rg_assign ?_
  simp only [qz]
  refine rg_nil (ek_next (wk_seq ?_))
  refine wk_region [0, 0] rfl (by kernel_rfl) ?_
  simp only [qy]
  apply rg_soft
  case hy => (intro w hw; go_simp; (try go_bits); exact Yld.mk _ _)
  simp only [qz]
  refine rg_assign ?_
  simp only [qz]
  refine rg_nil (ek_next (wk_ret ?_))
  refine ek_ret (fun w hw => ⟨rfl, _, res_t _ rfl, ?_⟩)
  (try simp only [qz])
  exact ⟨g1, (by first | rfl | trivial), hw.made (List.Sublist.refl _)⟩

set_option maxRecDepth 100000 in
set_option maxHeartbeats 1000000 in
theorem backward1_any (xs : List It) (a : Option Addr) (c : Nat) (lp gs : Nat) (hl : xs.length ≤ 1000000) (r : Loop) (C : Nat → List Blk → Prop) (hR : RoundsB xs lp r C) (s : List Blk) (F : List Nat) (hC0 : C 0 s) (hF : 0 < xs.length → ∀ b off, a = some ⟨b, off, none⟩ → b ∉ F) (w : World) (hA : AS w a (its xs)) (hK : Kn w F (s ++ [(gs, .cells #[.slice a xs.length c] 32)]) w) : Calls Try.prog 152 #[.func (.yield lp) #[] #[], .pointer (some ⟨gs, 0, none⟩)] w fun e w' => e = .returned (.tuple #[]) ∧ ∃ s', C xs.length s' ∧ Kn w F (s' ++ [(gs, .cells #[.slice a xs.length c] 32)]) w' := by
  go_enter Try.func152, Try.ntmps152
  refine wk_startF hK ?_
  refine wk_seq ?_
  refine wk_region [0, 0, 0, 0] rfl (by kernel_rfl) ?_
  simp only [qy]
  refine rf_load rfl rfl rfl Try.underlying32 rfl (fun w hw => (Kn.hd0 (Kn.tlU hw)).at rfl) ?_
  simp only [qz]
  refine rf_len rfl rfl rfl Try.underlying32 ?_
  simp only [qz]
  refine rf_sub (r := (xs.length : Int) - 1 - ((0 : Nat) : Int)) rfl rfl rfl rfl (wrap_eqB (by omega) (by omega) (by omega)) ?_
  simp only [qz]
  refine rg_assign ?_
  simp only [qz]
  refine rg_nil (ek_next (wk_block ?_))
  refine wk_loopF [3, 7, 8, 9, 10, 11, 12, 13, 14, 15, 16, 17, 18] (fun mz f s => ∃ (j : Nat) (uC : List Blk), f 3 = .int .i64 ((xs.length : Int) - 1 - j) ∧ s = (uC ++ ((gs, .cells #[.slice a xs.length c] 32) :: [])) ∧ mz = xs.length - j ∧ j ≤ xs.length ∧ C j uC) ((fun (j : Nat) (uC : List Blk) => xs.length - j) (0) (s)) ?_ (by kernel_rfl) ?_
  · exact ⟨0, s, rfl, rfl, rfl, by omega, hC0⟩
  rintro mz f1 s ⟨j, uC, hs1_3, rfl, hn, hd1, hd2⟩
  simp only [Act.putF, List.foldl_cons, List.foldl_nil, hs1_3, Act.put, Act.eval, q1, q2, q3, q4, q5, q6, q7, q8, q9, q10, q11, q12, q13, q14, q15, q16, q17, q18, Nat.reduceAdd, Bool.not_true, Bool.not_false]
  clear hs1_3
  have hC := hd2
  clear hd2
  refine wk_seq (wk_seq ?_)
  refine wk_region [0, 0] rfl (by kernel_rfl) ?_
  simp only [qy]
  refine rg_move ?_
  simp only [qz]
  refine rfb_geq rfl rfl rfl rfl ?_
  intro x h1
  cases x
  · (try simp only [qd, ne_eq] at h1)
    simp only [qz]
    refine rg_nil (ek_next (wk_cond_f rfl (wk_exit (ek_then_exit (ek_then_exit (ek_block_exit ?_))))))
    refine ek_norm (fun w hw => ⟨rfl, _, res_0 rfl, ?_⟩)
    (try simp only [qz])
    obtain rfl : j = xs.length := by omega
    exact ⟨(by first | rfl | trivial), _, hC, hw⟩
  (try simp only [qd, ne_eq] at h1)
  simp only [qz]
  have hjl : j < xs.length := by omega
  have hkk : (xs.length : Int) - 1 - j = (((xs.length - 1 - j) : Nat) : Int) := by omega
  obtain ⟨b, off, ha, hlt, hcell⟩ := AS.openT hA (by omega)
  have hbF := hF (by omega) b off ha
  have hck := hcell (xs.length - 1 - j) (by omega)
  replace hkk := Lib.hid hkk
  replace ha := Lib.hid ha
  refine rg_nil (ek_next (wk_cond_t rfl (wk_skip (ek_next (wk_seq (wk_block (wk_seq ?_)))))))
  refine wk_region [0, 0, 0, 0, 0, 0, 1, 0] rfl (by kernel_rfl) ?_
  simp only [qy]
  refine rg_move ?_
  simp only [qz]
  refine rg_move ?_
  simp only [qz]
  refine rf_load rfl rfl rfl Try.underlying32 rfl (fun w hw => (Kn.hd0 (Kn.tlU hw)).at rfl) ?_
  simp only [qz]
  refine rg_move ?_
  simp only [qz]
  rw [ha.out]
  rw [hkk.out]
  refine rf_indexS (n := (xs.length - 1 - j)) (sz := 4) (j := off + (xs.length - 1 - j) * 4) rfl rfl rfl rfl Try.underlying32 (by kernel_rfl) (by omega) (by omega) rfl ?_
  simp only [qz]
  refine rf_loadC (n := 4) (vs := itC (it xs (xs.length - 1 - j))) rfl rfl rfl Try.underlying80 rfl (by kernel_rfl) rfl (fun w hw => itAt_range (hck.kn hw hlt hbF)) ?_
  simp only [qz]
  refine rg_yieldB (j := j) (k := (xs.length - 1 - j)) hR hC (by omega) (by omega) (by rfl) rfl (by simp only [List.map_toArray, List.map_cons, List.map_nil, Act.eval, Array.getD_eq_getD_getElem?, List.getElem?_toArray, List.getElem?_cons_zero, List.getElem?_cons_succ, Option.getD_some, hkk]) (fun uD hCD => ?_)
  simp only [qz]
  refine rf_not rfl rfl rfl ?_
  simp only [qz]
  refine rg_nil (ek_next (wk_cond_f rfl (wk_skip (ek_block (ek_next ?_)))))
  refine wk_region [0, 0, 0] rfl (by kernel_rfl) ?_
  simp only [qy]
  refine rg_move ?_
  simp only [qz]
  refine rf_sub (r := (xs.length : Int) - 1 - ((j + 1 : Nat) : Int)) rfl rfl rfl rfl (wrap_eqB (by omega) (by omega) (by omega)) ?_
  simp only [qz]
  refine rg_assign ?_
  simp only [qz]
  refine rg_nil ?_
  refine ek_roundF (xs.length - (j + 1)) (by omega) (by kernel_rfl) ?_
  exact ⟨j + 1, uD, rfl, by rfl, by rfl, by omega, hCD⟩

end Go.Proofs.Ytccbinnlnkpplaa
namespace Go.Proofs.Ytccbinnlnkpplaa
set_option linter.all false
open Go.RowKit

/-- A call that hands back a list of numbers of its own. -/
def RetNm (w : World) (xs : List Nm) (e : Ending) (w' : World) : Prop := ∃ v u, e = .returned v ∧ OwnN u v xs ∧ Made w u w'
theorem OwnN.emptyK {g : Nat} : OwnN [(g, .cells #[] 45)] (.slice (some ⟨g, 0, none⟩) 0 0) [] := ⟨rfl, .inr ⟨g, 0, #[], rfl, rfl, Nat.le_refl _, by simp only [maxLen]; omega, rfl, rfl⟩⟩
set_option maxRecDepth 100000 in
set_option maxHeartbeats 1000000 in
theorem clonek_any (N b off c : Nat) (xs : List Nm) (hl : Hid (xs.length = N)) (hN : N ≤ 1000) (w : World) (hA : AS w (some ⟨b, off, none⟩) (nms xs)) : Calls Try.prog 110 #[.slice (some ⟨b, off, none⟩) N c] w fun e w' => RetNm w xs e w' := by
  go_enter Try.func110, Try.ntmps110
  refine wk_start ?_
  refine wk_seq ?_
  refine wk_region [0] rfl (by kernel_rfl) ?_
  simp only [qy]
  refine rg_assign ?_
  simp only [qz]
  refine rg_nil (ek_next (wk_seq (wk_seq ?_)))
  refine wk_region [0, 0] rfl (by kernel_rfl) ?_
  simp only [qy]
  refine rg_move ?_
  simp only [qz]
  apply rg_softb
  case hy => (intro w hw; go_simp; (try go_bits); exact Yld.mk _ _)
  intro x h1
  obtain rfl : x = false := by (refine h1.symm.trans ?_; first | rfl | exact decide_eq_false (by omega) | exact beq_eq_false_iff_ne.2 (by omega) | exact bne_eq_false_iff_eq.2 (by omega) | (simp; omega) | (simp; done))
  clear h1
  simp only [qz]
  refine rg_nil (ek_next (wk_cond_f rfl (wk_skip (ek_next (wk_seq ?_)))))
  refine wk_region [1, 0, 1, 0] rfl (by kernel_rfl) ?_
  simp only [qy]
  refine rg_newS (cs := ?_) (ty := ?_) (n := 0) (c := 0) (by rfl) (fun w => ?_) (fun _ h => by cases h) (fun g1 => ?_); rotate_left 2
  focus (go_simp; rfl)
  simp only [qz]
  refine rg_move ?_
  simp only [qz]
  refine rg_appNums (u := [(g1, .cells #[] 45)]) (s := []) (xs := []) (ys := xs) (r := N) (by rfl) rfl OwnN.emptyK rfl hl.out (by simp only [List.length_nil, hl.out]; omega) (by omega) (List.Perm.refl _) (fun w hw => hA.kn0 hw) (fun _ h => by cases h) (fun u1 a1 c1 hO1 => ?_)
  simp only [qz]
  refine rg_assign ?_
  simp only [qz]
  refine rg_nil (ek_next (wk_ret ?_))
  refine ek_ret (fun w hw => ⟨rfl, _, res_t _ rfl, ?_⟩)
  (try simp only [qz])
  exact ⟨_, _, rfl, hO1, hw.made (by simp)⟩

set_option maxRecDepth 100000 in
set_option maxHeartbeats 1000000 in
theorem chunk_any (N bz nn cz : Nat) (hN : 1 ≤ N) (w : World) : Calls Try.prog 109 #[.slice (some ⟨bz, 0, none⟩) nn cz, .int .i64 N] w fun e w' => ∃ gs gn, e = .returned (.func (.func 154) #[] #[.pointer (some ⟨gs, 0, none⟩), .pointer (some ⟨gn, 0, none⟩)]) ∧ Made w [(gn, .cells #[.int .i64 N] 3), (gs, .cells #[.slice (some ⟨bz, 0, none⟩) nn cz] 36)] w' := by
  go_enter Try.func109, Try.ntmps109
  refine wk_start ?_
  refine wk_seq ?_
  refine wk_region [1, 1, 0] rfl (by kernel_rfl) ?_
  simp only [qy]
  refine rg_new (cs := ?_) (ty := ?_) (by rfl) (fun w => ?_) (fun _ h => by cases h) (fun g1 => ?_); rotate_left 2
  focus (go_simp; rfl)
  simp only [qz]
  refine rg_new (cs := ?_) (ty := ?_) (by rfl) (fun w => ?_) (fun _ h => by cases h) (fun g2 => ?_); rotate_left 2
  focus (go_simp; rfl)
  simp only [qz]
  refine rg_assign ?_
  simp only [qz]
  refine rg_nil (ek_next (wk_seq (wk_seq ?_)))
  refine wk_region [0, 0] rfl (by kernel_rfl) ?_
  simp only [qy]
  refine rf_load rfl rfl rfl Try.underlying3 rfl (fun w hw => (Kn.hd0 hw).at rfl) ?_
  simp only [qz]
  refine rfb_lss rfl rfl rfl rfl ?_
  intro x h1
  cases x
  · (try simp only [qd, ne_eq] at h1)
    simp only [qz]
    refine rg_nil (ek_next (wk_cond_f rfl (wk_skip (ek_next (wk_seq ?_)))))
    refine wk_region [0, 0] rfl (by kernel_rfl) ?_
    simp only [qy]
    apply rg_soft
    case hy => (intro w hw; go_simp; (try go_bits); exact Yld.mk _ _)
    simp only [qz]
    refine rg_assign ?_
    simp only [qz]
    refine rg_nil (ek_next (wk_ret ?_))
    refine ek_ret (fun w hw => ⟨rfl, _, res_t _ rfl, ?_⟩)
    (try simp only [qz])
    exact ⟨g1, g2, (by first | rfl | trivial), hw.made (List.Sublist.refl _)⟩
  (try simp only [qd, ne_eq] at h1)
  simp only [qz]
  exfalso; omega

set_option maxRecDepth 100000 in
set_option maxHeartbeats 1000000 in
theorem chunk1_any (N nn bz cz lp gs gn : Nat) (hN : 1 ≤ N) (hN6 : N ≤ 6) (hnn : Hid (nn = N * N)) (hn36 : nn ≤ 36) (hcz : nn ≤ cz) (r : Loop) (C : Nat → List Blk → Prop) (hR : RoundsK N bz lp r C) (s : List Blk) (F : List Nat) (hC0 : C 0 s) (w : World) (hK : Kn w F (s ++ [(gs, .cells #[.slice (some ⟨bz, 0, none⟩) nn cz] 36), (gn, .cells #[.int .i64 N] 3)]) w) : Calls Try.prog 154 #[.func (.yield lp) #[] #[], .pointer (some ⟨gs, 0, none⟩), .pointer (some ⟨gn, 0, none⟩)] w fun e w' => e = .returned (.tuple #[]) ∧ ∃ s', C N s' ∧ Kn w F (s' ++ [(gs, .cells #[.slice (some ⟨bz, 0, none⟩) nn cz] 36), (gn, .cells #[.int .i64 N] 3)]) w' := by
  go_enter Try.func154, Try.ntmps154
  refine wk_startF hK ?_
  refine wk_seq ?_
  refine wk_region [0] rfl (by kernel_rfl) ?_
  simp only [qy]
  refine rg_assign ?_
  simp only [qz]
  refine rg_nil (ek_next (wk_block ?_))
  refine wk_loopF [4, 5, 6, 7, 8, 9, 10, 11, 12, 13, 14, 15, 16, 17, 18, 19, 20, 21, 22, 23, 24, 25, 26, 27, 28, 29, 30] (fun mz f s => ∃ (j i : Nat) (uC : List Blk), f 4 = .int .i64 i ∧ s = (uC ++ ((gs, .cells #[.slice (some ⟨bz, 0, none⟩) nn cz] 36) :: ((gn, .cells #[.int .i64 N] 3) :: []))) ∧ mz = N - j ∧ j ≤ N ∧ Hid (i = j * N) ∧ C j uC) ((fun (j i : Nat) (uC : List Blk) => N - j) (0) (0) (s)) ?_ (by kernel_rfl) ?_
  · exact ⟨0, 0, s, rfl, rfl, rfl, by omega, Lib.hid (Nat.zero_mul N).symm, hC0⟩
  rintro mz f1 s ⟨j, i, uC, hs1_4, rfl, hn, hd1, hd2, hd3⟩
  simp only [Act.putF, List.foldl_cons, List.foldl_nil, hs1_4, Act.put, Act.eval, q1, q2, q3, q4, q5, q6, q7, q8, q9, q10, q11, q12, q13, q14, q15, q16, q17, q18, Nat.reduceAdd, Bool.not_true, Bool.not_false]
  clear hs1_4
  have hi := hd2
  have hC := hd3
  clear hd2 hd3
  refine wk_seq (wk_seq ?_)
  refine wk_region [0, 0, 0, 0] rfl (by kernel_rfl) ?_
  simp only [qy]
  refine rg_move ?_
  simp only [qz]
  refine rf_load rfl rfl rfl Try.underlying36 rfl (fun w hw => (Kn.hd0 (Kn.tlU hw)).at rfl) ?_
  simp only [qz]
  refine rf_len rfl rfl rfl Try.underlying36 ?_
  simp only [qz]
  refine rfb_lss rfl rfl rfl rfl ?_
  intro x h1
  cases x
  · (try simp only [qd, ne_eq] at h1)
    simp only [qz]
    have hjN : N ≤ j := Decidable.byContradiction fun hn => by
      have := Nat.mul_le_mul_right N (show j + 1 ≤ N by omega)
      rw [Nat.add_mul, Nat.one_mul, ← hi.out, ← hnn.out] at this
      omega
    refine rg_nil (ek_next (wk_cond_f rfl (wk_exit (ek_then_exit (ek_then_exit (ek_block_exit ?_))))))
    refine ek_norm (fun w hw => ⟨rfl, _, res_0 rfl, ?_⟩)
    (try simp only [qz])
    obtain rfl : j = N := by omega
    exact ⟨(by first | rfl | trivial), _, hC, hw⟩
  (try simp only [qd, ne_eq] at h1)
  simp only [qz]
  have hjN : j < N := Nat.lt_of_mul_lt_mul_right (a := N) (by rw [← hi.out, ← hnn.out]; omega)
  have hin : i + N ≤ nn := by
    have := Nat.mul_le_mul_right N (show j + 1 ≤ N by omega)
    rw [Nat.add_mul, Nat.one_mul, ← hi.out, ← hnn.out] at this
    exact this
  have hin1 : i + N = (j + 1) * N := by rw [Nat.add_mul, Nat.one_mul, ← hi.out]
  replace hin1 := Lib.hid hin1
  refine rg_nil (ek_next (wk_cond_t rfl (wk_skip (ek_next (wk_seq (wk_block (wk_seq ?_)))))))
  refine wk_draws _ _ [(0, 0), (1, 0), (2, 0), (3, 0), (4, 0), (5, 0), (6, 0)] [] (by kernel_rfl) (by kernel_rfl) (fun c d v a w h => by cases d <;> exact h) ((List.Sublist.append_left (sc _ (sc _ sn)) _)) (fun e => by first | exact absurd e (by decide) | rfl) ?_
  simp only [List.map_cons, List.map_nil, List.getD_cons_zero, List.getD_cons_succ]
  refine rf_load rfl rfl rfl Try.underlying3 rfl (fun w hw => (Kn.hd0 (Kn.tl (Kn.tlU hw))).at rfl) ?_
  simp only [qz]
  refine rf_load rfl rfl rfl Try.underlying36 rfl (fun w hw => (Kn.hd0 (Kn.tlU hw)).at rfl) ?_
  simp only [qz]
  refine rg_move ?_
  simp only [qz]
  refine rf_sliceFrom (lo := i) (sz := 5) rfl rfl rfl rfl Try.underlying36 (by kernel_rfl) (by omega) (by omega) ?_
  simp only [qz]
  refine rf_len rfl rfl rfl Try.underlying36 ?_
  simp only [qz]
  apply rg_soft
  case hy => (intro w hw; go_simp; (try go_bits); exact Yld.mk _ _)
  refine rg_assign ?_
  simp only [qz]
  refine rg_nil (ek_next (wk_seq ?_))
  refine wk_region [0, 0, 0, 0, 0, 0, 0, 0, 0, 0, 1, 0] rfl (by kernel_rfl) ?_
  simp only [qy]
  refine rg_move ?_
  simp only [qz]
  refine rf_load rfl rfl rfl Try.underlying36 rfl (fun w hw => (Kn.hd0 (Kn.tlU hw)).at rfl) ?_
  simp only [qz]
  refine rg_move ?_
  simp only [qz]
  refine rg_move ?_
  simp only [qz]
  refine rg_move ?_
  simp only [qz]
  refine rf_add rfl rfl rfl rfl (wrap_ok (by omega) (by omega)) ?_
  simp only [qz]
  refine rg_move ?_
  simp only [qz]
  refine rg_move ?_
  simp only [qz]
  refine rf_add rfl rfl rfl rfl (wrap_ok (by omega) (by omega)) ?_
  simp only [qz]
  refine rf_slice3 (lo := i) (hi := i + N) (n := N) (sz := 5) rfl rfl rfl rfl rfl rfl Try.underlying36 (by kernel_rfl) (by omega) (by omega) (by omega) rfl (by omega) (by omega) ?_
  simp only [qz]
  refine rg_yieldK (j := j) (i := i) hR hC hjN hi.out (by rfl) rfl (by simp only [qm, qs, Act.eval]; try rfl) (fun uD hCD => ?_)
  simp only [qz]
  refine rf_not rfl rfl rfl ?_
  simp only [qz]
  refine rg_nil (ek_next (wk_cond_f rfl (wk_skip (ek_block (ek_next ?_)))))
  refine wk_region [0, 0, 0, 0] rfl (by kernel_rfl) ?_
  simp only [qy]
  refine rg_move ?_
  simp only [qz]
  refine rf_load rfl rfl rfl Try.underlying3 rfl (fun w hw => (Kn.hd0 (Kn.tl (Kn.tlU hw))).at rfl) ?_
  simp only [qz]
  refine rf_add rfl rfl rfl rfl (wrap_ok (by omega) (by omega)) ?_
  simp only [qz]
  refine rg_assign ?_
  simp only [qz]
  refine rg_nil ?_
  refine ek_roundF (N - (j + 1)) (by omega) (by kernel_rfl) ?_
  exact ⟨j + 1, i + N, uD, rfl, by rfl, by rfl, by omega, hin1, hCD⟩

def mostN (N : Nat) : Int := [0, 40, 40, 12, 4].getD N 0
theorem most_at : ∀ N : Nat, N ≤ 4 → (#[Value.int .i64 0, .int .i64 40, .int .i64 40, .int .i64 12, .int .i64 4] : Array Value)[N]? = some (.int .i64 (mostN N)) := by
  intro N h
  rcases (by omega : N = 0 ∨ N = 1 ∨ N = 2 ∨ N = 3 ∨ N = 4) with rfl | rfl | rfl | rfl | rfl <;> rfl
set_option maxRecDepth 100000 in
set_option maxHeartbeats 1000000 in
theorem most_any (N : Nat) (hN : N ≤ 4) (w : World) : Calls Try.prog 108 #[.int .i64 (N : Int)] w fun e w' => e = .returned (.int .i64 (mostN N)) ∧ Below w.heap.size w w' := by
  go_enter Try.func108, Try.ntmps108
  refine wk_start ?_
  refine wk_seq ?_
  refine wk_region [0] rfl (by kernel_rfl) ?_
  simp only [qy]
  refine rg_assign ?_
  simp only [qz]
  refine rg_nil (ek_next (wk_seq ?_))
  refine wk_region [1, 0, 0, 0, 0] rfl (by kernel_rfl) ?_
  simp only [qy]
  refine rg_newS (cs := ?_) (ty := ?_) (n := 5) (c := 5) (by rfl) (fun w => ?_) (fun _ h => by cases h) (fun g1 => ?_); rotate_left 2
  focus (go_simp; rfl)
  simp only [qz]
  refine rg_move ?_
  simp only [qz]
  refine rf_indexS (n := N) (sz := 1) (j := N) rfl rfl rfl rfl Try.underlying22 (by kernel_rfl) (by omega) (by omega) (by omega) ?_
  simp only [qz]
  refine rf_load (v := .int .i64 (mostN N)) rfl rfl rfl Try.underlying3 rfl (fun w hw => ((Kn.hd0 hw).cell N).trans (most_at N hN)) ?_
  simp only [qz]
  refine rg_assign ?_
  simp only [qz]
  refine rg_nil (ek_next (wk_ret ?_))
  refine ek_ret (fun w hw => ⟨rfl, _, res_t _ rfl, ?_⟩)
  (try simp only [qz])
  first | exact ⟨rfl, hw.below⟩ | exact ⟨trivial, hw.below⟩ | exact hw.below

end Go.Proofs.Ytccbinnlnkpplaa
namespace Go.Proofs.Ytccbinnlnkpplaa
set_option linter.all false
open Go.RowKit

/-- The bound of a matrix, as the document has it. -/
noncomputable def lstR (n : Int) (xs : List Nm) : Int × Int := if validB n xs = true then (if unB n xs = true then (expo xs, 0) else (0, 22)) else (0, 20)
set_option maxRecDepth 100000 in
set_option maxHeartbeats 1000000 in
theorem sunitary_bad (n : Int) (xs : List Nm) (a : Option Addr) (c : Nat) (hl : xs.length ≤ 1000000) (hv : Hid (validB n xs = false)) (w : World) (hA : AS w a (nms xs)) : Calls Try.prog 64 #[.agg #[.int .i64 n, .slice a xs.length c]] w fun e w' => e = .returned (.tuple #[.int .i64 ((0 : Int)), .int .i64 20]) ∧ Below w.heap.size w w' := by
  go_enter Try.func64, Try.ntmps64
  refine wk_start ?_
  refine wk_seq ?_
  refine wk_region [1, 0, 0] rfl (by kernel_rfl) ?_
  simp only [List.zip_cons_cons, List.zip_nil_right]
  refine rg_new (cs := ?_) (ty := ?_) (by rfl) (fun w => ?_) (fun _ h => by cases h) (fun g1 => ?_); rotate_left 2
  focus (go_simp; rfl)
  simp only [Act.put, Act.eval, qn, qv, Nat.reduceAdd]
  refine rg_assign ?_
  simp only [Act.put, Act.eval, qn, qv, Nat.reduceAdd]
  refine rg_assign ?_
  simp only [Act.put, Act.eval, qn, qv, Nat.reduceAdd]
  refine rg_nil ?_
  refine ek_next ?_
  refine wk_seq ?_
  refine wk_region [0, 1, 0, 0, 0, 0, 0] rfl (by kernel_rfl) ?_
  simp only [List.zip_cons_cons, List.zip_nil_right]
  refine rf_loadR (n := 2) rfl rfl rfl Try.underlying38 rfl (by kernel_rfl) (fun w hw => Kn.hd0 hw) rfl rfl ?_
  simp only [Act.put, Act.eval, qn, qv, Nat.reduceAdd]
  apply rg_pure (by rfl) (by kernel_rfl)
  case hargs => (simp only [qm, qs, Act.eval]; exact rfl)
  case h => exact fun w hw => by have := unitary_any n xs a c hl w (hA.kn0 hw); simp only [hv.out, Bool.and_false, Bool.and_true, Bool.false_and, if_true, if_false, Bool.false_eq_true] at this; exact this
  case hz => exact (fun _ h => by cases h)
  simp only [Act.put, Act.eval, qn, qv, Nat.reduceAdd]
  refine rg_move ?_
  simp only [Act.put, Act.eval, qn, qv, Nat.reduceAdd]
  refine rf_extract rfl rfl rfl rfl ?_
  simp only [Act.put, Act.eval, qn, qv, Nat.reduceAdd]
  refine rf_extract rfl rfl rfl rfl ?_
  simp only [Act.put, Act.eval, qn, qv, Nat.reduceAdd]
  refine rg_assign ?_
  simp only [Act.put, Act.eval, qn, qv, Nat.reduceAdd]
  refine rg_assign ?_
  simp only [Act.put, Act.eval, qn, qv, Nat.reduceAdd]
  refine rg_nil ?_
  refine ek_next ?_
  refine wk_seq ?_
  refine wk_block ?_
  refine wk_seq ?_
  refine wk_region [0, 0, 0] rfl (by kernel_rfl) ?_
  simp only [List.zip_cons_cons, List.zip_nil_right]
  refine rg_move ?_
  simp only [Act.put, Act.eval, qn, qv, Nat.reduceAdd]
  refine rfb_neq rfl rfl rfl rfl ?_
  intro x h1
  cases x
  · (try simp only [decide_eq_true_eq, decide_eq_false_iff_not, Int.not_lt, Int.not_le, beq_iff_eq, beq_eq_false_iff_ne, bne_iff_ne, bne_eq_false_iff_eq, ne_eq, Bool.not_eq_true', Bool.not_eq_false'] at h1)
    simp only [Act.put, Act.eval, qn, qv, Nat.reduceAdd]
    refine rg_assign ?_
    simp only [Act.put, Act.eval, qn, qv, Nat.reduceAdd]
    refine rg_nil ?_
    refine ek_next ?_
    refine wk_cond_f rfl ?_
    refine wk_seq ?_
    refine wk_region [0, 0, 0] rfl (by kernel_rfl) ?_
    simp only [List.zip_cons_cons, List.zip_nil_right]
    refine rg_move ?_
    simp only [Act.put, Act.eval, qn, qv, Nat.reduceAdd]
    refine rf_not rfl rfl rfl ?_
    simp only [Act.put, Act.eval, qn, qv, Nat.reduceAdd]
    refine rg_assign ?_
    simp only [Act.put, Act.eval, qn, qv, Nat.reduceAdd]
    refine rg_nil ?_
    refine ek_next ?_
    refine wk_cond (t := _) rfl (fun h2 => ?_) (fun h2 => ?_)
    · (try simp only [decide_eq_true_eq, decide_eq_false_iff_not, Bool.not_eq_true', Bool.not_eq_false', Int.not_lt, Int.not_le] at h2)
      refine wk_seq ?_
      refine wk_region [0, 0] rfl (by kernel_rfl) ?_
      simp only [List.zip_cons_cons, List.zip_nil_right]
      refine rg_assign ?_
      simp only [Act.put, Act.eval, qn, qv, Nat.reduceAdd]
      refine rg_assign ?_
      simp only [Act.put, Act.eval, qn, qv, Nat.reduceAdd]
      refine rg_nil ?_
      refine ek_next ?_
      refine wk_ret ?_
      refine ek_block_ret ?_
      refine ek_then_ret ?_
      refine ek_ret (fun w hw => ⟨rfl, _, res_tt _ _ rfl, ?_⟩)
      (try simp only [Act.put, Act.eval, qn, qv, Nat.reduceAdd])
      first | exact ⟨rfl, hw.below⟩ | exact ⟨trivial, hw.below⟩ | exact hw.below | (exfalso; simp_all)
    · (try simp only [decide_eq_true_eq, decide_eq_false_iff_not, Bool.not_eq_true', Bool.not_eq_false', Int.not_lt, Int.not_le] at h2)
      refine wk_skip ?_
      refine ek_block ?_
      refine ek_next ?_
      refine wk_seq ?_
      refine wk_region [0, 1, 0, 0, 0, 0] rfl (by kernel_rfl) ?_
      simp only [List.zip_cons_cons, List.zip_nil_right]
      refine rf_loadR (n := 2) rfl rfl rfl Try.underlying38 rfl (by kernel_rfl) (fun w hw => Kn.hd0 hw) rfl rfl ?_
      simp only [Act.put, Act.eval, qn, qv, Nat.reduceAdd]
      apply rg_pure (by rfl) (by kernel_rfl)
      case hargs => (simp only [qm, qs, Act.eval]; exact rfl)
      case h => exact fun w hw => by have := mExponent_any n xs a c hl w (hA.kn0 hw); simp only [expR, hv.out, if_true] at this; exact this
      case hz => exact (fun _ h => by cases h)
      simp only [Act.put, Act.eval, qn, qv, Nat.reduceAdd]
      refine rf_extract rfl rfl rfl rfl ?_
      simp only [Act.put, Act.eval, qn, qv, Nat.reduceAdd]
      refine rf_extract rfl rfl rfl rfl ?_
      simp only [Act.put, Act.eval, qn, qv, Nat.reduceAdd]
      refine rg_assign ?_
      simp only [Act.put, Act.eval, qn, qv, Nat.reduceAdd]
      refine rg_assign ?_
      simp only [Act.put, Act.eval, qn, qv, Nat.reduceAdd]
      refine rg_nil ?_
      refine ek_next ?_
      refine wk_ret ?_
      refine ek_ret (fun w hw => ⟨rfl, _, res_tt _ _ rfl, ?_⟩)
      (try simp only [Act.put, Act.eval, qn, qv, Nat.reduceAdd])
      first | exact ⟨rfl, hw.below⟩ | exact ⟨trivial, hw.below⟩ | exact hw.below | (exfalso; simp_all)
  · (try simp only [decide_eq_true_eq, decide_eq_false_iff_not, Int.not_lt, Int.not_le, beq_iff_eq, beq_eq_false_iff_ne, bne_iff_ne, bne_eq_false_iff_eq, ne_eq, Bool.not_eq_true', Bool.not_eq_false'] at h1)
    simp only [Act.put, Act.eval, qn, qv, Nat.reduceAdd]
    refine rg_assign ?_
    simp only [Act.put, Act.eval, qn, qv, Nat.reduceAdd]
    refine rg_nil ?_
    refine ek_next ?_
    refine wk_cond_t rfl ?_
    refine wk_seq ?_
    refine wk_region [0, 0, 0] rfl (by kernel_rfl) ?_
    simp only [List.zip_cons_cons, List.zip_nil_right]
    refine rg_move ?_
    simp only [Act.put, Act.eval, qn, qv, Nat.reduceAdd]
    refine rg_assign ?_
    simp only [Act.put, Act.eval, qn, qv, Nat.reduceAdd]
    refine rg_assign ?_
    simp only [Act.put, Act.eval, qn, qv, Nat.reduceAdd]
    refine rg_nil ?_
    refine ek_next ?_
    refine wk_ret ?_
    refine ek_block_ret ?_
    refine ek_then_ret ?_
    refine ek_ret (fun w hw => ⟨rfl, _, res_tt _ _ rfl, ?_⟩)
    (try simp only [Act.put, Act.eval, qn, qv, Nat.reduceAdd])
    first | exact ⟨rfl, hw.below⟩ | exact ⟨trivial, hw.below⟩ | exact hw.below | (exfalso; simp_all)

set_option maxRecDepth 100000 in
set_option maxHeartbeats 1000000 in
theorem sunitary_non (n : Int) (xs : List Nm) (a : Option Addr) (c : Nat) (hl : xs.length ≤ 1000000) (hv : Hid (validB n xs = true)) (hu : Hid (unB n xs = false)) (w : World) (hA : AS w a (nms xs)) : Calls Try.prog 64 #[.agg #[.int .i64 n, .slice a xs.length c]] w fun e w' => e = .returned (.tuple #[.int .i64 ((0 : Int)), .int .i64 22]) ∧ Below w.heap.size w w' := by
  go_enter Try.func64, Try.ntmps64
  refine wk_start ?_
  refine wk_seq ?_
  refine wk_region [1, 0, 0] rfl (by kernel_rfl) ?_
  simp only [List.zip_cons_cons, List.zip_nil_right]
  refine rg_new (cs := ?_) (ty := ?_) (by rfl) (fun w => ?_) (fun _ h => by cases h) (fun g1 => ?_); rotate_left 2
  focus (go_simp; rfl)
  simp only [Act.put, Act.eval, qn, qv, Nat.reduceAdd]
  refine rg_assign ?_
  simp only [Act.put, Act.eval, qn, qv, Nat.reduceAdd]
  refine rg_assign ?_
  simp only [Act.put, Act.eval, qn, qv, Nat.reduceAdd]
  refine rg_nil ?_
  refine ek_next ?_
  refine wk_seq ?_
  refine wk_region [0, 1, 0, 0, 0, 0, 0] rfl (by kernel_rfl) ?_
  simp only [List.zip_cons_cons, List.zip_nil_right]
  refine rf_loadR (n := 2) rfl rfl rfl Try.underlying38 rfl (by kernel_rfl) (fun w hw => Kn.hd0 hw) rfl rfl ?_
  simp only [Act.put, Act.eval, qn, qv, Nat.reduceAdd]
  apply rg_pure (by rfl) (by kernel_rfl)
  case hargs => (simp only [qm, qs, Act.eval]; exact rfl)
  case h => exact fun w hw => by have := unitary_any n xs a c hl w (hA.kn0 hw); simp only [hv.out, hu.out, Bool.and_false, Bool.and_true, Bool.false_and, if_true, if_false, Bool.false_eq_true] at this; exact this
  case hz => exact (fun _ h => by cases h)
  simp only [Act.put, Act.eval, qn, qv, Nat.reduceAdd]
  refine rg_move ?_
  simp only [Act.put, Act.eval, qn, qv, Nat.reduceAdd]
  refine rf_extract rfl rfl rfl rfl ?_
  simp only [Act.put, Act.eval, qn, qv, Nat.reduceAdd]
  refine rf_extract rfl rfl rfl rfl ?_
  simp only [Act.put, Act.eval, qn, qv, Nat.reduceAdd]
  refine rg_assign ?_
  simp only [Act.put, Act.eval, qn, qv, Nat.reduceAdd]
  refine rg_assign ?_
  simp only [Act.put, Act.eval, qn, qv, Nat.reduceAdd]
  refine rg_nil ?_
  refine ek_next ?_
  refine wk_seq ?_
  refine wk_block ?_
  refine wk_seq ?_
  refine wk_region [0, 0, 0] rfl (by kernel_rfl) ?_
  simp only [List.zip_cons_cons, List.zip_nil_right]
  refine rg_move ?_
  simp only [Act.put, Act.eval, qn, qv, Nat.reduceAdd]
  refine rfb_neq rfl rfl rfl rfl ?_
  intro x h1
  cases x
  · (try simp only [decide_eq_true_eq, decide_eq_false_iff_not, Int.not_lt, Int.not_le, beq_iff_eq, beq_eq_false_iff_ne, bne_iff_ne, bne_eq_false_iff_eq, ne_eq, Bool.not_eq_true', Bool.not_eq_false'] at h1)
    simp only [Act.put, Act.eval, qn, qv, Nat.reduceAdd]
    refine rg_assign ?_
    simp only [Act.put, Act.eval, qn, qv, Nat.reduceAdd]
    refine rg_nil ?_
    refine ek_next ?_
    refine wk_cond_f rfl ?_
    refine wk_seq ?_
    refine wk_region [0, 0, 0] rfl (by kernel_rfl) ?_
    simp only [List.zip_cons_cons, List.zip_nil_right]
    refine rg_move ?_
    simp only [Act.put, Act.eval, qn, qv, Nat.reduceAdd]
    refine rf_not rfl rfl rfl ?_
    simp only [Act.put, Act.eval, qn, qv, Nat.reduceAdd]
    refine rg_assign ?_
    simp only [Act.put, Act.eval, qn, qv, Nat.reduceAdd]
    refine rg_nil ?_
    refine ek_next ?_
    refine wk_cond (t := _) rfl (fun h2 => ?_) (fun h2 => ?_)
    · (try simp only [decide_eq_true_eq, decide_eq_false_iff_not, Bool.not_eq_true', Bool.not_eq_false', Int.not_lt, Int.not_le] at h2)
      refine wk_seq ?_
      refine wk_region [0, 0] rfl (by kernel_rfl) ?_
      simp only [List.zip_cons_cons, List.zip_nil_right]
      refine rg_assign ?_
      simp only [Act.put, Act.eval, qn, qv, Nat.reduceAdd]
      refine rg_assign ?_
      simp only [Act.put, Act.eval, qn, qv, Nat.reduceAdd]
      refine rg_nil ?_
      refine ek_next ?_
      refine wk_ret ?_
      refine ek_block_ret ?_
      refine ek_then_ret ?_
      refine ek_ret (fun w hw => ⟨rfl, _, res_tt _ _ rfl, ?_⟩)
      (try simp only [Act.put, Act.eval, qn, qv, Nat.reduceAdd])
      first | exact ⟨rfl, hw.below⟩ | exact ⟨trivial, hw.below⟩ | exact hw.below | (exfalso; simp_all)
    · (try simp only [decide_eq_true_eq, decide_eq_false_iff_not, Bool.not_eq_true', Bool.not_eq_false', Int.not_lt, Int.not_le] at h2)
      refine wk_skip ?_
      refine ek_block ?_
      refine ek_next ?_
      refine wk_seq ?_
      refine wk_region [0, 1, 0, 0, 0, 0] rfl (by kernel_rfl) ?_
      simp only [List.zip_cons_cons, List.zip_nil_right]
      refine rf_loadR (n := 2) rfl rfl rfl Try.underlying38 rfl (by kernel_rfl) (fun w hw => Kn.hd0 hw) rfl rfl ?_
      simp only [Act.put, Act.eval, qn, qv, Nat.reduceAdd]
      apply rg_pure (by rfl) (by kernel_rfl)
      case hargs => (simp only [qm, qs, Act.eval]; exact rfl)
      case h => exact fun w hw => by have := mExponent_any n xs a c hl w (hA.kn0 hw); simp only [expR, hv.out, if_true] at this; exact this
      case hz => exact (fun _ h => by cases h)
      simp only [Act.put, Act.eval, qn, qv, Nat.reduceAdd]
      refine rf_extract rfl rfl rfl rfl ?_
      simp only [Act.put, Act.eval, qn, qv, Nat.reduceAdd]
      refine rf_extract rfl rfl rfl rfl ?_
      simp only [Act.put, Act.eval, qn, qv, Nat.reduceAdd]
      refine rg_assign ?_
      simp only [Act.put, Act.eval, qn, qv, Nat.reduceAdd]
      refine rg_assign ?_
      simp only [Act.put, Act.eval, qn, qv, Nat.reduceAdd]
      refine rg_nil ?_
      refine ek_next ?_
      refine wk_ret ?_
      refine ek_ret (fun w hw => ⟨rfl, _, res_tt _ _ rfl, ?_⟩)
      (try simp only [Act.put, Act.eval, qn, qv, Nat.reduceAdd])
      first | exact ⟨rfl, hw.below⟩ | exact ⟨trivial, hw.below⟩ | exact hw.below | (exfalso; simp_all)
  · (try simp only [decide_eq_true_eq, decide_eq_false_iff_not, Int.not_lt, Int.not_le, beq_iff_eq, beq_eq_false_iff_ne, bne_iff_ne, bne_eq_false_iff_eq, ne_eq, Bool.not_eq_true', Bool.not_eq_false'] at h1)
    simp only [Act.put, Act.eval, qn, qv, Nat.reduceAdd]
    refine rg_assign ?_
    simp only [Act.put, Act.eval, qn, qv, Nat.reduceAdd]
    refine rg_nil ?_
    refine ek_next ?_
    refine wk_cond_t rfl ?_
    refine wk_seq ?_
    refine wk_region [0, 0, 0] rfl (by kernel_rfl) ?_
    simp only [List.zip_cons_cons, List.zip_nil_right]
    refine rg_move ?_
    simp only [Act.put, Act.eval, qn, qv, Nat.reduceAdd]
    refine rg_assign ?_
    simp only [Act.put, Act.eval, qn, qv, Nat.reduceAdd]
    refine rg_assign ?_
    simp only [Act.put, Act.eval, qn, qv, Nat.reduceAdd]
    refine rg_nil ?_
    refine ek_next ?_
    refine wk_ret ?_
    refine ek_block_ret ?_
    refine ek_then_ret ?_
    refine ek_ret (fun w hw => ⟨rfl, _, res_tt _ _ rfl, ?_⟩)
    (try simp only [Act.put, Act.eval, qn, qv, Nat.reduceAdd])
    first | exact ⟨rfl, hw.below⟩ | exact ⟨trivial, hw.below⟩ | exact hw.below | (exfalso; simp_all)

set_option maxRecDepth 100000 in
set_option maxHeartbeats 1000000 in
theorem sunitary_yes (n : Int) (xs : List Nm) (a : Option Addr) (c : Nat) (hl : xs.length ≤ 1000000) (hv : Hid (validB n xs = true)) (hu : Hid (unB n xs = true)) (w : World) (hA : AS w a (nms xs)) : Calls Try.prog 64 #[.agg #[.int .i64 n, .slice a xs.length c]] w fun e w' => e = .returned (.tuple #[.int .i64 (expo xs), .int .i64 0]) ∧ Below w.heap.size w w' := by
  go_enter Try.func64, Try.ntmps64
  refine wk_start ?_
  refine wk_seq ?_
  refine wk_region [1, 0, 0] rfl (by kernel_rfl) ?_
  simp only [List.zip_cons_cons, List.zip_nil_right]
  refine rg_new (cs := ?_) (ty := ?_) (by rfl) (fun w => ?_) (fun _ h => by cases h) (fun g1 => ?_); rotate_left 2
  focus (go_simp; rfl)
  simp only [Act.put, Act.eval, qn, qv, Nat.reduceAdd]
  refine rg_assign ?_
  simp only [Act.put, Act.eval, qn, qv, Nat.reduceAdd]
  refine rg_assign ?_
  simp only [Act.put, Act.eval, qn, qv, Nat.reduceAdd]
  refine rg_nil ?_
  refine ek_next ?_
  refine wk_seq ?_
  refine wk_region [0, 1, 0, 0, 0, 0, 0] rfl (by kernel_rfl) ?_
  simp only [List.zip_cons_cons, List.zip_nil_right]
  refine rf_loadR (n := 2) rfl rfl rfl Try.underlying38 rfl (by kernel_rfl) (fun w hw => Kn.hd0 hw) rfl rfl ?_
  simp only [Act.put, Act.eval, qn, qv, Nat.reduceAdd]
  apply rg_pure (by rfl) (by kernel_rfl)
  case hargs => (simp only [qm, qs, Act.eval]; exact rfl)
  case h => exact fun w hw => by have := unitary_any n xs a c hl w (hA.kn0 hw); simp only [hv.out, hu.out, Bool.and_false, Bool.and_true, Bool.false_and, if_true, if_false, Bool.false_eq_true] at this; exact this
  case hz => exact (fun _ h => by cases h)
  simp only [Act.put, Act.eval, qn, qv, Nat.reduceAdd]
  refine rg_move ?_
  simp only [Act.put, Act.eval, qn, qv, Nat.reduceAdd]
  refine rf_extract rfl rfl rfl rfl ?_
  simp only [Act.put, Act.eval, qn, qv, Nat.reduceAdd]
  refine rf_extract rfl rfl rfl rfl ?_
  simp only [Act.put, Act.eval, qn, qv, Nat.reduceAdd]
  refine rg_assign ?_
  simp only [Act.put, Act.eval, qn, qv, Nat.reduceAdd]
  refine rg_assign ?_
  simp only [Act.put, Act.eval, qn, qv, Nat.reduceAdd]
  refine rg_nil ?_
  refine ek_next ?_
  refine wk_seq ?_
  refine wk_block ?_
  refine wk_seq ?_
  refine wk_region [0, 0, 0] rfl (by kernel_rfl) ?_
  simp only [List.zip_cons_cons, List.zip_nil_right]
  refine rg_move ?_
  simp only [Act.put, Act.eval, qn, qv, Nat.reduceAdd]
  refine rfb_neq rfl rfl rfl rfl ?_
  intro x h1
  cases x
  · (try simp only [decide_eq_true_eq, decide_eq_false_iff_not, Int.not_lt, Int.not_le, beq_iff_eq, beq_eq_false_iff_ne, bne_iff_ne, bne_eq_false_iff_eq, ne_eq, Bool.not_eq_true', Bool.not_eq_false'] at h1)
    simp only [Act.put, Act.eval, qn, qv, Nat.reduceAdd]
    refine rg_assign ?_
    simp only [Act.put, Act.eval, qn, qv, Nat.reduceAdd]
    refine rg_nil ?_
    refine ek_next ?_
    refine wk_cond_f rfl ?_
    refine wk_seq ?_
    refine wk_region [0, 0, 0] rfl (by kernel_rfl) ?_
    simp only [List.zip_cons_cons, List.zip_nil_right]
    refine rg_move ?_
    simp only [Act.put, Act.eval, qn, qv, Nat.reduceAdd]
    refine rf_not rfl rfl rfl ?_
    simp only [Act.put, Act.eval, qn, qv, Nat.reduceAdd]
    refine rg_assign ?_
    simp only [Act.put, Act.eval, qn, qv, Nat.reduceAdd]
    refine rg_nil ?_
    refine ek_next ?_
    refine wk_cond (t := _) rfl (fun h2 => ?_) (fun h2 => ?_)
    · (try simp only [decide_eq_true_eq, decide_eq_false_iff_not, Bool.not_eq_true', Bool.not_eq_false', Int.not_lt, Int.not_le] at h2)
      refine wk_seq ?_
      refine wk_region [0, 0] rfl (by kernel_rfl) ?_
      simp only [List.zip_cons_cons, List.zip_nil_right]
      refine rg_assign ?_
      simp only [Act.put, Act.eval, qn, qv, Nat.reduceAdd]
      refine rg_assign ?_
      simp only [Act.put, Act.eval, qn, qv, Nat.reduceAdd]
      refine rg_nil ?_
      refine ek_next ?_
      refine wk_ret ?_
      refine ek_block_ret ?_
      refine ek_then_ret ?_
      refine ek_ret (fun w hw => ⟨rfl, _, res_tt _ _ rfl, ?_⟩)
      (try simp only [Act.put, Act.eval, qn, qv, Nat.reduceAdd])
      first | exact ⟨rfl, hw.below⟩ | exact ⟨trivial, hw.below⟩ | exact hw.below | (exfalso; simp_all)
    · (try simp only [decide_eq_true_eq, decide_eq_false_iff_not, Bool.not_eq_true', Bool.not_eq_false', Int.not_lt, Int.not_le] at h2)
      refine wk_skip ?_
      refine ek_block ?_
      refine ek_next ?_
      refine wk_seq ?_
      refine wk_region [0, 1, 0, 0, 0, 0] rfl (by kernel_rfl) ?_
      simp only [List.zip_cons_cons, List.zip_nil_right]
      refine rf_loadR (n := 2) rfl rfl rfl Try.underlying38 rfl (by kernel_rfl) (fun w hw => Kn.hd0 hw) rfl rfl ?_
      simp only [Act.put, Act.eval, qn, qv, Nat.reduceAdd]
      apply rg_pure (by rfl) (by kernel_rfl)
      case hargs => (simp only [qm, qs, Act.eval]; exact rfl)
      case h => exact fun w hw => by have := mExponent_any n xs a c hl w (hA.kn0 hw); simp only [expR, hv.out, if_true] at this; exact this
      case hz => exact (fun _ h => by cases h)
      simp only [Act.put, Act.eval, qn, qv, Nat.reduceAdd]
      refine rf_extract rfl rfl rfl rfl ?_
      simp only [Act.put, Act.eval, qn, qv, Nat.reduceAdd]
      refine rf_extract rfl rfl rfl rfl ?_
      simp only [Act.put, Act.eval, qn, qv, Nat.reduceAdd]
      refine rg_assign ?_
      simp only [Act.put, Act.eval, qn, qv, Nat.reduceAdd]
      refine rg_assign ?_
      simp only [Act.put, Act.eval, qn, qv, Nat.reduceAdd]
      refine rg_nil ?_
      refine ek_next ?_
      refine wk_ret ?_
      refine ek_ret (fun w hw => ⟨rfl, _, res_tt _ _ rfl, ?_⟩)
      (try simp only [Act.put, Act.eval, qn, qv, Nat.reduceAdd])
      first | exact ⟨rfl, hw.below⟩ | exact ⟨trivial, hw.below⟩ | exact hw.below | (exfalso; simp_all)
  · (try simp only [decide_eq_true_eq, decide_eq_false_iff_not, Int.not_lt, Int.not_le, beq_iff_eq, beq_eq_false_iff_ne, bne_iff_ne, bne_eq_false_iff_eq, ne_eq, Bool.not_eq_true', Bool.not_eq_false'] at h1)
    simp only [Act.put, Act.eval, qn, qv, Nat.reduceAdd]
    refine rg_assign ?_
    simp only [Act.put, Act.eval, qn, qv, Nat.reduceAdd]
    refine rg_nil ?_
    refine ek_next ?_
    refine wk_cond_t rfl ?_
    refine wk_seq ?_
    refine wk_region [0, 0, 0] rfl (by kernel_rfl) ?_
    simp only [List.zip_cons_cons, List.zip_nil_right]
    refine rg_move ?_
    simp only [Act.put, Act.eval, qn, qv, Nat.reduceAdd]
    refine rg_assign ?_
    simp only [Act.put, Act.eval, qn, qv, Nat.reduceAdd]
    refine rg_assign ?_
    simp only [Act.put, Act.eval, qn, qv, Nat.reduceAdd]
    refine rg_nil ?_
    refine ek_next ?_
    refine wk_ret ?_
    refine ek_block_ret ?_
    refine ek_then_ret ?_
    refine ek_ret (fun w hw => ⟨rfl, _, res_tt _ _ rfl, ?_⟩)
    (try simp only [Act.put, Act.eval, qn, qv, Nat.reduceAdd])
    first | exact ⟨rfl, hw.below⟩ | exact ⟨trivial, hw.below⟩ | exact hw.below | (exfalso; simp_all)

theorem sunitary_any (n : Int) (xs : List Nm) (a : Option Addr) (c : Nat) (hl : xs.length ≤ 1000000) (w : World) (hA : AS w a (nms xs)) : Calls Try.prog 64 #[.agg #[.int .i64 n, .slice a xs.length c]] w fun e w' => e = .returned (.tuple #[.int .i64 (lstR n xs).1, .int .i64 (lstR n xs).2]) ∧ Below w.heap.size w w' := by
  unfold lstR
  rcases hv : validB n xs with _ | _
  · exact sunitary_bad n xs a c hl (Lib.hid hv) w hA
  · rcases hu : unB n xs with _ | _
    · exact sunitary_non n xs a c hl (Lib.hid hv) (Lib.hid hu) w hA
    · exact sunitary_yes n xs a c hl (Lib.hid hv) (Lib.hid hu) w hA
set_option maxRecDepth 100000 in
set_option maxHeartbeats 1000000 in
theorem sleast_any (n : Int) (xs : List Nm) (a : Option Addr) (c : Nat) (hl : xs.length ≤ 1000000) (w : World) (hA : AS w a (nms xs)) : Calls Try.prog 23 #[.agg #[.int .i64 n, .slice a xs.length c]] w fun e w' => e = .returned (.tuple #[.int .i64 (lstR n xs).1, .int .i64 (lstR n xs).2]) ∧ Below w.heap.size w w' := by
  go_enter Try.func23, Try.ntmps23
  refine wk_start ?_
  refine wk_seq ?_
  refine wk_region [1, 0, 0] rfl (by kernel_rfl) ?_
  simp only [List.zip_cons_cons, List.zip_nil_right]
  refine rg_new (cs := ?_) (ty := ?_) (by rfl) (fun w => ?_) (fun _ h => by cases h) (fun g1 => ?_); rotate_left 2
  focus (go_simp; rfl)
  simp only [Act.put, Act.eval, qn, qv, Nat.reduceAdd]
  refine rg_assign ?_
  simp only [Act.put, Act.eval, qn, qv, Nat.reduceAdd]
  refine rg_assign ?_
  simp only [Act.put, Act.eval, qn, qv, Nat.reduceAdd]
  refine rg_nil ?_
  refine ek_next ?_
  refine wk_seq ?_
  refine wk_region [0, 1, 0, 0, 0, 0] rfl (by kernel_rfl) ?_
  simp only [List.zip_cons_cons, List.zip_nil_right]
  refine rf_loadR (n := 2) rfl rfl rfl Try.underlying38 rfl (by kernel_rfl) (fun w hw => Kn.hd0 hw) rfl rfl ?_
  simp only [Act.put, Act.eval, qn, qv, Nat.reduceAdd]
  apply rg_pure (by rfl) (by kernel_rfl)
  case hargs => (simp only [qm, qs, Act.eval]; exact rfl)
  case h => exact fun w hw => sunitary_any n xs a c hl w (hA.kn0 hw)
  case hz => exact (fun _ h => by cases h)
  simp only [Act.put, Act.eval, qn, qv, Nat.reduceAdd]
  refine rf_extract rfl rfl rfl rfl ?_
  simp only [Act.put, Act.eval, qn, qv, Nat.reduceAdd]
  refine rf_extract rfl rfl rfl rfl ?_
  simp only [Act.put, Act.eval, qn, qv, Nat.reduceAdd]
  refine rg_assign ?_
  simp only [Act.put, Act.eval, qn, qv, Nat.reduceAdd]
  refine rg_assign ?_
  simp only [Act.put, Act.eval, qn, qv, Nat.reduceAdd]
  refine rg_nil ?_
  refine ek_next ?_
  refine wk_ret ?_
  refine ek_ret (fun w hw => ⟨rfl, _, res_tt _ _ rfl, ?_⟩)
  (try simp only [Act.put, Act.eval, qn, qv, Nat.reduceAdd])
  first | exact ⟨rfl, hw.below⟩ | exact ⟨trivial, hw.below⟩ | exact hw.below | (exfalso; simp_all)

end Go.Proofs.Ytccbinnlnkpplaa
namespace Go.Proofs.Ytccbinnlnkpplaa
set_option linter.all false
open Go.RowKit
section
variable {R : Option Nat} {P : Program} {ops : Array Oper} {Q : Exit → Act → World → Prop} {B : World} {F : List Nat} {fuel : Nat} {listed : Array Bool} {a : Act} {s : List Blk}
theorem oper_out {K : Act → World → Prop} {o : Oper} {w : World} (h : o.wpIn (FR R) 0 P a w K (Exit.then K Q)) : o.wpIn (FR R) 0 P a w K Q := by
  unfold Oper.wpIn at *
  refine ⟨h.1, ?_⟩
  have h := h.2
  generalize (o.semAt (FR R).round a.eval).run P w = r at *
  cases r with
  | ok n w' =>
    cases n <;> simp only [Oper.uponIn] at h ⊢ <;>
      first
        | exact h
        | exact ⟨h.1, CallsIn.mono h.2 (fun e w'' he => by cases e <;> first | exact he | (obtain ⟨a₀, w₀, h₀⟩ := he; exact ⟨a₀, w₀, h₀⟩))⟩
        | exact ⟨h.1, RoundIn.mono h.2 (fun e w'' he => by cases e <;> first | exact he | (obtain ⟨a₀, w₀, h₀⟩ := he; exact ⟨a₀, w₀, h₀⟩))⟩
  | halt x w' => cases x <;> simp only [Oper.uponIn] at h ⊢ <;> exact h
theorem op_one {i : Nat} {o : Oper} {K : Act → World → Prop} {w : World} (ho : ops[i]? = some o) (h : wpListIn (FR R) 0 P ops (Exit.then K Q) [o] a w) : wpOpIn (FR R) 0 P ops Q i K a w := by
  unfold wpOpIn
  simp only [ho]
  unfold wpListIn at h
  split
  · next hw =>
    rw [if_pos hw] at h
    exact oper_out h
  · next hw =>
    rw [if_neg hw] at h
    exact h
end
end Go.Proofs.Ytccbinnlnkpplaa
namespace Go.Proofs.Ytccbinnlnkpplaa
set_option linter.all false
open Go.RowKit

/-- What holds at an end; nothing is let out. -/
def noOut (Q : Exit → Act → World → Prop) (e : Exit) (a : Act) (w : World) : Prop := match e with
  | .outgrown => False
  | e => Q e a w
theorem ek_out {Q : Exit → Act → World → Prop} {B : World} {F : List Nat} {a : Act} {s : List Blk} (h : Ek B F Q .normal a s) : Ek B F (noOut Q) .normal a s := h
theorem noOut_imp {Q : Exit → Act → World → Prop} {e : Exit} {a : Act} {w : World} (h : noOut Q e a w) : Q e a w := by
  cases e <;> first | exact h | exact h.elim
section
variable {R : Option Nat} {P : Program} {ops : Array Oper} {Q : Exit → Act → World → Prop} {md : Region.Mode}
theorem hop_post {Q' : Exit → Act → World → Prop} {K : Act → World → Prop} {o : Oper} {a : Act} {w : World} (hq : ∀ e a w, Q e a w → Q' e a w) (h : hop P ops Q K o a w) : hop P ops Q' K o a w := by
  unfold hop at *
  split
  · rename_i hw
    rw [if_pos hw] at h
    unfold Oper.wp at *
    generalize (execOp a.eval o).run P w = r at *
    cases r with
    | ok n w' =>
      cases n <;> simp only [Oper.upon] at h ⊢ <;>
        first
          | exact h
          | exact Calls.mono h (fun e w'' he => by cases e <;> first | exact he | exact hq _ _ _ he | (obtain ⟨a₀, w₀, h₀⟩ := he; exact ⟨a₀, w₀, hq _ _ _ h₀⟩))
    | halt x w' => cases x <;> simp only [Oper.upon] at h ⊢ <;> first | exact hq _ _ _ h | exact h
  · rename_i hw; rw [if_neg hw] at h; exact h
theorem op_in {i : Nat} {K K' : Act → World → Prop} {a : Act} {w : World} (hd : ∀ (i : Nat) (o : Oper), ops[i]? = some o → noDefer [o] = true) (hk : ∀ a w, K a w → K' a w) (h : wpOp P ops (noOut Q) i K a w) : wpOpIn (FR R) 0 P ops Q i K' a w := by
  unfold wpOp at h
  cases ho : ops[i]? with
  | none => rw [ho] at h; unfold wpOpIn; simp only [ho]; exact hk _ _ h
  | some o =>
    rw [ho] at h
    simp only at h
    have hh : hop P ops Q K' o a w := by
      refine hop_mono hk (hop_post (fun e a w h => noOut_imp h) (?_ : hop P ops (noOut Q) K o a w))
      unfold hop
      split at h
      · rename_i hw
        rw [if_pos hw]
        rcases h with h | ⟨-, a₀, w₀, h₀⟩
        · exact h
        · exact h₀.elim
      · rename_i hw
        rw [if_neg hw]; exact h
    refine op_one ho ?_
    have h2 : hop P ops (Exit.then K' Q) K' o a w := by
      unfold hop at hh ⊢
      split
      · rename_i hw
        rw [if_pos hw] at hh
        unfold Oper.wp at *
        generalize (execOp a.eval o).run P w = r at *
        cases r with
        | ok n w' =>
          cases n <;> simp only [Oper.upon] at hh ⊢ <;>
            first
              | exact hh
              | exact Calls.mono hh (fun e w'' he => by cases e <;> first | exact he | (obtain ⟨a₀, w₀, h₀⟩ := he; exact ⟨a₀, w₀, h₀⟩))
        | halt x w' => cases x <;> simp only [Oper.upon] at hh ⊢ <;> exact hh
      · rename_i hw; rw [if_neg hw] at hh; exact hh
    exact hop_in (hd i o ho) h2 (fun a w hk => by unfold wpListIn; exact hk)
theorem any_in (hd : ∀ (i : Nat) (o : Oper), ops[i]? = some o → noDefer [o] = true) : ∀ (fuel : Nat) (listed : Array Bool) (a : Act) (w : World), wpAny P md ops (noOut Q) fuel listed a w → wpAnyIn (FR R) 0 P md ops Q fuel listed a w
  | 0, _, _, _, h => h
  | fuel + 1, _, _, _, h => ⟨h.1, fun i hi => op_in hd (fun a' w' h' => any_in hd fuel _ a' w' h') (h.2 i hi)⟩
theorem any_eagT {a : Act} {w : World} {l : List Oper} {c : World → Prop} (m : List (Nat × (World → Prop))) (b : World → Prop) (ord : List (Nat × Nat)) 
    (hB : (Region.noSelect l.toArray && (decide (ord.length = l.length) && eagT .any l.toArray ord (m.map (·.1)) (Array.replicate l.length false))) = true)
    (hQ : ∀ c d v a w, Q (.panic c) (Act.put a d v) w → Q (.panic c) a w) (hb : b w.drew) (hc : ∀ w, b w → c w) (hcm : ∀ x ∈ m, ∀ w, x.2 w → c w)
    (h : wpEagF P l.toArray Q c ord m b a w.drew) : wpAny P .any l.toArray Q l.length (Array.replicate l.length false) a w.drew := by
  simp only [Bool.and_eq_true, decide_eq_true_eq] at hB
  obtain ⟨hs, hl, hB⟩ := hB
  have hx : ∀ x ∈ m, (Array.replicate l.length false).getD x.1 false = false := fun x _ => by
    rw [Array.getD_eq_getD_getElem?]
    rcases Nat.lt_or_ge x.1 l.length with h' | h' <;> simp [h', Array.getElem?_replicate]
  have := wpAnyF_of_eagT (md := .any) hs hQ ord m b _ a w.drew (fun k ok hk h => by
    rw [Array.getD_eq_getD_getElem?] at h
    rcases Nat.lt_or_ge k l.length with h' | h' <;> simp [h', Array.getElem?_replicate] at h) hx hc hcm hB hb h
  rw [hl] at this
  exact wpAny_of_F _ _ _ _ (by simpa using this)
end
section
variable {R : Option Nat} {P : Program} {ops : Array Oper} {Q : Exit → Act → World → Prop} {B : World} {F : List Nat} {s0 : Option (List Blk × List Blk)}
/-- A region that draws its order; z: what is known till the marked operation comes up, z1: what is known behind it. -/
theorem wk_drawsR {id : Nat} {a : Act} {s : List Blk} {l : List Oper} (z z1 : List Blk) (ord : List (Nat × Nat)) (mk : List Nat) (hm : P.follows .mixedOrders = true)
    (hB : ((Region.noSelect l.toArray && (decide (ord.length = l.length) && eagT .any l.toArray ord mk (Array.replicate l.length false))) &&
      ((ord.all fun p => decide (p.1 < l.length)) && (decide (mk.length ≤ 1) && decide ((ord.map (·.2)).filter (· == 2) = mk.map fun _ => 2)))) = true)
    (hQ : ∀ c d v a w, Q (.panic c) (Act.put a d v) w → Q (.panic c) a w) (hz : z.Sublist s) (hzz : mk = [] → z = z1)
    (hdf : (l.all fun o => noDefer [o]) = true)
    (h : Rg none P l.toArray (noOut Q) B F (some (z, z1)) (ord.map fun p => (l.getD p.1 default, p.2)) a s) (hy : z1.Sublist z := by exact List.Sublist.refl _) : Wk R P B F Q a s (Code.region id l.toArray true) := fun w K => by
  simp only [Bool.and_eq_true, decide_eq_true_eq, List.all_eq_true] at hB
  obtain ⟨hB1, h1, h3, h4⟩ := hB
  have hd : ∀ (i : Nat) (o : Oper), l.toArray[i]? = some o → noDefer [o] = true := fun i o ho => by
    rw [List.getElem?_toArray] at ho
    exact List.all_eq_true.1 hdf o (List.mem_of_getElem? ho)
  refine wpIn_region_any hm ?_
  have hsz : l.toArray.size = l.length := by simp
  rw [hsz]
  refine any_in hd _ _ _ _ ?_
  have hQ' : ∀ c d v a w, noOut Q (.panic c) (Act.put a d v) w → noOut Q (.panic c) a w := hQ
  match mk, h3, h4, hB1, hzz with
  | [], _, h4, hB1, hzz =>
    refine any_eagT [] (Kn B F z) ord (by simp only [Bool.and_eq_true, decide_eq_true_eq]; exact hB1) hQ' (K.drew.sub hz) (fun w K => K.sub hy) (fun x hx => nomatch hx) ?_
    refine rg_eag l rfl 0 ord (z, z1) a s [] (.inr ⟨rfl, hzz rfl, fun p hp e => ?_⟩) (by rw [if_pos rfl]; exact h4) (by simpa [List.all_eq_true] using h1) h w.drew K.drew
    have : p.2 ∈ (ord.map (·.2)).filter (· == 2) := List.mem_filter.2 ⟨List.mem_map.2 ⟨p, hp, rfl⟩, by simp [e]⟩
    rw [h4] at this; cases this
  | [x], _, h4, hB1, _ =>
    refine any_eagT [(x, Kn B F z1)] (Kn B F z) ord (by simp only [Bool.and_eq_true, decide_eq_true_eq]; exact hB1) hQ' (K.drew.sub hz) (fun w K => K.sub hy) (fun x hx w K => by simp only [List.mem_singleton] at hx; subst hx; exact K) ?_
    exact rg_eag l rfl x ord (z, z1) a s [(x, Kn B F z1)] (.inl rfl) (by rw [if_neg (by simp)]; exact h4) (by simpa [List.all_eq_true] using h1) h w.drew K.drew
  | _ :: _ :: _, h3, _, _, _ => simp at h3

end
end Go.Proofs.Ytccbinnlnkpplaa
namespace Go.Proofs.Ytccbinnlnkpplaa
set_option linter.all false
open Go.RowKit

theorem exl_loop {B w : World} {F : List Nat} {s : List Blk} {l : Nat} {r : Loop} (K : Kn B F ((l, .loop r) :: s) w) : ∃ r', r' = r := ⟨_, rfl⟩
theorem fold_zipK {γ : Type} (f : γ → Nat × Value → γ) (t : γ) (p : Nat) (v : Value) : Array.foldl f t (#[p].zip #[v]) = f t (p, v) := by
  have e : (#[p].zip #[v]) = #[(p, v)] := by rw [List.zip_toArray]; rfl
  rw [e]; simp
/-- N numbers of a list from i on. -/
def chunkL (zs : List Nm) (i N : Nat) : List Nm := (List.range N).map fun k => nm zs (i + k)
theorem chunkL_len (zs : List Nm) (i N : Nat) : (chunkL zs i N).length = N := by simp [chunkL]
theorem chunkL_nm {zs : List Nm} {i N k : Nat} (h : k < N) : nm (chunkL zs i N) k = nm zs (i + k) := by
  show ((chunkL zs i N).getD k _) = _
  unfold chunkL
  rw [List.getD_eq_getElem?_getD, List.getElem?_map, List.getElem?_range h]; rfl
theorem chunk_as {w : World} {b i N : Nat} {zs : List Nm} {r : List Value} (h : Hd w b 45 (NmE.flat zs ++ r).toArray) (hl : i + N ≤ zs.length) : AS w (some ⟨b, 0 + i * 5, none⟩) (nms (chunkL zs i N)) := fun _ => by
  refine ⟨b, _, rfl, h.lt, fun j hj => ?_⟩
  have hf : (nms (chunkL zs i N)).length = N * 5 := (NmE.flat_len _).trans (by rw [chunkL_len])
  have hd := Nat.div_add_mod j 5
  have hm5 := Nat.mod_lt j (show 0 < 5 by omega)
  have hk : j / 5 < N := by omega
  have h1 := NmE.get (chunkL zs i N) (j / 5) (j % 5) (by rw [chunkL_len]; exact hk) hm5
  have h2 := NmE.get zs (i + j / 5) (j % 5) (by omega) hm5
  have e1 : NmE.at (chunkL zs i N) (j / 5) = NmE.at zs (i + j / 5) := chunkL_nm hk
  rw [e1, ← h2] at h1
  have e2 : j / 5 * NmE.sz + j % 5 = j := by show j / 5 * 5 + j % 5 = j; omega
  have e3 : (i + j / 5) * NmE.sz + j % 5 = 0 + i * 5 + j := by show (i + j / 5) * 5 + j % 5 = _; omega
  rw [e2, e3] at h1
  have hzl := NmE.flat_len zs
  have hlt : 0 + i * 5 + j < (NmE.flat zs).length := by rw [hzl]; show _ < zs.length * 5; omega
  rw [h.cell, List.getElem?_toArray, List.getElem?_append_left hlt, h1]
/-- The blocks when j rows have been copied. -/
def ChC (N lp gp gw bz : Nat) (r : Loop) (zs : List Nm) (rz : List Value) (j : Nat) (s : List Blk) : Prop := ∃ (ra : Option Addr) (rc : Nat) (rs : List RW) (uo : List Blk),
  s = (lp, .loop r) :: (gp, .cells #[.pointer (some ⟨gw, 0, none⟩)] 128) :: (gw, .cells #[.slice ra j rc, .slice none 0 0] 131) :: (bz, .cells (NmE.flat zs ++ rz).toArray 45) :: (rwB rs ++ (uo ++ [])) ∧
  Own 36 1 uo (.slice ra j rc) j (rwV N rs) ∧ rs.length = j ∧ ∀ i x, rs[i]? = some x → x.l.length = N ∧ ∀ k, k < N → nm x.l k = nm zs (i * N + k)
theorem rw_snoc_get {rs : List RW} {x q : RW} {i : Nat} (h : (rs ++ [x])[i]? = some q) : i = rs.length ∧ q = x ∨ rs[i]? = some q := by
  rcases (by omega : i < rs.length ∨ i = rs.length ∨ rs.length < i) with h1 | h1 | h1
  · rw [List.getElem?_append_left h1] at h; exact .inr h
  · subst h1
    rw [List.getElem?_append_right (Nat.le_refl _), Nat.sub_self] at h
    exact .inl ⟨rfl, (Option.some.inj h).symm⟩
  rw [List.getElem?_eq_none (by simp; omega)] at h; cases h
/-- The error of Program. -/
noncomputable def askE (n : Int) (xs : List Nm) : Int := if validB n xs = true then (if n > 4 ∨ expo xs > mostN n.toNat then 4 else if unB n xs = true then 0 else 22) else 20
/-- What is said of a program's items. -/
def ProgL (N : Nat) (xs : List Nm) (L : List It) : Prop := (∀ x ∈ L, fitB N x = true) ∧ L.length ≤ 5000 ∧ EqT N (actQ L fun i k => Q4.conj (tb N xs k i)) dl
set_option maxRecDepth 100000 in
set_option maxHeartbeats 1000000 in
theorem prog_invalid (n : Int) (xs : List Nm) (a : Option Addr) (c : Nat) (hl : xs.length ≤ 1000000) (hv : Hid (validB n xs = false)) (w : World) (hA : AS w a (nms xs)) : Calls Try.prog 59 #[.agg #[.int .i64 n, .slice a xs.length c]] w fun e w' => RetS w [] 20 e w' := by
  refine calls_marks Try.func59 rfl ?_
  simp only [Try.ntmps59, List.size_toArray, List.length_cons, List.length_nil, Nat.reduceAdd, Nat.reduceSub, Array.replicate_succ, Array.replicate_zero, List.push_toArray, List.append_toArray, List.nil_append, List.cons_append]
  refine wk_seq ?_
  refine wk_region [1, 0, 0] rfl (by kernel_rfl) ?_
  simp only [qy]
  refine rg_new (cs := ?_) (ty := ?_) (by rfl) (fun w => ?_) (fun _ h => by cases h) (fun g1 => ?_); rotate_left 2
  focus (go_simp; rfl)
  simp only [qz]
  refine rg_assign ?_
  simp only [qz]
  refine rg_assign ?_
  simp only [qz]
  refine rg_nil (ek_next (wk_seq (wk_seq ?_)))
  refine wk_region [0, 1, 0] rfl (by kernel_rfl) ?_
  simp only [qy]
  refine rf_loadR (n := 2) rfl rfl rfl Try.underlying38 rfl (by kernel_rfl) (fun w hw => Kn.hd0 hw) rfl rfl ?_
  simp only [qz]
  apply rg_pure (by rfl) (by kernel_rfl)
  case hargs => (simp only [qm, qs, Act.eval]; exact rfl)
  case h => exact fun w hw => by have := mvalid_any n xs a c hl w (hA.kn0 hw); rw [hv.out] at this; exact this
  case hz => exact (fun _ h => by cases h)
  simp only [qz]
  refine rf_not rfl rfl rfl ?_
  simp only [qz]
  refine rg_nil (ek_next (wk_cond_t rfl (wk_seq ?_)))
  refine wk_region [0, 0] rfl (by kernel_rfl) ?_
  simp only [qy]
  refine rg_assign ?_
  simp only [qz]
  refine rg_assign ?_
  simp only [qz]
  refine rg_nil (ek_next (wk_ret (ek_then_ret ?_)))
  refine ek_retM0 (fun w hw => ⟨_, res_tt _ _ rfl, ?_⟩)
  (try simp only [qz])
  exact ⟨.slice none 0 0, [], (by first | rfl | trivial), OwnT.nil, .nil hw.below⟩

set_option maxRecDepth 100000 in
set_option maxHeartbeats 1000000 in
theorem prog_big (N : Nat) (xs : List Nm) (a : Option Addr) (c : Nat) (hl : xs.length ≤ 1000000) (hv : Hid (validB (N : Int) xs = true)) (hN : (N : Int) > 4) (w : World) (hA : AS w a (nms xs)) : Calls Try.prog 59 #[.agg #[.int .i64 N, .slice a xs.length c]] w fun e w' => RetS w [] 4 e w' := by
  have hex : Hid (expR (N : Int) xs = (expo xs, 0)) := Lib.hid (by unfold expR; rw [hv.out, if_pos rfl])
  refine calls_marks Try.func59 rfl ?_
  simp only [Try.ntmps59, List.size_toArray, List.length_cons, List.length_nil, Nat.reduceAdd, Nat.reduceSub, Array.replicate_succ, Array.replicate_zero, List.push_toArray, List.append_toArray, List.nil_append, List.cons_append]
  refine wk_seq ?_
  refine wk_region [1, 0, 0] rfl (by kernel_rfl) ?_
  simp only [qy]
  refine rg_new (cs := ?_) (ty := ?_) (by rfl) (fun w => ?_) (fun _ h => by cases h) (fun g1 => ?_); rotate_left 2
  focus (go_simp; rfl)
  simp only [qz]
  refine rg_assign ?_
  simp only [qz]
  refine rg_assign ?_
  simp only [qz]
  refine rg_nil (ek_next (wk_seq (wk_seq ?_)))
  refine wk_region [0, 1, 0] rfl (by kernel_rfl) ?_
  simp only [qy]
  refine rf_loadR (n := 2) rfl rfl rfl Try.underlying38 rfl (by kernel_rfl) (fun w hw => Kn.hd0 hw) rfl rfl ?_
  simp only [qz]
  apply rg_pure (by rfl) (by kernel_rfl)
  case hargs => (simp only [qm, qs, Act.eval]; exact rfl)
  case h => exact fun w hw => by have := mvalid_any (N : Int) xs a c hl w (hA.kn0 hw); rw [hv.out] at this; exact this
  case hz => exact (fun _ h => by cases h)
  simp only [qz]
  refine rf_not rfl rfl rfl ?_
  simp only [qz]
  refine rg_nil (ek_next (wk_cond_f rfl (wk_skip (ek_next (wk_seq ?_)))))
  refine wk_region [0, 1, 0, 0, 0, 0, 0] rfl (by kernel_rfl) ?_
  simp only [qy]
  refine rf_loadR (n := 2) rfl rfl rfl Try.underlying38 rfl (by kernel_rfl) (fun w hw => Kn.hd0 hw) rfl rfl ?_
  simp only [qz]
  apply rg_pure (by rfl) (by kernel_rfl)
  case hargs => (simp only [qm, qs, Act.eval]; exact rfl)
  case h => exact fun w hw => by have := mExponent_any (N : Int) xs a c hl w (hA.kn0 hw); rw [hex.out] at this; exact this
  case hz => exact (fun _ h => by cases h)
  simp only [qz]
  refine rg_move ?_
  simp only [qz]
  refine rf_extract rfl rfl rfl rfl ?_
  simp only [qz]
  refine rf_extract rfl rfl rfl rfl ?_
  simp only [qz]
  refine rg_assign ?_
  simp only [qz]
  refine rg_assign ?_
  simp only [qz]
  refine rg_nil (ek_next (wk_seq (wk_seq ?_)))
  refine wk_region [0, 0, 0, 0, 0, 0, 0, 1, 0, 0] rfl (by kernel_rfl) ?_
  simp only [qy]
  refine rf_field (n := 0) (j := 0) rfl rfl rfl Try.underlying38 rfl (by kernel_rfl) rfl ?_
  simp only [qz]
  refine rf_load rfl rfl rfl Try.underlying3 rfl (fun w hw => (Kn.hd0 hw).at rfl) ?_
  simp only [qz]
  refine rfb_gtr rfl rfl rfl rfl ?_
  intro x h1
  obtain rfl : x = true := by (refine h1.symm.trans ?_; exact decide_eq_true (by omega))
  clear h1
  simp only [qz]
  refine rg_move ?_
  simp only [qz]
  refine rg_skip (by rfl) ?_
  simp only [qz]
  refine rg_skip (by rfl) ?_
  simp only [qz]
  refine rg_skip (by rfl) ?_
  simp only [qz]
  refine rg_skip_h (by rfl) (fun _ h => by cases h) ?_
  simp only [qz]
  refine rg_skip (by rfl) ?_
  simp only [qz]
  refine rf_pick rfl rfl rfl ?_
  simp only [qz]
  refine rg_nil (ek_next (wk_cond_t rfl (wk_seq ?_)))
  refine wk_region [0, 0] rfl (by kernel_rfl) ?_
  simp only [qy]
  refine rg_assign ?_
  simp only [qz]
  refine rg_assign ?_
  simp only [qz]
  refine rg_nil (ek_next (wk_ret (ek_then_ret ?_)))
  refine ek_retM0 (fun w hw => ⟨_, res_tt _ _ rfl, ?_⟩)
  (try simp only [qz])
  exact ⟨.slice none 0 0, [], (by first | rfl | trivial), OwnT.nil, .nil hw.below⟩

set_option maxRecDepth 100000 in
set_option maxHeartbeats 1000000 in
theorem prog_limit (N : Nat) (xs : List Nm) (a : Option Addr) (c : Nat) (hl : xs.length ≤ 1000000) (hv : Hid (validB (N : Int) xs = true)) (hN : ¬ (N : Int) > 4) (hk : expo xs > mostN N) (w : World) (hA : AS w a (nms xs)) : Calls Try.prog 59 #[.agg #[.int .i64 N, .slice a xs.length c]] w fun e w' => RetS w [] 4 e w' := by
  have hex : Hid (expR (N : Int) xs = (expo xs, 0)) := Lib.hid (by unfold expR; rw [hv.out, if_pos rfl])
  refine calls_marks Try.func59 rfl ?_
  simp only [Try.ntmps59, List.size_toArray, List.length_cons, List.length_nil, Nat.reduceAdd, Nat.reduceSub, Array.replicate_succ, Array.replicate_zero, List.push_toArray, List.append_toArray, List.nil_append, List.cons_append]
  refine wk_seq ?_
  refine wk_region [1, 0, 0] rfl (by kernel_rfl) ?_
  simp only [qy]
  refine rg_new (cs := ?_) (ty := ?_) (by rfl) (fun w => ?_) (fun _ h => by cases h) (fun g1 => ?_); rotate_left 2
  focus (go_simp; rfl)
  simp only [qz]
  refine rg_assign ?_
  simp only [qz]
  refine rg_assign ?_
  simp only [qz]
  refine rg_nil (ek_next (wk_seq (wk_seq ?_)))
  refine wk_region [0, 1, 0] rfl (by kernel_rfl) ?_
  simp only [qy]
  refine rf_loadR (n := 2) rfl rfl rfl Try.underlying38 rfl (by kernel_rfl) (fun w hw => Kn.hd0 hw) rfl rfl ?_
  simp only [qz]
  apply rg_pure (by rfl) (by kernel_rfl)
  case hargs => (simp only [qm, qs, Act.eval]; exact rfl)
  case h => exact fun w hw => by have := mvalid_any (N : Int) xs a c hl w (hA.kn0 hw); rw [hv.out] at this; exact this
  case hz => exact (fun _ h => by cases h)
  simp only [qz]
  refine rf_not rfl rfl rfl ?_
  simp only [qz]
  refine rg_nil (ek_next (wk_cond_f rfl (wk_skip (ek_next (wk_seq ?_)))))
  refine wk_region [0, 1, 0, 0, 0, 0, 0] rfl (by kernel_rfl) ?_
  simp only [qy]
  refine rf_loadR (n := 2) rfl rfl rfl Try.underlying38 rfl (by kernel_rfl) (fun w hw => Kn.hd0 hw) rfl rfl ?_
  simp only [qz]
  apply rg_pure (by rfl) (by kernel_rfl)
  case hargs => (simp only [qm, qs, Act.eval]; exact rfl)
  case h => exact fun w hw => by have := mExponent_any (N : Int) xs a c hl w (hA.kn0 hw); rw [hex.out] at this; exact this
  case hz => exact (fun _ h => by cases h)
  simp only [qz]
  refine rg_move ?_
  simp only [qz]
  refine rf_extract rfl rfl rfl rfl ?_
  simp only [qz]
  refine rf_extract rfl rfl rfl rfl ?_
  simp only [qz]
  refine rg_assign ?_
  simp only [qz]
  refine rg_assign ?_
  simp only [qz]
  refine rg_nil (ek_next (wk_seq (wk_seq ?_)))
  refine wk_region [0, 0, 0, 0, 0, 0, 0, 1, 0, 0] rfl (by kernel_rfl) ?_
  simp only [qy]
  refine rf_field (n := 0) (j := 0) rfl rfl rfl Try.underlying38 rfl (by kernel_rfl) rfl ?_
  simp only [qz]
  refine rf_load rfl rfl rfl Try.underlying3 rfl (fun w hw => (Kn.hd0 hw).at rfl) ?_
  simp only [qz]
  refine rfb_gtr rfl rfl rfl rfl ?_
  intro x h1
  obtain rfl : x = false := by (refine h1.symm.trans ?_; exact decide_eq_false (by omega))
  clear h1
  simp only [qz]
  refine rg_move ?_
  simp only [qz]
  apply rg_soft_g
  case hg => rfl
  case hy => (intro w hw; go_simp; (try go_bits); exact Yld.mk _ _)
  simp only [qz]
  refine rf_field (n := 0) (j := 0) rfl rfl rfl Try.underlying38 rfl (by kernel_rfl) rfl ?_
  simp only [qz]
  refine rf_load rfl rfl rfl Try.underlying3 rfl (fun w hw => (Kn.hd0 hw).at rfl) ?_
  simp only [qz]
  apply rg_pure (by rfl) (by kernel_rfl)
  case hargs => (simp only [qm, qs, Act.eval]; exact rfl)
  case h => exact fun w hw => most_any N (by omega) w
  case hz => exact (fun _ h => by cases h)
  simp only [qz]
  refine rfb_gtr rfl rfl rfl rfl ?_
  intro x h2
  obtain rfl : x = true := by (refine h2.symm.trans ?_; exact decide_eq_true (by omega))
  clear h2
  simp only [qz]
  refine rf_pick rfl rfl rfl ?_
  simp only [qz]
  refine rg_nil (ek_next (wk_cond_t rfl (wk_seq ?_)))
  refine wk_region [0, 0] rfl (by kernel_rfl) ?_
  simp only [qy]
  refine rg_assign ?_
  simp only [qz]
  refine rg_assign ?_
  simp only [qz]
  refine rg_nil (ek_next (wk_ret (ek_then_ret ?_)))
  refine ek_retM0 (fun w hw => ⟨_, res_tt _ _ rfl, ?_⟩)
  (try simp only [qz])
  exact ⟨.slice none 0 0, [], (by first | rfl | trivial), OwnT.nil, .nil hw.below⟩

set_option maxRecDepth 100000 in
set_option maxHeartbeats 1000000 in
theorem prog_non (N : Nat) (xs : List Nm) (a : Option Addr) (c : Nat) (hl : xs.length ≤ 1000000) (hv : Hid (validB (N : Int) xs = true)) (hN : ¬ (N : Int) > 4) (hk : ¬ expo xs > mostN N) (hu : Hid (unB (N : Int) xs = false)) (w : World) (hA : AS w a (nms xs)) : Calls Try.prog 59 #[.agg #[.int .i64 N, .slice a xs.length c]] w fun e w' => RetS w [] 22 e w' := by
  have hex : Hid (expR (N : Int) xs = (expo xs, 0)) := Lib.hid (by unfold expR; rw [hv.out, if_pos rfl])
  refine calls_marks Try.func59 rfl ?_
  simp only [Try.ntmps59, List.size_toArray, List.length_cons, List.length_nil, Nat.reduceAdd, Nat.reduceSub, Array.replicate_succ, Array.replicate_zero, List.push_toArray, List.append_toArray, List.nil_append, List.cons_append]
  refine wk_seq ?_
  refine wk_region [1, 0, 0] rfl (by kernel_rfl) ?_
  simp only [qy]
  refine rg_new (cs := ?_) (ty := ?_) (by rfl) (fun w => ?_) (fun _ h => by cases h) (fun g1 => ?_); rotate_left 2
  focus (go_simp; rfl)
  simp only [qz]
  refine rg_assign ?_
  simp only [qz]
  refine rg_assign ?_
  simp only [qz]
  refine rg_nil (ek_next (wk_seq (wk_seq ?_)))
  refine wk_region [0, 1, 0] rfl (by kernel_rfl) ?_
  simp only [qy]
  refine rf_loadR (n := 2) rfl rfl rfl Try.underlying38 rfl (by kernel_rfl) (fun w hw => Kn.hd0 hw) rfl rfl ?_
  simp only [qz]
  apply rg_pure (by rfl) (by kernel_rfl)
  case hargs => (simp only [qm, qs, Act.eval]; exact rfl)
  case h => exact fun w hw => by have := mvalid_any (N : Int) xs a c hl w (hA.kn0 hw); rw [hv.out] at this; exact this
  case hz => exact (fun _ h => by cases h)
  simp only [qz]
  refine rf_not rfl rfl rfl ?_
  simp only [qz]
  refine rg_nil (ek_next (wk_cond_f rfl (wk_skip (ek_next (wk_seq ?_)))))
  refine wk_region [0, 1, 0, 0, 0, 0, 0] rfl (by kernel_rfl) ?_
  simp only [qy]
  refine rf_loadR (n := 2) rfl rfl rfl Try.underlying38 rfl (by kernel_rfl) (fun w hw => Kn.hd0 hw) rfl rfl ?_
  simp only [qz]
  apply rg_pure (by rfl) (by kernel_rfl)
  case hargs => (simp only [qm, qs, Act.eval]; exact rfl)
  case h => exact fun w hw => by have := mExponent_any (N : Int) xs a c hl w (hA.kn0 hw); rw [hex.out] at this; exact this
  case hz => exact (fun _ h => by cases h)
  simp only [qz]
  refine rg_move ?_
  simp only [qz]
  refine rf_extract rfl rfl rfl rfl ?_
  simp only [qz]
  refine rf_extract rfl rfl rfl rfl ?_
  simp only [qz]
  refine rg_assign ?_
  simp only [qz]
  refine rg_assign ?_
  simp only [qz]
  refine rg_nil (ek_next (wk_seq (wk_seq ?_)))
  refine wk_region [0, 0, 0, 0, 0, 0, 0, 1, 0, 0] rfl (by kernel_rfl) ?_
  simp only [qy]
  refine rf_field (n := 0) (j := 0) rfl rfl rfl Try.underlying38 rfl (by kernel_rfl) rfl ?_
  simp only [qz]
  refine rf_load rfl rfl rfl Try.underlying3 rfl (fun w hw => (Kn.hd0 hw).at rfl) ?_
  simp only [qz]
  refine rfb_gtr rfl rfl rfl rfl ?_
  intro x h1
  obtain rfl : x = false := by (refine h1.symm.trans ?_; exact decide_eq_false (by omega))
  clear h1
  simp only [qz]
  refine rg_move ?_
  simp only [qz]
  apply rg_soft_g
  case hg => rfl
  case hy => (intro w hw; go_simp; (try go_bits); exact Yld.mk _ _)
  simp only [qz]
  refine rf_field (n := 0) (j := 0) rfl rfl rfl Try.underlying38 rfl (by kernel_rfl) rfl ?_
  simp only [qz]
  refine rf_load rfl rfl rfl Try.underlying3 rfl (fun w hw => (Kn.hd0 hw).at rfl) ?_
  simp only [qz]
  apply rg_pure (by rfl) (by kernel_rfl)
  case hargs => (simp only [qm, qs, Act.eval]; exact rfl)
  case h => exact fun w hw => most_any N (by omega) w
  case hz => exact (fun _ h => by cases h)
  simp only [qz]
  refine rfb_gtr rfl rfl rfl rfl ?_
  intro x h2
  obtain rfl : x = false := by (refine h2.symm.trans ?_; exact decide_eq_false (by omega))
  clear h2
  simp only [qz]
  refine rf_pick rfl rfl rfl ?_
  simp only [qz]
  refine rg_nil (ek_next (wk_cond_f rfl (wk_skip (ek_next (wk_seq (wk_seq ?_))))))
  refine wk_region [0, 1, 0, 0, 0, 0, 0] rfl (by kernel_rfl) ?_
  simp only [qy]
  refine rf_loadR (n := 2) rfl rfl rfl Try.underlying38 rfl (by kernel_rfl) (fun w hw => Kn.hd0 hw) rfl rfl ?_
  simp only [qz]
  apply rg_pure (by rfl) (by kernel_rfl)
  case hargs => (simp only [qm, qs, Act.eval]; exact rfl)
  case h => exact fun w hw => sunitary_non (N : Int) xs a c hl hv hu w (hA.kn0 hw)
  case hz => exact (fun _ h => by cases h)
  simp only [qz]
  refine rg_move ?_
  simp only [qz]
  refine rf_extract rfl rfl rfl rfl ?_
  simp only [qz]
  refine rf_extract rfl rfl rfl rfl ?_
  simp only [qz]
  refine rg_assign ?_
  simp only [qz]
  refine rg_assign ?_
  simp only [qz]
  refine rg_nil (ek_next (wk_seq ?_))
  refine wk_region [0, 0] rfl (by kernel_rfl) ?_
  simp only [qy]
  refine rg_move ?_
  simp only [qz]
  refine rf_neq (b := true) rfl rfl rfl rfl (by decide) ?_
  simp only [qz]
  refine rg_nil (ek_next (wk_cond_t rfl (wk_seq ?_)))
  refine wk_region [0, 0, 0] rfl (by kernel_rfl) ?_
  simp only [qy]
  refine rg_move ?_
  simp only [qz]
  refine rg_assign ?_
  simp only [qz]
  refine rg_assign ?_
  simp only [qz]
  refine rg_nil (ek_next (wk_ret (ek_then_ret ?_)))
  refine ek_retM0 (fun w hw => ⟨_, res_tt _ _ rfl, ?_⟩)
  (try simp only [qz])
  exact ⟨.slice none 0 0, [], (by first | rfl | trivial), OwnT.nil, .nil hw.below⟩

end Go.Proofs.Ytccbinnlnkpplaa
namespace Go.Proofs.Ytccbinnlnkpplaa
set_option linter.all false
open Go.RowKit

/-- The blocks when j items have been turned round. -/
def InC (lp g7 : Nat) (r : Loop) (xs : List It) (j : Nat) (s : List Blk) : Prop := ∃ (va : Option Addr) (vc : Nat) (u : List Blk),
  s = (lp, .loop r) :: (g7, .cells #[.slice va (invS xs j).length vc] 32) :: (u ++ []) ∧ OwnT u (.slice va (invS xs j).length vc) (invS xs j)
set_option maxRecDepth 100000 in
set_option maxHeartbeats 1000000 in
theorem minverse_any (N : Nat) (xs : List It) (a : Option Addr) (c : Nat) (hN1 : 1 ≤ N) (hN6 : N ≤ 6) (hx : xs.length ≤ 1000) (hlx : xs.length ≤ 5000) (hf : ∀ x ∈ xs, fitB N x = true) (w : World) (hA : AS w a (its xs)) : Calls Try.prog 57 #[.int .i64 N, .slice a xs.length c] w fun e w' => RetS w (invS xs xs.length) 0 e w' := by
  refine calls_marks Try.func57 rfl ?_
  simp only [Try.ntmps57, List.size_toArray, List.length_cons, List.length_nil, Nat.reduceAdd, Nat.reduceSub, Array.replicate_succ, Array.replicate_zero, List.push_toArray, List.append_toArray, List.nil_append, List.cons_append]
  refine wk_seq ?_
  refine wk_region [0, 0] rfl (by kernel_rfl) ?_
  simp only [qy]
  refine rg_assign ?_
  simp only [qz]
  refine rg_assign ?_
  simp only [qz]
  refine rg_nil (ek_next (wk_seq (wk_seq ?_)))
  refine wk_region [0, 0, 1, 0] rfl (by kernel_rfl) ?_
  simp only [qy]
  refine rg_move ?_
  simp only [qz]
  refine rg_move ?_
  simp only [qz]
  apply rg_pure (by rfl) (by kernel_rfl)
  case hargs => (simp only [qm, qs, Act.eval]; exact rfl)
  case h => exact fun w hw => by have := mcheck_any (N : Int) xs a c w (hA.kn0 hw); rw [itemE_fits hN1 hN6 hlx hf] at this; exact this
  case hz => exact (fun _ h => by cases h)
  simp only [qz]
  refine rg_assign ?_
  simp only [qz]
  refine rg_nil (ek_next (wk_seq ?_))
  refine wk_region [0, 0] rfl (by kernel_rfl) ?_
  simp only [qy]
  refine rg_move ?_
  simp only [qz]
  refine rf_neq (b := false) rfl rfl rfl rfl (by decide) ?_
  simp only [qz]
  refine rg_nil (ek_next (wk_cond_f rfl (wk_skip (ek_next (wk_seq ?_)))))
  refine wk_region [1] rfl (by kernel_rfl) ?_
  simp only [qy]
  refine rg_new (cs := ?_) (ty := ?_) (by rfl) (fun w => ?_) (fun _ h => by cases h) (fun g1 => ?_); rotate_left 2
  focus (go_simp; rfl)
  simp only [qz]
  refine rg_nil (ek_next (wk_seq (wk_seq ?_)))
  refine wk_region [0, 1] rfl (by kernel_rfl) ?_
  simp only [qy]
  refine rg_move ?_
  simp only [qz]
  apply rg_made (T := fun v u => ∃ gs, v = .func (.func 152) #[] #[.pointer (some ⟨gs, 0, none⟩)] ∧ u = [(gs, .cells #[.slice a xs.length c] 32)]) (by rfl) (by kernel_rfl)
  case hargs => (simp only [qm, qs, Act.eval]; exact rfl)
  case h => exact fun w hw => (backward_any xs a c w).mono (fun e w' ⟨gs, he, hm⟩ => ⟨_, _, he, ⟨gs, rfl, rfl⟩, hm⟩)
  case hz => exact (fun _ h => by cases h)
  rintro v1 u1 ⟨gs, rfl, rfl⟩
  simp only [List.cons_append, List.nil_append]
  simp only [qz]
  refine rg_nil (ek_next (wk_block ?_))
  refine wk_rangeFunc (f := 152) (caps := #[.pointer (some ⟨gs, 0, none⟩)]) rfl (by kernel_rfl) ?_
  intro fn dd lp w1 K1
  obtain ⟨r, hr⟩ := exl_loop K1
  rw [← hr] at K1
  have K2 := K1.perm ((perm_at (l := [_, _]) (perm_at (l := [_]) (List.Perm.refl _))).cons _)
  have K3 := Kn.self (v := [_, _, _]) (rest := [_]) K2
  have hR : RoundsB xs lp r (InC lp g1 r xs) := by
    subst hr
    refine ⟨rfl, fun j s ⟨va, vc, u, e, _⟩ => by subst e; simp, ?_⟩
    intro R B F j k s rest w hk hj ⟨va, vc, u, hs, hO⟩ K
    subst hs
    simp only [List.cons_append, List.append_assoc, List.nil_append] at K
    have hil := invS_len xs j
    have hfx := it_kind (its_memF hf hk)
    have hkj : xs.length - 1 - j = k := by omega
    refine roundIn_kn2 rfl ?_ K
    simp only [fold_zipB]
    simp only [qz]
    refine wk_region [1, 1] rfl (by kernel_rfl) ?_
    simp only [qy]
    refine rg_new (cs := ?_) (ty := ?_) (by rfl) (fun w => ?_) (fun _ h => by cases h) (fun g2 => ?_); rotate_left 2
    focus (go_simp; rfl)
    simp only [qz]
    refine rf_storeR (n := 4) rfl rfl (by kernel_rfl) rfl rfl (UpdR.here _ _ _ (Nat.le_of_ble_eq_true rfl)) (fun _ h => by cases h) ?_
    simp only [qz, Nat.reduceAdd]
    refine rg_nil ?_
    refine ek_asg2 (Rep.there _ (Rep.here _)) ?_
    refine wk_block (wk_seq ?_)
    refine wk_region [0, 0, 0, 1, 1] rfl (by kernel_rfl) ?_
    simp only [qy]
    refine rf_field (n := 0) (j := 1) rfl rfl rfl Try.underlying80 rfl (by kernel_rfl) rfl ?_
    simp only [qz]
    refine rf_load rfl rfl rfl Try.underlying3 rfl (fun w hw => (Kn.hd0 hw).at rfl) ?_
    simp only [qz]
    refine rf_build (cs := fun a => #[a.eval (.const (.int .i64 1)), a.eval (.tmp 22), a.eval (.const (.int .i64 4)), .string ⟨#[]⟩]) rfl rfl (by kernel_rfl) ?_
    simp only [qz]
    refine rg_new (cs := ?_) (ty := ?_) (by rfl) (fun w => ?_) (fun _ h => by cases h) (fun g3 => ?_); rotate_left 2
    focus (go_simp; rfl)
    simp only [qz]
    refine rf_storeR (n := 4) rfl rfl (by kernel_rfl) rfl rfl (UpdR.here _ _ _ (Nat.le_of_ble_eq_true rfl)) (fun _ h => by cases h) ?_
    simp only [qz, Nat.reduceAdd]
    refine rg_nil (ek_next (wk_seq ?_))
    refine wk_region [0, 0] rfl (by kernel_rfl) ?_
    simp only [qy]
    refine rf_field (n := 0) (j := 0) rfl rfl rfl Try.underlying80 rfl (by kernel_rfl) rfl ?_
    simp only [qz]
    refine rf_load rfl rfl rfl Try.underlying3 rfl (fun w hw => (Kn.hd0 (Kn.tl hw)).at rfl) ?_
    simp only [qz]
    refine rg_nil (ek_next (wk_block (wk_seq ?_)))
    refine wk_region [0, 0] rfl (by kernel_rfl) ?_
    simp only [qy]
    refine rfb_eql rfl rfl rfl rfl ?_
    intro x h1
    cases x
    · (try simp only [qd, ne_eq] at h1)
      simp only [qz]
      refine rg_assign ?_
      simp only [qz]
      refine rg_nil (ek_next (wk_cond_f rfl (wk_seq ?_)))
      refine wk_region [0, 0] rfl (by kernel_rfl) ?_
      simp only [qy]
      refine rfb_eql rfl rfl rfl rfl ?_
      intro x h2
      cases x
      · (try simp only [qd, ne_eq] at h2)
        simp only [qz]
        refine rg_assign ?_
        simp only [qz]
        refine rg_nil (ek_next (wk_cond_f rfl ?_))
        refine wk_region [0, 0, 1, 1, 1] rfl (by kernel_rfl) ?_
        simp only [qy]
        refine rf_load rfl rfl rfl Try.underlying32 rfl (fun w hw => (Kn.hd0 (Kn.tl (Kn.tl (Kn.tl hw)))).at rfl) ?_
        simp only [qz]
        refine rf_loadR (n := 4) rfl rfl rfl Try.underlying80 rfl (by kernel_rfl) (fun w hw => Kn.hd0 (Kn.tl hw)) rfl rfl ?_
        simp only [qz]
        refine rg_newS (cs := ?_) (ty := ?_) (n := 1) (c := 1) (by rfl) (fun w => ?_) (fun _ h => by cases h) (fun g4 => ?_); rotate_left 2
        focus (go_simp; rfl)
        simp only [qz]
        refine rg_appendT (xs := invS xs j) (x := (it xs k)) (by rfl) rfl hO rfl (by omega) (perm_atU (l := [_, _, _, _, _]) (u := u) (List.Perm.refl _)) (fun w hw => Kn.hd0 hw) (fun _ h => by cases h) (fun uQ vQ hOQ => ?_)
        have he1 : invI (it xs k) = [(it xs k)] := by (unfold invI; rw [if_neg h1, if_neg h2])
        rw [← he1, show invS xs j ++ invI (it xs k) = invS xs (j + 1) by rw [invS, hkj]] at hOQ
        obtain ⟨aQ, cQ, rfl, -⟩ := Own.val hOQ
        simp only [qz]
        refine rf_store rfl rfl (by kernel_rfl) rfl rfl (UpdR.app _ (UpdR.there _ (UpdR.there _ (UpdR.there _ (UpdR.there _ (UpdR.here _ _ _ (Nat.le_of_ble_eq_true rfl))))))) (fun _ h => by cases h) ?_
        simp only [qz]
        refine rg_nil (ek_block (ek_block ?_))
        refine ek_perm ((((((((((List.Perm.refl _).cons _).trans (List.Perm.swap _ _ _)).cons _).trans (List.Perm.swap _ _ _)).cons _).trans (List.Perm.swap _ _ _)).append_left _).trans (List.perm_middle (l₁ := uQ))).trans (((((((((((List.Perm.refl _).cons _).trans (List.Perm.swap _ _ _)).cons _).trans (List.Perm.swap _ _ _)).cons _).trans (List.Perm.swap _ _ _)).append_left _).trans (List.perm_middle (l₁ := uQ))).trans ((List.Perm.refl _).cons _)).cons _)) ?_
        refine ek_sub (sc _ (sc _ (List.Sublist.append_left (sk _ (sk _ (sk _ (List.Sublist.refl _)))) _))) ?_
        refine ek_roundEnd (Rep.here _) (fun w hw => ⟨_, rfl, ⟨aQ, cQ, uQ, rfl, hOQ⟩, Kn.to (by (try simp only [List.append_assoc, List.cons_append, List.nil_append]); (try rfl)) hw⟩)
      · (try simp only [qd, ne_eq] at h2)
        simp only [qz]
        refine rg_assign ?_
        simp only [qz]
        refine rg_nil (ek_next (wk_cond_t rfl ?_))
        refine wk_region [0, 0, 0, 0, 1, 1, 1] rfl (by kernel_rfl) ?_
        simp only [qy]
        refine rf_load rfl rfl rfl Try.underlying32 rfl (fun w hw => (Kn.hd0 (Kn.tl (Kn.tl (Kn.tl hw)))).at rfl) ?_
        simp only [qz]
        refine rf_loadR (n := 4) rfl rfl rfl Try.underlying80 rfl (by kernel_rfl) (fun w hw => Kn.hd0 hw) rfl rfl ?_
        simp only [qz]
        refine rf_loadR (n := 4) rfl rfl rfl Try.underlying80 rfl (by kernel_rfl) (fun w hw => Kn.hd0 (Kn.tl hw)) rfl rfl ?_
        simp only [qz]
        refine rf_loadR (n := 4) rfl rfl rfl Try.underlying80 rfl (by kernel_rfl) (fun w hw => Kn.hd0 hw) rfl rfl ?_
        simp only [qz]
        refine rg_newS (cs := ?_) (ty := ?_) (n := 3) (c := 3) (by rfl) (fun w => ?_) (fun _ h => by cases h) (fun g5 => ?_); rotate_left 2
        focus (go_simp; rfl)
        simp only [qz]
        have hyy : it xs k = ⟨2, (it xs k).at_, (it xs k).n, (it xs k).name⟩ := by rw [← h2]
        refine rg_appT3 (xs := invS xs j) (x := halfI (it xs k)) (y := ⟨2, (it xs k).at_, (it xs k).n, (it xs k).name⟩) (z := halfI (it xs k)) (by rfl) rfl hO rfl (by omega) (perm_atU (l := [_, _, _, _, _]) (u := u) (List.Perm.refl _)) (fun w hw => Kn.hd0 hw) (fun _ h => by cases h) (fun uQ vQ hOQ => ?_)
        have he1 : invI (it xs k) = [halfI (it xs k), ⟨2, (it xs k).at_, (it xs k).n, (it xs k).name⟩, halfI (it xs k)] := by (rw [← hyy]; unfold invI; rw [if_neg h1, if_pos h2])
        rw [← he1, show invS xs j ++ invI (it xs k) = invS xs (j + 1) by rw [invS, hkj]] at hOQ
        obtain ⟨aQ, cQ, rfl, -⟩ := Own.val hOQ
        simp only [qz]
        refine rf_store rfl rfl (by kernel_rfl) rfl rfl (UpdR.app _ (UpdR.there _ (UpdR.there _ (UpdR.there _ (UpdR.there _ (UpdR.here _ _ _ (Nat.le_of_ble_eq_true rfl))))))) (fun _ h => by cases h) ?_
        simp only [qz]
        refine rg_nil (ek_block (ek_block ?_))
        refine ek_perm ((((((((((List.Perm.refl _).cons _).trans (List.Perm.swap _ _ _)).cons _).trans (List.Perm.swap _ _ _)).cons _).trans (List.Perm.swap _ _ _)).append_left _).trans (List.perm_middle (l₁ := uQ))).trans (((((((((((List.Perm.refl _).cons _).trans (List.Perm.swap _ _ _)).cons _).trans (List.Perm.swap _ _ _)).cons _).trans (List.Perm.swap _ _ _)).append_left _).trans (List.perm_middle (l₁ := uQ))).trans ((List.Perm.refl _).cons _)).cons _)) ?_
        refine ek_sub (sc _ (sc _ (List.Sublist.append_left (sk _ (sk _ (sk _ (List.Sublist.refl _)))) _))) ?_
        refine ek_roundEnd (Rep.here _) (fun w hw => ⟨_, rfl, ⟨aQ, cQ, uQ, rfl, hOQ⟩, Kn.to (by (try simp only [List.append_assoc, List.cons_append, List.nil_append]); (try rfl)) hw⟩)
    · (try simp only [qd, ne_eq] at h1)
      simp only [qz]
      refine rg_assign ?_
      simp only [qz]
      refine rg_nil (ek_next (wk_cond_t rfl (wk_seq ?_)))
      refine wk_region [0, 0, 0, 0, 1] rfl (by kernel_rfl) ?_
      simp only [qy]
      refine rf_field (n := 0) (j := 2) rfl rfl rfl Try.underlying80 rfl (by kernel_rfl) rfl ?_
      simp only [qz]
      refine rf_load rfl rfl rfl Try.underlying3 rfl (fun w hw => (Kn.hd0 (Kn.tl hw)).at rfl) ?_
      simp only [qz]
      refine rf_sub rfl rfl rfl rfl (wrap_ok (by omega) (by omega)) ?_
      simp only [qz]
      refine rf_field (n := 0) (j := 2) rfl rfl rfl Try.underlying80 rfl (by kernel_rfl) rfl ?_
      simp only [qz]
      refine rf_store rfl rfl (by kernel_rfl) rfl rfl (UpdR.there _ (UpdR.here _ _ _ (Nat.le_of_ble_eq_true rfl))) (fun _ h => by cases h) ?_
      simp only [qz]
      refine rg_nil (ek_next ?_)
      refine wk_region [0, 0, 1, 1, 1] rfl (by kernel_rfl) ?_
      simp only [qy]
      refine rf_load rfl rfl rfl Try.underlying32 rfl (fun w hw => (Kn.hd0 (Kn.tl (Kn.tl (Kn.tl hw)))).at rfl) ?_
      simp only [qz]
      refine rf_loadR (n := 4) rfl rfl rfl Try.underlying80 rfl (by kernel_rfl) (fun w hw => Kn.hd0 (Kn.tl hw)) rfl rfl ?_
      simp only [qz]
      refine rg_newS (cs := ?_) (ty := ?_) (n := 1) (c := 1) (by rfl) (fun w => ?_) (fun _ h => by cases h) (fun g6 => ?_); rotate_left 2
      focus (go_simp; rfl)
      simp only [qz]
      refine rg_appendT (xs := invS xs j) (x := ⟨1, (it xs k).at_, 8 - (it xs k).n, (it xs k).name⟩) (by rfl) rfl hO rfl (by omega) (perm_atU (l := [_, _, _, _, _]) (u := u) (List.Perm.refl _)) (fun w hw => Kn.hd0 hw) (fun _ h => by cases h) (fun uQ vQ hOQ => ?_)
      have he1 : invI (it xs k) = [⟨1, (it xs k).at_, 8 - (it xs k).n, (it xs k).name⟩] := by (unfold invI; rw [if_pos h1, h1])
      rw [← he1, show invS xs j ++ invI (it xs k) = invS xs (j + 1) by rw [invS, hkj]] at hOQ
      obtain ⟨aQ, cQ, rfl, -⟩ := Own.val hOQ
      simp only [qz]
      refine rf_store rfl rfl (by kernel_rfl) rfl rfl (UpdR.app _ (UpdR.there _ (UpdR.there _ (UpdR.there _ (UpdR.there _ (UpdR.here _ _ _ (Nat.le_of_ble_eq_true rfl))))))) (fun _ h => by cases h) ?_
      simp only [qz]
      refine rg_nil (ek_block (ek_block ?_))
      refine ek_perm ((((((((((List.Perm.refl _).cons _).trans (List.Perm.swap _ _ _)).cons _).trans (List.Perm.swap _ _ _)).cons _).trans (List.Perm.swap _ _ _)).append_left _).trans (List.perm_middle (l₁ := uQ))).trans (((((((((((List.Perm.refl _).cons _).trans (List.Perm.swap _ _ _)).cons _).trans (List.Perm.swap _ _ _)).cons _).trans (List.Perm.swap _ _ _)).append_left _).trans (List.perm_middle (l₁ := uQ))).trans ((List.Perm.refl _).cons _)).cons _)) ?_
      refine ek_sub (sc _ (sc _ (List.Sublist.append_left (sk _ (sk _ (sk _ (List.Sublist.refl _)))) _))) ?_
      refine ek_roundEnd (Rep.here _) (fun w hw => ⟨_, rfl, ⟨aQ, cQ, uQ, rfl, hOQ⟩, Kn.to (by (try simp only [List.append_assoc, List.cons_append, List.nil_append]); (try rfl)) hw⟩)
  have hpend : r.pending = none := by subst hr; rfl
  have hst : r.state ≠ .busy := by (subst hr; simp)
  clear hr
  have hC0 : InC lp g1 r xs 0 [(lp, .loop r), (g1, .cells #[.slice none 0 0] 32)] := ⟨none, 0, [], rfl, OwnT.nil⟩
  refine (backward1_any xs a c lp gs (by omega) r _ hR _ _ hC0 (fun h0 => hA.fresh (fun e => by have := its_len xs; rw [e] at this; simp at this; omega) K1 (by simp)) w1 (hA.kn0 K1) K3).mono ?_
  rintro e w2 ⟨rfl, s', ⟨va, vc, u, rfl, hO⟩, hK⟩
  have K4 := Kn.effApp (v := [_, _, _]) (rest := [_]) K2 hK
  simp only [List.cons_append, List.append_assoc, List.nil_append] at K4
  refine ⟨_, _, r, _, rfl, K4, Rep.here _, hst, ?_⟩
  rw [hpend]
  refine ek_block (ek_next (wk_seq (wk_seq ?_)))
  have hil := invS_len xs xs.length
  refine wk_region [0, 0, 0] rfl (by kernel_rfl) ?_
  simp only [qy]
  refine rf_load rfl rfl rfl Try.underlying32 rfl (fun w hw => (Kn.hd0 (Kn.tl hw)).at rfl) ?_
  simp only [qz]
  refine rf_len rfl rfl rfl Try.underlying32 ?_
  simp only [qz]
  refine rfb_gtr rfl rfl rfl rfl ?_
  intro x h1
  obtain rfl : x = false := by (refine h1.symm.trans ?_; exact decide_eq_false (by omega))
  clear h1
  simp only [qz]
  refine rg_nil (ek_next (wk_cond_f rfl (wk_skip (ek_next (wk_seq ?_)))))
  refine wk_region [0, 0, 0] rfl (by kernel_rfl) ?_
  simp only [qy]
  refine rf_load rfl rfl rfl Try.underlying32 rfl (fun w hw => (Kn.hd0 (Kn.tl hw)).at rfl) ?_
  simp only [qz]
  refine rg_assign ?_
  simp only [qz]
  refine rg_assign ?_
  simp only [qz]
  refine rg_nil (ek_next (wk_ret ?_))
  refine ek_retM1 (Rep.there _ (Rep.there _ (Rep.app _ (Rep.there _ (Rep.here _))))) (fun w hw => ⟨_, res_tt _ _ rfl, ?_⟩)
  (try simp only [qz])
  exact ⟨_, u, (by first | rfl | trivial), hO, hw.made (List.Sublist.cons _ (List.Sublist.cons _ (List.sublist_append_left _ _)))⟩

end Go.Proofs.Ytccbinnlnkpplaa
namespace Go.Proofs.Ytccbinnlnkpplaa
set_option linter.all false
open Go.RowKit

set_option maxRecDepth 100000 in
set_option maxHeartbeats 1000000 in
theorem wcolumn_any (N col gw W : Nat) (B : Int) (M0 : Tb) (z : Zt) (L : List It) (s : List Blk) (hS : WS N gw z L s) (hN : N ≤ 4) (hN4 : N ≤ col + 4) (hB : N = col + 4 → B ≤ 13) (hWW : W ≤ 90000) (hc : col < N) (hR : Rn N col B M0 W z L) (w : World) (hK : Kn w (s.map (·.1)) s w) : Calls Try.prog 111 #[.pointer (some ⟨gw, 0, none⟩), .int .i64 (col : Int)] w fun e w' => e = .returned (.tuple #[]) ∧ ∃ s', Kn w (s.map (·.1)) s' w' ∧ ∃ z' L', WS N gw z' L' s' ∧ PI N (col + 1) z' ∧ Cb N (col + 1) z' ∧ EqT N (vt z') (actQ L' M0) ∧ (∀ x ∈ L', fitB N x = true) ∧ L'.length ≤ W + 4 := by
  have hLl := hR.len
  go_enter Try.func111, Try.ntmps111
  refine wk_startF hK.nil' ?_
  refine wk_seq (wk_seq ?_)
  refine wk_region [0, 0, 1, 0] rfl (by kernel_rfl) ?_
  simp only [qy]
  refine rg_move ?_
  simp only [qz]
  refine rg_move ?_
  simp only [qz]
  apply rg_pure (by rfl) (by kernel_rfl)
  case hargs => (simp only [qm, qs, Act.eval]; exact rfl)
  case h => exact fun w hw => wexpo_any N col gw z L s hS (by omega) (by omega) hc w (Kn.self hw)
  case hz => exact (fun _ h => by cases h)
  simp only [qz]
  refine rg_assign ?_
  simp only [qz]
  refine rg_nil (ek_next (wk_block ?_))
  refine wk_loopF [4, 11, 12, 13, 14, 15, 16, 17, 18, 19] (fun mz f s => ∃ (y : Zt) (M : List It) (uV : List Blk), f 4 = .int .i64 (expZ y col (N - col)) ∧ s = (uV ++ []) ∧ mz = muZ N col y ∧ WS N gw y M uV ∧ Rn N col B M0 W y M) ((fun (y : Zt) (M : List It) (uV : List Blk) => muZ N col y) (z) (L) (s)) ?_ (by kernel_rfl) ?_
  · exact ⟨z, L, s, rfl, rfl, rfl, hS, hR⟩
  rintro mz f1 s ⟨y, M, uV, hs1_4, rfl, hn, hd1, hd2⟩
  simp only [Act.putF, List.foldl_cons, List.foldl_nil, hs1_4, Act.put, Act.eval, q1, q2, q3, q4, q5, q6, q7, q8, q9, q10, q11, q12, q13, q14, q15, q16, q17, q18, Nat.reduceAdd, Bool.not_true, Bool.not_false]
  clear hs1_4
  have hW := hd1
  have hRn := hd2
  clear hd1 hd2
  have hML := hRn.len
  refine wk_seq (wk_seq ?_)
  refine wk_region [0, 0] rfl (by kernel_rfl) ?_
  simp only [qy]
  refine rg_move ?_
  simp only [qz]
  refine rfb_gtr rfl rfl rfl rfl ?_
  intro x h1
  cases x
  · (try simp only [qd, ne_eq] at h1)
    simp only [qz]
    refine rg_nil (ek_next (wk_cond_f rfl (wk_exit (ek_then_exit (ek_then_exit (ek_block_exit (ek_next (wk_seq ?_))))))))
    obtain ⟨a, hca, haN, hane, hzer⟩ := hRn.unit hc (by omega)
    obtain ⟨go, oc, ro, rs, ia, ic, u, hse, hrl, hoc, hlen, hval, hO, hok⟩ := hW.open_
    rw [hse]
    refine wk_region [0, 0] rfl (by kernel_rfl) ?_
    simp only [qy]
    refine rg_move ?_
    simp only [qz]
    refine rg_assign ?_
    simp only [qz]
    refine rg_nil (ek_next (wk_seq (wk_block ?_)))
    refine wk_loopF [5, 21, 22, 23, 24, 25, 26, 27, 28, 29, 30, 31, 32, 33, 34] (fun mz f s => ∃ (i : Nat), f 5 = .int .i64 i ∧ s = ((gw, .cells #[.slice (some ⟨go, 0, none⟩) N oc, .slice ia M.length ic] 131) :: ((go, .cells (rwV N rs ++ ro).toArray 36) :: (rwB rs ++ (u ++ [])))) ∧ mz = N - i ∧ col ≤ i ∧ i ≤ a) ((fun (i : Nat) => N - i) (col)) ?_ (by kernel_rfl) ?_
    · exact ⟨col, rfl, rfl, rfl, by omega, hca⟩
    rintro mz f2 s ⟨i, hs2_5, rfl, hn, he1, he2⟩
    simp only [Act.putF, List.foldl_cons, List.foldl_nil, hs2_5, Act.put, Act.eval, q1, q2, q3, q4, q5, q6, q7, q8, q9, q10, q11, q12, q13, q14, q15, q16, q17, q18, Nat.reduceAdd, Bool.not_true, Bool.not_false]
    clear hs2_5
    obtain ⟨⟨b1, c1, l1, r1⟩, hx1⟩ : ∃ x, rs[i]? = some x := ⟨rs[i]'(by omega), List.getElem?_eq_getElem (by omega)⟩
    have hl1 : l1.length = N := hlen ⟨b1, c1, l1, r1⟩ (List.mem_of_getElem? hx1)
    have hz1 : nm l1 col = y (i) col := hval _ _ hx1 col hc
    refine wk_seq (wk_seq ?_)
    refine wk_region [0, 0, 0, 0, 0, 0, 0, 0, 0, 0, 0, 0] rfl (by kernel_rfl) ?_
    simp only [qy]
    refine rg_move ?_
    simp only [qz]
    apply rg_soft
    case hy => (intro w hw; go_simp; (try go_bits); exact Yld.mk _ _)
    simp only [qz]
    refine rf_field (n := 0) (j := 0) rfl rfl rfl Try.underlying131 rfl (by kernel_rfl) rfl ?_
    simp only [qz]
    refine rf_load rfl rfl rfl Try.underlying129 rfl (fun w hw => (Kn.hd0 hw).at rfl) ?_
    simp only [qz]
    refine rg_move ?_
    simp only [qz]
    refine rf_indexS (n := i) (sz := 1) (j := i) rfl rfl rfl rfl Try.underlying129 (by kernel_rfl) (by omega) (by omega) (by omega) ?_
    simp only [qz]
    refine rf_load (v := .slice (some ⟨b1, 0, none⟩) N c1) rfl rfl rfl Try.underlying36 rfl (fun w hw => Kn.outer (Kn.tl hw) (hx1)) ?_
    simp only [qz]
    refine rg_move ?_
    simp only [qz]
    refine rf_indexS (n := col) (sz := 5) (j := 0 + col * 5) rfl rfl rfl rfl Try.underlying36 (by kernel_rfl) (by omega) (by omega) rfl ?_
    simp only [qz]
    refine rf_loadC (n := 5) (vs := [.int .i64 (y i col).a, .int .i64 (y i col).b, .int .i64 (y i col).c, .int .i64 (y i col).d, .int .i64 (y i col).k]) rfl rfl rfl Try.underlying45 rfl (by kernel_rfl) rfl (fun w hw => atN_range (by have := Kn.row (Kn.tl (Kn.tl hw)) hx1 (k := col) (by rw [hl1]; exact hc); rw [hz1] at this; exact this)) ?_
    simp only [qz]
    refine rf_build (cs := fun a => #[.int .i64 0, .int .i64 0, .int .i64 0, .int .i64 0, .int .i64 0]) rfl rfl (by kernel_rfl) ?_
    simp only [qz]
    refine rfb_eqN (y i col) (Nm.zero) rfl rfl rfl rfl ?_
    intro x h2
    cases x
    · (try simp only [qd, ne_eq] at h2)
      simp only [qz]
      refine rg_nil (ek_next (wk_cond_f rfl (wk_exit (ek_then_exit (ek_then_exit (ek_block_exit (ek_next (wk_seq ?_))))))))
      obtain rfl : i = a := Decidable.byContradiction fun hn => h2 (hzer i (by omega) hn)
      rw [← hse]
      refine wk_region [0, 0, 0, 1] rfl (by kernel_rfl) ?_
      simp only [qy]
      refine rg_move ?_
      simp only [qz]
      refine rg_move ?_
      simp only [qz]
      refine rg_move ?_
      simp only [qz]
      refine rg_eff (T := fun uY => WS N gw (bsZ i y (i - col)) (M ++ bsL i (i - col)) uY) (vb := uV) (rest := []) (by rfl) (by kernel_rfl) (by simp only [qm, qs, Act.eval]; try rfl) (List.Perm.refl _) (fun w hw => wbeside_any N i col gw y M uV hW (by omega) (by omega) hca haN w hw) (fun uY hTuY => ?_)
      simp only [qz]
      refine rg_nil (ek_next (wk_seq ?_))
      obtain ⟨hpi, hbnd, hact, hfit, hlen3, hun, hz0⟩ := hRn.beside hN hc hca haN hane (by omega)
      obtain ⟨go2, oc2, ro2, rs2, ia2, ic2, u2, hse2, hrl2, hoc2, hlen2, hval2, hO2, hok2⟩ := hTuY.open_
      rw [hse2]
      refine wk_region [0, 0, 1, 1] rfl (by kernel_rfl) ?_
      simp only [qy]
      refine rf_build (cs := fun a => #[a.eval (.const (.int .i64 1)), .int .i64 0, .int .i64 0, .int .i64 0]) rfl rfl (by kernel_rfl) ?_
      simp only [qz]
      refine rf_build (cs := fun a => #[cellAt (a.eval (.tmp 39)) 0, cellAt (a.eval (.tmp 39)) 1, cellAt (a.eval (.tmp 39)) 2, cellAt (a.eval (.tmp 39)) 3, .int .i64 0]) rfl rfl (by kernel_rfl) ?_
      simp only [qz]
      refine rg_new (cs := ?_) (ty := ?_) (by rfl) (fun w => ?_) (fun _ h => by cases h) (fun g1 => ?_); rotate_left 2
      focus (go_simp; rfl)
      simp only [qz]
      refine rf_storeR (n := 5) rfl rfl (by kernel_rfl) rfl rfl (UpdR.here _ _ _ (Nat.le_of_ble_eq_true rfl)) (fun _ h => by cases h) ?_
      simp only [qz, Nat.reduceAdd]
      refine rg_nil (ek_next (wk_seq ?_))
      refine wk_region [0] rfl (by kernel_rfl) ?_
      simp only [qy]
      refine rg_move ?_
      simp only [qz]
      refine rg_nil (ek_next (wk_block ?_))
      refine wk_loopF [7, 41, 42, 43, 44, 45, 46, 47, 48, 49, 50, 51, 52, 53, 54, 55, 56, 57, 58, 59, 60, 61, 62, 63, 64, 65] (fun mz f s => ∃ (n : Nat), f 41 = .int .i64 n ∧ s = ((g1, .cells #[.int .i64 1, .int .i64 0, .int .i64 0, .int .i64 0, .int .i64 0] 45) :: ((gw, .cells #[.slice (some ⟨go2, 0, none⟩) N oc2, .slice ia2 (M ++ bsL i (i - col)).length ic2] 131) :: ((go2, .cells (rwV N rs2 ++ ro2).toArray 36) :: (rwB rs2 ++ (u2 ++ []))))) ∧ mz = 8 - n ∧ n ≤ 8 ∧ (∀ j, j < n → turnM j (bsZ i y (i - col) col col) ≠ Nm.one)) ((fun (n : Nat) => 8 - n) (0)) ?_ (by kernel_rfl) ?_
      · exact ⟨0, rfl, rfl, rfl, by omega, (fun j y1 => absurd y1 (by omega))⟩
      rintro mz f3 s ⟨n, hs3_41, rfl, hn, hx1, hx2⟩
      simp only [Act.putF, List.foldl_cons, List.foldl_nil, hs3_41, Act.put, Act.eval, q1, q2, q3, q4, q5, q6, q7, q8, q9, q10, q11, q12, q13, q14, q15, q16, q17, q18, Nat.reduceAdd, Bool.not_true, Bool.not_false]
      clear hs3_41
      refine wk_seq ?_
      refine wk_region [0] rfl (by kernel_rfl) ?_
      simp only [qy]
      refine rfb_lss rfl rfl rfl rfl ?_
      intro x h3
      cases x
      · (try simp only [qd, ne_eq] at h3)
        simp only [qz]
        refine rg_nil (ek_next (wk_seq (wk_cond_f rfl (wk_exit (ek_then_exit (ek_then_exit (ek_block_exit ?_)))))))
        exfalso
        obtain ⟨n', hn8, hn1⟩ := hun
        exact hx2 n' (by omega) hn1
      (try simp only [qd, ne_eq] at h3)
      simp only [qz]
      refine rg_nil (ek_next (wk_seq (wk_cond_t rfl (wk_skip (ek_next (wk_seq (wk_block (wk_seq ?_))))))))
      refine wk_region [0, 0] rfl (by kernel_rfl) ?_
      simp only [qy]
      refine rg_move ?_
      simp only [qz]
      refine rg_assign ?_
      simp only [qz]
      refine rg_nil (ek_next (wk_seq ?_))
      obtain ⟨⟨b3, c3, l3, r3⟩, hx3⟩ : ∃ x, rs2[col]? = some x := ⟨rs2[col]'(by omega), List.getElem?_eq_getElem (by omega)⟩
      have hl3 : l3.length = N := hlen2 ⟨b3, c3, l3, r3⟩ (List.mem_of_getElem? hx3)
      have hz3 : nm l3 col = (bsZ i y (i - col)) (col) col := hval2 _ _ hx3 col hc
      have hok3 := hok2 col col (by omega) (by omega)
      refine wk_draws _ _ [(0, 0), (1, 0), (2, 0), (3, 0), (4, 0), (5, 0), (6, 0), (7, 0), (8, 0), (9, 0), (10, 0), (15, 0), (11, 1), (12, 0), (13, 0), (14, 1), (16, 0)] [] (by kernel_rfl) (by kernel_rfl) (fun c d v a w h => by cases d <;> exact h) ((sc _ (sc _ (sc _ (List.Sublist.append_left (List.Sublist.append_left sn _) _))))) (fun e => by first | exact absurd e (by decide) | rfl) ?_
      simp only [List.map_cons, List.map_nil, List.getD_cons_zero, List.getD_cons_succ]
      refine rg_move ?_
      simp only [qz]
      apply rg_soft
      case hy => (intro w hw; go_simp; (try go_bits); exact Yld.mk _ _)
      simp only [qz]
      refine rf_field (n := 0) (j := 0) rfl rfl rfl Try.underlying131 rfl (by kernel_rfl) rfl ?_
      simp only [qz]
      refine rf_load rfl rfl rfl Try.underlying129 rfl (fun w hw => (Kn.hd0 (Kn.tl hw)).at rfl) ?_
      simp only [qz]
      refine rg_move ?_
      simp only [qz]
      refine rf_indexS (n := col) (sz := 1) (j := col) rfl rfl rfl rfl Try.underlying129 (by kernel_rfl) (by omega) (by omega) (by omega) ?_
      simp only [qz]
      refine rf_load (v := .slice (some ⟨b3, 0, none⟩) N c3) rfl rfl rfl Try.underlying36 rfl (fun w hw => Kn.outer (Kn.tl (Kn.tl hw)) (hx3)) ?_
      simp only [qz]
      refine rg_move ?_
      simp only [qz]
      refine rf_indexS (n := col) (sz := 5) (j := 0 + col * 5) rfl rfl rfl rfl Try.underlying36 (by kernel_rfl) (by omega) (by omega) rfl ?_
      simp only [qz]
      refine rf_loadC (n := 5) (vs := [.int .i64 (bsZ i y (i - col) col col).a, .int .i64 (bsZ i y (i - col) col col).b, .int .i64 (bsZ i y (i - col) col col).c, .int .i64 (bsZ i y (i - col) col col).d, .int .i64 (bsZ i y (i - col) col col).k]) rfl rfl rfl Try.underlying45 rfl (by kernel_rfl) rfl (fun w hw => atN_range (by have := Kn.row (Kn.tl (Kn.tl (Kn.tl hw))) hx3 (k := col) (by rw [hl3]; exact hc); rw [hz3] at this; exact this)) ?_
      simp only [qz]
      refine rg_move ?_
      simp only [qz]
      refine rf_loadR (n := 5) rfl rfl rfl Try.underlying45 rfl (by kernel_rfl) (fun w hw => Kn.hd0 hw) rfl rfl ?_
      simp only [qz]
      apply rg_pure (by rfl) (by kernel_rfl)
      case hargs => (simp only [qm, qs, Act.eval]; exact rfl)
      case h => exact fun w hw => amTurnM (bsZ i y (i - col) col col) n (by omega) hok3 w
      case hz => exact (fun _ h => by cases h; exact (sc _ (sc _ (sc _ (List.Sublist.append_left (List.Sublist.append_left sn _) _)))))
      simp only [qz]
      refine rf_extract rfl rfl rfl rfl ?_
      simp only [qz]
      refine rf_extract rfl rfl rfl rfl ?_
      simp only [qz]
      apply rg_pure (by rfl) (by kernel_rfl)
      case hargs => (simp only [qm, qs, Act.eval]; exact rfl)
      case h => exact fun w hw => must_any (turnM n (bsZ i y (i - col) col col)) 0 w
      case hz => exact (fun _ h => by cases h; exact (sc _ (sc _ (sc _ (List.Sublist.append_left (List.Sublist.append_left sn _) _)))))
      simp only [qz]
      refine rfb_eqN (turnM n (bsZ i y (i - col) col col)) (Nm.one) rfl rfl rfl rfl ?_
      intro x h4
      cases x
      · (try simp only [qd, ne_eq] at h4)
        simp only [qz]
        refine rg_nil (ek_next (wk_cond_f rfl (wk_skip (ek_block (ek_next ?_)))))
        refine wk_region [0, 0] rfl (by kernel_rfl) ?_
        simp only [qy]
        refine rf_add rfl rfl rfl rfl (wrap_ok (by omega) (by omega)) ?_
        simp only [qz]
        refine rg_move ?_
        simp only [qz]
        refine rg_nil ?_
        refine ek_roundF (8 - (n + 1)) (by omega) (by kernel_rfl) ?_
        exact ⟨n + 1, rfl, by rfl, by rfl, by omega, (fun j y1 => if e : j = n then e ▸ h4 else hx2 j (by omega))⟩
      (try simp only [qd, ne_eq] at h4)
      simp only [qz]
      refine rg_nil (ek_next (wk_cond_t rfl (wk_seq ?_)))
      rw [← hse2]
      refine wk_region [0, 0, 0, 1] rfl (by kernel_rfl) ?_
      simp only [qy]
      refine rg_move ?_
      simp only [qz]
      refine rg_move ?_
      simp only [qz]
      refine rg_move ?_
      simp only [qz]
      refine rg_eff (T := fun uZ => WS N gw (phZ col n (bsZ i y (i - col))) (if n = 0 then (M ++ bsL i (i - col)) else (M ++ bsL i (i - col)) ++ [phsI ((col : Int) + 1) n]) uZ) (vb := uY) (rest := [(g1, .cells #[.int .i64 1, .int .i64 0, .int .i64 0, .int .i64 0, .int .i64 0] 45)]) (by rfl) (by kernel_rfl) (by simp only [qm, qs, Act.eval]; try rfl) (perm_atU (l := [_]) (u := uY) (List.Perm.refl _)) (fun w hw => wphase_any N col gw (bsZ i y (i - col)) (M ++ bsL i (i - col)) uY hTuY (by omega) (by omega) hc n n (by omega) w hw) (fun uZ hTuZ => ?_)
      simp only [qz]
      refine rg_nil (ek_next (wk_ret (ek_block_ret (ek_then_ret (ek_then_ret (ek_block_ret ?_))))))
      refine ek_sub (List.Sublist.append_left (sk _ sn) _) ?_
      refine ek_ret (fun w hw => ⟨rfl, _, res_0 rfl, ?_⟩)
      (try simp only [qz])
      obtain ⟨r1, r2, r3, r4, r5⟩ := Rn.last hN4 hB hc hpi hbnd hact hfit (show n < 8 by omega) h4 hz0
      exact ⟨(by first | rfl | trivial), _, hw.of_nil, _, _, hTuZ, r1, r2, r3, r4, by omega⟩
    (try simp only [qd, ne_eq] at h2)
    simp only [qz]
    refine rg_nil (ek_next (wk_cond_t rfl (wk_skip (ek_next (wk_block ?_)))))
    refine wk_region [0, 0, 0] rfl (by kernel_rfl) ?_
    simp only [qy]
    refine rg_move ?_
    simp only [qz]
    refine rf_add rfl rfl rfl rfl (wrap_ok (by omega) (by omega)) ?_
    simp only [qz]
    refine rg_assign ?_
    simp only [qz]
    refine rg_nil (ek_block ?_)
    refine ek_roundF (N - (i + 1)) (by omega) (by kernel_rfl) ?_
    exact ⟨i + 1, rfl, by rfl, by rfl, by omega, (by rcases (by omega : i = a ∨ i < a) with e | e; exact absurd (e ▸ h2) hane; omega)⟩
  (try simp only [qd, ne_eq] at h1)
  simp only [qz]
  refine rg_nil (ek_next (wk_cond_t rfl (wk_skip (ek_next (wk_seq (wk_block ?_))))))
  refine wk_region [0, 0, 0, 1] rfl (by kernel_rfl) ?_
  simp only [qy]
  refine rg_move ?_
  simp only [qz]
  refine rg_move ?_
  simp only [qz]
  refine rg_move ?_
  simp only [qz]
  obtain ⟨K, hKe⟩ : ∃ K : Nat, expZ y col (N - col) = K := ⟨(expZ y col (N - col)).toNat, by omega⟩
  have hEx := expZ_exp (N := N) (z := y) (show col ≤ N by omega)
  refine rg_eff (T := fun uX => ∃ y2 M2, WS N gw y2 M2 uX ∧ PairR N col (expZ y col (N - col)) y M y2 M2) (vb := uV) (rest := []) (by rfl) (by kernel_rfl) (by simp only [qm, qs, Act.eval]; try rfl) (List.Perm.refl _) (fun w hw => wpair_any N col gw (expZ y col (N - col)) y M uV hW (by omega) (by omega) hc w hw) (fun uX hTuX => ?_)
  simp only [qz]
  obtain ⟨y2, M2, hW2, hP2⟩ := hTuX
  rw [hKe] at hP2 hEx
  have hR2 := hRn.pair hN hc (by omega) hEx hP2
  refine rg_nil (ek_block (ek_next ?_))
  refine wk_region [0, 0, 1, 0] rfl (by kernel_rfl) ?_
  simp only [qy]
  refine rg_move ?_
  simp only [qz]
  refine rg_move ?_
  simp only [qz]
  apply rg_pure (by rfl) (by kernel_rfl)
  case hargs => (simp only [qm, qs, Act.eval]; exact rfl)
  case h => exact fun w hw => wexpo_any N col gw y2 M2 uX hW2 (by omega) (by have := hR2.1.len; omega) hc w (Kn.self hw)
  case hz => exact (fun _ h => by cases h)
  simp only [qz]
  refine rg_assign ?_
  simp only [qz]
  refine rg_nil ?_
  refine ek_roundF (muZ N col y2) (by have := hR2.2; omega) (by kernel_rfl) ?_
  exact ⟨y2, M2, uX, rfl, by rfl, by rfl, hW2, hR2.1⟩

end Go.Proofs.Ytccbinnlnkpplaa
