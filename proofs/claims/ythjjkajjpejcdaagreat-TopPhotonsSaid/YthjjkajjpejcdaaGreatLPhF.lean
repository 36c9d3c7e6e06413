/- Texts in one: PgO, PgQ, PgS, Sy1, Sy2, Sy3, Sy4, SyPl, Sy6, Sy8, Sy9, Sy10, Sy12, Sy13, Sy14, AmTn, MaPl, Ma0, Ma1, Ma2, Ma3. -/
import Derived.Test.YthjjkajjpejcdaaGreatLPhE
namespace Go.Proofs.YthjjkajjpejcdaaGreat
set_option linter.all false
set_option maxRecDepth 100000
set_option maxHeartbeats 1000000
def sqE (z : Nm) : Int := z.a * z.a + z.b * z.b + z.c * z.c + z.d * z.d
def crE' (z : Nm) : Int := z.a * z.b + z.b * z.c + z.c * z.d - z.d * z.a
theorem sqE_tr (z : Nm) : sqE z.tr = 2 * sqE z := by unfold sqE Nm.tr; simp only; grind
theorem crE_tr (z : Nm) : crE' z.tr = 2 * crE' z := by unfold crE' Nm.tr; simp only; grind
theorem sq2 (a : Int) : a * a % 2 = a % 2 := by
 rcases mod2 a with h | h <;> rw [Int.mul_emod, h] <;> rfl
theorem sqE_mod (z : Nm) : sqE z % 2 = sumE z % 2 := by
 unfold sqE sumE
 have h1 := sq2 z.a; have h2 := sq2 z.b; have h3 := sq2 z.c; have h4 := sq2 z.d
 generalize z.a * z.a = p at *
 generalize z.b * z.b = q at *
 generalize z.c * z.c = r at *
 generalize z.d * z.d = s at *
 omega
theorem crE_eq (z : Nm) : crE' z = (z.a + z.c) * (z.b + z.d) - 2 * (z.d * z.a) := by unfold crE'; grind
theorem crE_mod2 (z : Nm) (h : sumE z % 2 = 0) (he : ¬ z.even) : crE' z % 2 = 1 := by
 rw [crE_eq]
 have h1 : (z.a + z.c) * (z.b + z.d) % 2 = 1 := by
  have he' : ¬ ((z.a + z.c) % 2 = 0 ∧ (z.b + z.d) % 2 = 0) := he
  unfold sumE at h
  have e1 : (z.a + z.c) % 2 = 1 := by omega
  have e2 : (z.b + z.d) % 2 = 1 := by omega
  rw [Int.mul_emod, e1, e2]; rfl
 generalize (z.a + z.c) * (z.b + z.d) = p at *
 generalize z.d * z.a = q at *
 omega
def pwQ (v : Q4) : Q4 := Q4.conj v * v
def pcQ (p q : Rat) : Q4 := ⟨p, q, 0, -q⟩
theorem pw_val {z : Nm} {K : Nat} (h : z.k = K) : pwQ z.val = Q4.dn (K + K) (pcQ (sqE z : Int) (crE' z : Int)) := by
 unfold pwQ
 rw [valK K z h, ← Q4.dn_conj, ← Q4.dn_mul2]
 congr 1
 apply Q4.ext' <;> simp only [Nm.co, pcQ, sqE, crE', Q4.ma, Q4.mb, Q4.mc, Q4.md, Q4.ca, Q4.cb, Q4.cc, Q4.cd, Rat.intCast_add, Rat.intCast_mul, Rat.intCast_sub] <;> grind
theorem to_tr {z : Nm} {K : Nat} (h : z.k < K) : ∃ y : Nm, z.to K = y.tr := by
 unfold Nm.to
 obtain ⟨m, hm⟩ : ∃ m, ((K : Int) - z.k).toNat = m + 1 := ⟨((K : Int) - z.k).toNat - 1, by omega⟩
 rw [hm, Nm.up_succ1]
 exact ⟨_, rfl⟩
theorem kind_cases (z : Nm) (K : Int) (h : z.k ≤ K) : (kindN z K = 0 ∧ z.k < K) ∨ (kindN z K = 1 ∧ z.k = K ∧ sumE z % 2 = 1) ∨ (kindN z K = 2 ∧ z.k = K ∧ sumE z % 2 = 0) := by
 unfold kindN
 split
 ·exact .inl ⟨rfl, by assumption⟩
 ·split
  ·exact .inr (.inl ⟨rfl, by omega, by assumption⟩)
  ·exact .inr (.inr ⟨rfl, by omega, by omega⟩)
theorem sqs (a : Int) : 0 ≤ a * a := by
 rcases Int.le_total 0 a with h | h
 ·exact Int.mul_nonneg h h
 ·rw [← Int.neg_mul_neg]; exact Int.mul_nonneg Ox Ox
theorem dn_a : ∀ (K : Nat) (x : Q4), (Q4.dn (K + K) x).a * ((2 : Int) ^ K : Int) = x.a
  | 0, x => by show x.a * ((1 : Int) : Rat) = x.a; grind
  | K + 1, x => by
    rw [show K + 1 + (K + 1) = (K + K) + 1 + 1 by omega]
    show (Q4.dn (K + K) (Q4.dh (Q4.dh x))).a * _ = _
    have e : ((2 : Int) ^ (K + 1) : Int) = 2 ^ K * 2 := Int.pow_succ ..
    rw [e, Rat.intCast_mul, ← Rat.mul_assoc, dn_a K]; simp only [Q4.dh]
    grind
theorem sq_big {a B : Int} (hB : 0 ≤ B) (h : a * a ≤ B * B) : -B ≤ a ∧ a ≤ B := by
 have key : ∀ x : Int, B + 1 ≤ x → x * x ≤ B * B → False := fun x hx h => by
  have h1 := Int.mul_le_mul hx hx Ox Ox
  have h2 : (B + 1) * (B + 1) = B * B + 2 * B + 1 := by grind
  omega
 constructor
 ·refine Decidable.byContradiction fun hn => key (-a) Ox (by rw [Int.neg_mul_neg]; exact h)
 ·exact Decidable.byContradiction fun hn => key a Ox h
theorem fit_pw {z : Nm} (h0 : 0 ≤ z.k) (h1 : z.k ≤ 40) (h : (pwQ z.val).a ≤ 2) : z.Fit 1000000000 := by
 obtain ⟨K, hK⟩ : ∃ K : Nat, z.k = K := ⟨z.k.toNat, by omega⟩
 rw [pw_val hK] at h
 have e := dn_a K (pcQ (sqE z : Int) (crE' z : Int))
 generalize (Q4.dn (K + K) (pcQ (sqE z : Int) (crE' z : Int))).a = r at *
 have e' : r * ((2 : Int) ^ K : Int) = (sqE z : Rat) := e
 have h2 : (0 : Rat) ≤ (((2 : Int) ^ K : Int) : Rat) := by exact_mod_cast (Int.pow_nonneg Ox : (0 : Int) ≤ 2 ^ K)
 have h3 : (sqE z : Rat) ≤ 2 * (((2 : Int) ^ K : Int) : Rat) := by rw [← e']; exact Rat.mul_le_mul_of_nonneg_right h h2
 have h4 : sqE z ≤ 2 * 2 ^ K := by exact_mod_cast h3
 have h5 : (2 : Int) ^ K ≤ 2 ^ 40 := by exact_mod_cast (Nat.pow_le_pow_right Ox Ox : (2 : Nat) ^ K ≤ 2 ^ 40)
 have h6 : (2 : Int) ^ 40 = 1099511627776 := by decide
 have h7 : sqE z ≤ 1000000000 * 1000000000 := by omega
 unfold sqE at h7
 have ha := sqs z.a; have hb := sqs z.b; have hc := sqs z.c; have hd := sqs z.d
 have := sq_big (a := z.a) (B := 1000000000) Ox Ox
 have := sq_big (a := z.b) (B := 1000000000) Ox Ox
 have := sq_big (a := z.c) (B := 1000000000) Ox Ox
 have := sq_big (a := z.d) (B := 1000000000) Ox Ox
 constructor <;> omega
theorem pw_a (v : Q4) : 0 ≤ (pwQ v).a := by
 unfold pwQ; rw [Q4.mul_comm]; exact Q4.norm_nonneg v
theorem sumQ_le {f : Nat → Q4} : ∀ {n : Nat}, (∀ i, i < n → 0 ≤ (f i).a) → ∀ {j : Nat}, j < n → (f j).a ≤ (sumQ n f).a
  | 0, _, _, h => absurd h Ox
  | n + 1, h, j, hj => by
    simp only [sumQ, Q4.aa]
    have h1 := h n Ox
    have h2 := sumQ_a_nonneg fun i (hi : i < n) => h i Ox
    rcases (by omega : j = n ∨ j < n) with rfl | hj
    · grind
    · have := sumQ_le (fun i hi => h i Ox) hj
      grind
theorem un_pw {n : Nat} {m : Tb} (h : UnC n m) {i k : Nat} (hi : i < n) (hk : k < n) : (pwQ (m i k)).a ≤ 1 := by
 have h1 := h k k hk hk
 have e : dl k k = 1 := if_pos rfl
 rw [e] at h1
 have := sumQ_le (n := n) (f := fun j => pwQ (m j k)) (fun j _ => pw_a _) hi
 have h2 : (sumQ n fun j => pwQ (m j k)).a = 1 := by
  have : (sumQ n fun j => pwQ (m j k)) = 1 := h1
  rw [this]; rfl
 rw [h2] at this
 exact this
theorem pw_mul (u v : Q4) : pwQ (u * v) = pwQ u * pwQ v := by
 unfold pwQ
 rw [Q4.conj_mul, mul4c]
theorem pw_conj (u : Q4) : pwQ (Q4.conj u) = pwQ u := by unfold pwQ; rw [Q4.conj_conj, Q4.mul_comm]
theorem pw_neg (u : Q4) : pwQ (-u) = pwQ u := by unfold pwQ; rw [Q4.conj_neg, Q4.neg_mul, Q4.mul_neg, Q4.neg_neg]
theorem two_pw {p s q t : Q4} (h1 : pwQ p + pwQ s = 1) (h2 : pwQ q + pwQ t = 1) (h3 : Q4.conj p * q + Q4.conj s * t = 0) : pwQ p = pwQ t ∧ pwQ q = pwQ s := by
 have e1 : Q4.conj p * q = -(Q4.conj s * t) := by
  have : Q4.conj p * q + Q4.conj s * t + -(Q4.conj s * t) = 0 + -(Q4.conj s * t) := congrArg (fun x => x + -(Q4.conj s * t)) h3
  rw [Q4.add_assoc, Q4.add_neg, Q4.add_zero, Q4.zero_add] at this
  exact this
 have e2 : pwQ p * pwQ q = pwQ s * pwQ t := by
  have := congrArg pwQ e1
  rw [pw_neg, pw_mul, pw_mul, pw_conj, pw_conj] at this
  exact this
 have e3 : pwQ q = 1 + -pwQ t := by rw [← h2, Q4.add_assoc, Q4.add_neg, Q4.add_zero]
 have e4 : pwQ s = 1 + -pwQ p := by rw [← h1, Q4.add_comm (pwQ p), Q4.add_assoc, Q4.add_neg, Q4.add_zero]
 rw [e3, e4, Q4.mul_add, Q4.mul_one, Q4.add_mul, Q4.one_mul, Q4.mul_neg, Q4.neg_mul] at e2
 have e5 : pwQ p = pwQ t := by
  have h5 : pwQ p + -(pwQ p * pwQ t) + pwQ p * pwQ t = pwQ t + -(pwQ p * pwQ t) + pwQ p * pwQ t := congrArg (fun x => x + pwQ p * pwQ t) e2
  rw [Q4.add_assoc, Q4.add_assoc, Q4.add_comm (-(pwQ p * pwQ t)), Q4.add_neg, Q4.add_zero, Q4.add_zero] at h5
  exact h5
 exact ⟨e5, by rw [e3, e4, e5]⟩
theorem pw_kle {x y : Nm} (hx : x.Nf) (hx0 : 0 ≤ x.k) (hy : y.Nf) (hy0 : 0 ≤ y.k) (h : pwQ x.val = pwQ y.val) : x.k ≤ y.k := by
 refine Decidable.byContradiction fun hn => ?_
 obtain ⟨K, hK⟩ : ∃ K : Nat, x.k = K := ⟨x.k.toNat, by omega⟩
 obtain ⟨w, hw⟩ := to_tr (z := y) (K := K) Ox
 have e := pw_val hK
 rw [h, ← to_up (m := (K : Int)) hy0, pw_val (Nm.to_k Ox), hw, sqE_tr, crE_tr] at e
 have e1 := Q4.dn_inj _ e
 have e2 : (2 * sqE w : Int) = sqE x := Rat.intCast_inj.1 (congrArg Q4.a e1 : ((2 * sqE w : Int) : Rat) = ((sqE x : Int) : Rat))
 have e3 : (2 * crE' w : Int) = crE' x := Rat.intCast_inj.1 (congrArg Q4.b e1 : ((2 * crE' w : Int) : Rat) = ((crE' x : Int) : Rat))
 have ne : ¬ x.even := hx.resolve_left Ox
 have m1 := sqE_mod x
 rcases mod2 (sumE x) with h0 | h1
 ·have := crE_mod2 x h0 ne
  omega
 ·omega
set_option maxHeartbeats 1000000
def turnM : Nat → Nm → Nm
  | 0, z => z
  | n + 1, z => (turnM n z).rot
def mtR : NR → Nm
  | .ok z => z
  | .error _ => Nm.zero
def cX (x y : Nm) : Nm := mtR ((mtR (x.add y.rot.rot)).halve 1)
def cY (x y : Nm) : Nm := mtR ((mtR (x.rot.rot.add y)).halve 1)
theorem mk_val {x z : Nm} (hz : z.Ok) (hx : 0 ≤ x.k) (hv : x.val = z.val) : x.mk' = .ok z := by
 have h := nf_eq hx hz.k0 (eqv_val hx hz.k0 hv)
 have h2 : z.nf = z := nf_self hz.nf
 unfold Nm.mk'
 rw [h, h2, if_pos (small_yes hz.k1 hz.fit)]
theorem ok_mk {z : Nm} (hf : z.Nf) (h0 : 0 ≤ z.k) (h1 : z.k ≤ 40) (h : (pwQ z.val).a ≤ 2) : z.Ok := ⟨fit_pw h0 h1 h, h0, h1, hf.imp Ox id⟩
theorem rot2_val (z : Nm) : z.rot.rot.val = imQ * z.val := by rw [rot_val, rot_val, ← Q4.mul_assoc, om_im]
theorem pw_hh (v : Q4) : (pwQ v).a = 2 * (pwQ (hhQ * v)).a := by
 rw [pw_mul]
 have e1 : pwQ hhQ = ⟨1 / 2, 0, 0, 0⟩ := by
  unfold pwQ
  apply Q4.ext' <;> simp only [hhQ, Q4.ma, Q4.mb, Q4.mc, Q4.md, Q4.ca, Q4.cb, Q4.cc, Q4.cd] <;> grind
 rw [e1, Q4.ma]
 grind
theorem half_ok {s u : Nm} (hs0 : 0 ≤ s.k) (hs : s.k ≤ 40) (hu : u.Ok) (hv : u.val = hhQ * s.val) (hp : (pwQ u.val).a ≤ 1) : mtR ((mtR s.mk').halve 1) = u := by
 have h1 := nf_k hs0
 have v1 : s.nf.val = s.val := val_eqv h1.1 hs0 (nf_eqv s)
 have o1 : s.nf.Ok := ok_mk (nf_form s) h1.1 Ox (by rw [v1, pw_hh, ← hv]; grind)
 have e1 : s.mk' = .ok s.nf := mk_val o1 hs0 v1.symm
 rw [e1]
 show mtR (s.nf.halve 1) = u
 have e2 : s.nf.halve 1 = .ok u := by
  unfold Nm.halve
  obtain ⟨K, hK⟩ : ∃ K : Nat, s.nf.k = K := ⟨s.nf.k.toNat, by omega⟩
  refine mk_val hu (by show 0 ≤ s.nf.k + 1; omega) ?_; rw [hv, ← v1]
  generalize s.nf = q at *
  obtain ⟨a, b, c, d, k⟩ := q
  simp only at hK
  subst hK
  exact val_hh a b c d K
 rw [e2]; rfl
theorem addR_le {x y : Nm} {E : Int} (hx : x.k ≤ E) (hy : y.k ≤ E) : (x.addR y).k ≤ E := by simp only [Nm.addR]; omega
theorem cX_val {x y u : Nm} (hx : x.Ok) (hy : y.Ok) (hu : u.Ok) (hv : u.val = hhQ * (x.val + imQ * y.val)) (hp : (pwQ u.val).a ≤ 1) : cX x y = u := by
 unfold cX Nm.add
 refine half_ok (addR_k hx.k0) (addR_le hx.k1 hy.k1) hu ?_ hp
 rw [val_addR (x := x) (y := y.rot.rot) hx.k0 hy.k0, rot2_val]
 exact hv
theorem cY_val {x y u : Nm} (hx : x.Ok) (hy : y.Ok) (hu : u.Ok) (hv : u.val = hhQ * (imQ * x.val + y.val)) (hp : (pwQ u.val).a ≤ 1) : cY x y = u := by
 unfold cY Nm.add
 refine half_ok (addR_k (show 0 ≤ x.k from hx.k0)) (addR_le hx.k1 hy.k1) hu ?_ hp
 rw [val_addR (x := x.rot.rot) (y := y) hx.k0 hy.k0, rot2_val]
 exact hv
theorem turnM_k (z : Nm) : ∀ n, (turnM n z).k = z.k
  | 0 => rfl
  | n + 1 => turnM_k z n
theorem turnM_val (z : Nm) : ∀ n, (turnM n z).val = omP n * z.val
  | 0 => by show z.val = 1 * z.val; rw [Q4.one_mul]
  | n + 1 => by show (turnM n z).rot.val = omQ * omP n * z.val; rw [rot_val, turnM_val z n, Q4.mul_assoc]
theorem turnM_ok {z : Nm} (h : z.Ok) : ∀ n, (turnM n z).Ok
  | 0 => h
  | n + 1 => rot_ok (turnM_ok h n)
theorem dexp_rot (z : Nm) : dexp z.rot = dexp z := by
 unfold dexp
 have e : sumE z.rot % 2 = sumE z % 2 := by unfold sumE Nm.rot; simp only; omega
 have e2 : z.rot.k = z.k := rfl
 rw [e, e2]
theorem dexp_turn (z : Nm) : ∀ n, dexp (turnM n z) = dexp z
  | 0 => rfl
  | n + 1 => by show dexp (turnM n z).rot = _; rw [dexp_rot, dexp_turn z n]
abbrev Zt := Nat → Nat → Nm
def vt (z : Zt) : Tb := fun i k => (z i k).val
def phZ (p n : Nat) (z : Zt) : Zt := fun i k => if i = p then turnM n (z i k) else z i k
def cpZ (p : Nat) (z : Zt) : Zt := fun i k => if i = p then cX (z p k) (z (p + 1) k) else if i = p + 1 then cY (z p k) (z (p + 1) k) else z i k
theorem ph_vt (p n : Nat) (z : Zt) : vt (phZ p n z) = phQ p (omP n) (vt z) := by
 funext i k
 unfold vt phZ phQ
 split
 ·exact turnM_val _ _
 ·rfl
def sumM : Nat → (Nat → Nat) → Nat
  | 0, _ => 0
  | n + 1, f => sumM n f + f n
theorem sumM_congr {f g : Nat → Nat} : ∀ {n : Nat}, (∀ i, i < n → f i = g i) → sumM n f = sumM n g
  | 0, _ => rfl
  | n + 1, h => by simp only [sumM]; rw [sumM_congr fun i hi => h i Ox, h n Ox]
theorem sumM_two {p d : Nat} {f g : Nat → Nat} (h : ∀ i, i ≠ p → i ≠ p + 1 → f i = g i) (h2 : f p + f (p + 1) + d ≤ g p + g (p + 1)) : ∀ n, p + 1 < n → sumM n f + d ≤ sumM n g
  | 0, hn => absurd hn Ox
  | n + 1, hn => by
    by_cases e : n = p + 1
    · subst e
      simp only [sumM]; rw [sumM_congr fun i hi => h i Ox Ox]
      omega
    · simp only [sumM]
      have := sumM_two h h2 n Ox
      have := h n Ox Ox
      omega
structure PI (N col : Nat) (z : Zt) : Prop where
  ok : ∀ i k, i < N → k < N → (z i k).Ok
  un : UnC N (vt z)
  idc : ∀ i c, i < N → c < col → c < N → (z i c).val = dl i c
def Bnd (N col : Nat) (B : Int) (z : Zt) : Prop := (B ≤ 40 ∧ ∀ i k, col ≤ i → i < N → k < N → (z i k).k + dexp (z i col) ≤ B) ∨ N ≤ col + 2
def muZ (N col : Nat) (z : Zt) : Nat := sumM N fun i => dexp (z i col)
theorem dl_ne {i k : Nat} (h : i ≠ k) : dl i k = 0 := if_neg h
theorem dl_self (i : Nat) : dl i i = 1 := if_pos rfl
theorem PI.low {N col : Nat} {z : Zt} (h : PI N col z) {i k : Nat} (hi : i < col) (hiN : i < N) (hk : k < N) : (z i k).val = dl i k := by
 have h1 := h.un i k hiN hk
 have e : sumQ N (fun j => Q4.conj (vt z j i) * vt z j k) = sumQ N (fun j => dl i j * vt z j k) := sumQ_congr fun j hj => by
  show Q4.conj (z j i).val * _ = _
  rw [h.idc j i hj hi hiN, dl_conj, dl_comm]
 rw [e, sumQ_dl _ hiN] at h1
 exact h1
theorem val0 {z : Nm} (h : z.Ok) (hv : z.val = 0) : z = Nm.zero := val_ok h zero_ok (by rw [hv, val_zero])
theorem PI.zero {N col : Nat} {z : Zt} (h : PI N col z) {i k : Nat} (hi : i < N) (hk : k < N) (hc : i < col ∨ k < col) (hne : i ≠ k) : z i k = Nm.zero := by
 refine val0 (h.ok i k hi hk) ?_
 rcases hc with hc | hc
 ·rw [h.low hc hi hk, dl_ne hne]
 ·rw [h.idc i k hi hc hk, dl_ne hne]
theorem swq_lt {N p i : Nat} (hp : p + 1 < N) (hi : i < N) : swq p i < N := by unfold swq; split; omega; split <;> omega
theorem PI.phase {N col p n : Nat} {z : Zt} {B : Int} (h : PI N col z) (hb : Bnd N col B z) (hp : col ≤ p) (hpN : p < N) :
    PI N col (phZ p n z) ∧ Bnd N col B (phZ p n z) ∧ muZ N col (phZ p n z) ≤ muZ N col z := by
  have hd : ∀ i, dexp (phZ p n z i col) = dexp (z i col) := fun i => by unfold phZ; split; exact dexp_turn _ _; rfl
  have hk' : ∀ i k, (phZ p n z i k).k = (z i k).k := fun i k => by unfold phZ; split; exact turnM_k _ _; rfl
  refine ⟨⟨fun i k hi hk => ?_, by rw [ph_vt]; exact ph_un (omP_unit n) h.un, fun i c hi hc hcN => ?_⟩, ?_, ?_⟩
  · unfold phZ; split
    · exact turnM_ok (h.ok i k hi hk) n
    · exact h.ok i k hi hk
  · show vt (phZ p n z) i c = _
    rw [ph_vt]
    unfold phQ
    split
    · rename_i e
      subst e
      show _ * (z i c).val = _
      rw [h.idc i c hi hc hcN, dl_ne Ox, Q4.mul_zero]
    · exact h.idc i c hi hc hcN
  · refine hb.imp (fun ⟨b1, b2⟩ => ⟨b1, fun i k hi hiN hk => ?_⟩) id; rw [hd, hk']
    exact b2 i k hi hiN hk
  · unfold muZ
    rw [sumM_congr fun i _ => hd i]
    omega
theorem two_rows {a : Nat} {m : Tb} (h : UnC (a + 2) m) (hl : ∀ i k, i < a → k < a + 2 → m i k = dl i k) : pwQ (m a (a + 1)) = pwQ (m (a + 1) a) ∧ pwQ (m (a + 1) (a + 1)) = pwQ (m a a) := by
 have key : ∀ p q, a ≤ p → p < a + 2 → q < a + 2 → Q4.conj (m a p) * m a q + Q4.conj (m (a + 1) p) * m (a + 1) q = dl p q := fun p q hp hp2 hq => by
  have h1 := h p q hp2 hq
  have e : sumQ a (fun k => Q4.conj (m k p) * m k q) = 0 := by
   rw [sumQ_congr (g := fun _ => 0) fun k hk => by rw [hl k p hk hp2, dl_ne Ox, Q4.conj_zero, Q4.zero_mul], sumQ_zero]
  simp only [sumQ] at h1; rw [e, Q4.zero_add] at h1
  exact h1
 have k1 := key a a Ox Ox Ox
 have k2 := key (a + 1) (a + 1) Ox Ox Ox
 have k3 := key a (a + 1) Ox Ox Ox
 rw [dl_self] at k1 k2
 rw [dl_ne Ox] at k3
 obtain ⟨r1, r2⟩ := two_pw (p := m a a) (s := m (a + 1) a) (q := m a (a + 1)) (t := m (a + 1) (a + 1)) k1 k2 k3
 exact ⟨r2, r1.symm⟩
theorem nf_nf {t : Nm} (h0 : 0 ≤ t.k) : t.nf.Nf ∧ 0 ≤ t.nf.k ∧ t.nf.k ≤ t.k ∧ t.nf.val = t.val := by
 have h1 := nf_k h0
 exact ⟨nf_form t, h1.1, h1.2, val_eqv h1.1 h0 (nf_eqv t)⟩
theorem PI.couple {N col a K : Nat} {z : Zt} {B : Int} (h : PI N col z) (hb : Bnd N col B z) (ha : col ≤ a) (haN : a + 1 < N)
    (hK : (z a col).k = K) (hd : dexp (z (a + 1) col) = dexp (z a col))
    (h1 : ∃ t : Nm, 0 ≤ t.k ∧ t.val = hhQ * ((z a col).val + imQ * (z (a + 1) col).val) ∧ dexp t.nf + 1 ≤ dexp (z a col) ∧ t.k ≤ K)
    (h2 : ∃ t : Nm, 0 ≤ t.k ∧ t.val = hhQ * (imQ * (z a col).val + (z (a + 1) col).val) ∧ dexp t.nf + 1 ≤ dexp (z a col) ∧ t.k ≤ K) :
    PI N col (cpZ a z) ∧ Bnd N col B (cpZ a z) ∧ muZ N col (cpZ a z) + 2 ≤ muZ N col z ∧ ∀ i k, i < N → k < N → vt (cpZ a z) i k = cpQ a (vt z) i k := by
  have hcN : col < N := by omega
  have un := cp_un haN h.un
  have hK40 : K ≤ 40 := by have := (h.ok a col Ox hcN).k1; omega
  have ex : ∀ i, i = a ∨ i = a + 1 → ∃ t : Nm, 0 ≤ t.k ∧ t.val = cpQ a (vt z) i col ∧ dexp t.nf + 1 ≤ dexp (z a col) ∧ t.k ≤ K := by
    intro i hi
    rcases hi with rfl | rfl
    · have e : cpQ i (vt z) i col = hhQ * ((z i col).val + imQ * (z (i + 1) col).val) := if_pos rfl
      rw [e]; exact h1
    · have e : cpQ a (vt z) (a + 1) col = hhQ * (imQ * (z a col).val + (z (a + 1) col).val) := by unfold cpQ; rw [if_neg Ox, if_pos rfl]; rfl
      rw [e]; exact h2
  have low : ∀ i k, i < col → k < N → cpQ a (vt z) i k = dl i k := fun i k hi hk => by
    unfold cpQ; rw [if_neg Ox, if_neg Ox]; exact h.low hi Ox hk
  have zro : ∀ i k, i = a ∨ i = a + 1 → k < col → cpQ a (vt z) i k = 0 := fun i k hi hk => by
    have z1 : (z a k).val = 0 := by rw [h.idc a k Ox hk Ox, dl_ne Ox]
    have z2 : (z (a + 1) k).val = 0 := by rw [h.idc (a + 1) k Ox hk Ox, dl_ne Ox]
    unfold cpQ vt
    rw [z1, z2, Q4.mul_zero, Q4.add_zero, Q4.mul_zero]
    rcases hi with rfl | rfl
    · rw [if_pos rfl]
    · rw [if_neg Ox, if_pos rfl]
  -- the new numbers
  have new : ∀ i k, i = a ∨ i = a + 1 → k < N → ∃ u : Nm, u.Ok ∧ u.val = cpQ a (vt z) i k ∧ ∀ E : Int, (z a k).k ≤ E → (z (a + 1) k).k ≤ E → u.k ≤ E + 1 := by
    intro i k hi hk
    have pw := un_pw un (i := i) Ox hk
    have inq : ∀ E : Nat, (z a k).k ≤ E → (z (a + 1) k).k ≤ E → InQ (E + 1) (cpQ a (vt z) i k) := fun E e1 e2 => by
      have i1 := in_le (h.ok a k Ox hk).k0 e1
      have i2 := in_le (h.ok (a + 1) k Ox hk).k0 e2
      rcases hi with rfl | rfl
      · have e : cpQ i (vt z) i k = hhQ * ((z i k).val + imQ * (z (i + 1) k).val) := if_pos rfl
        rw [e]; exact (i1.add i2.im).hh
      · have e : cpQ a (vt z) (a + 1) k = hhQ * (imQ * (z a k).val + (z (a + 1) k).val) := by unfold cpQ; rw [if_neg Ox, if_pos rfl]; rfl
        rw [e]; exact (i1.im.add i2).hh
    obtain ⟨u, uf, u0, -, uv⟩ := nf_in (inq 40 (h.ok a k Ox hk).k1 (h.ok (a + 1) k Ox hk).k1)
    have ule : ∀ E : Int, (z a k).k ≤ E → (z (a + 1) k).k ≤ E → u.k ≤ E + 1 := fun E e1 e2 => by
      have k0 := (h.ok a k Ox hk).k0
      have := le_in uf u0 (by rw [uv]; exact inq E.toNat Ox Ox)
      omega
    refine ⟨u, ok_mk uf u0 ?_ (by rw [uv]; grind), uv, ule⟩
    rcases hb with ⟨b1, b2⟩ | hN
    · have c1 := b2 a k ha Ox hk
      have c2 := b2 (a + 1) k Ox haN hk
      obtain ⟨t, -, -, td, -⟩ := h1
      have := ule (B - dexp (z a col)) Ox Ox
      omega
    · obtain rfl : col = a := by omega
      obtain rfl : N = col + 2 := by omega
      rcases (by omega : k < col ∨ k = col ∨ k = col + 1) with hk1 | rfl | rfl
      · have := nf_val uf u0 (zero_ok.nf) zero_ok.k0 (by rw [uv, zro i k hi hk1, val_zero])
        rw [this]; decide
      · obtain ⟨t, t0, tv, -, tk⟩ := ex i hi
        obtain ⟨nf1, nf2, nf3, nf4⟩ := nf_nf t0
        have := nf_val uf u0 nf1 nf2 (by rw [uv, nf4, tv])
        rw [this]; omega
      · have tw := two_rows un low
        have go : ∀ j, j = col ∨ j = col + 1 → pwQ (cpQ col (vt z) i (col + 1)) = pwQ (cpQ col (vt z) j col) → u.k ≤ 40 := fun j hj he => by
          obtain ⟨t, t0, tv, -, tk⟩ := ex j hj
          obtain ⟨nf1, nf2, nf3, nf4⟩ := nf_nf t0
          have := pw_kle uf u0 nf1 nf2 (by rw [uv, nf4, tv]; exact he)
          omega
        rcases hi with rfl | rfl
        · exact go (i + 1) (.inr rfl) tw.1
        · exact go col (.inl rfl) tw.2
  -- the table
  have val : ∀ i k, i < N → k < N → (cpZ a z i k).Ok ∧ vt (cpZ a z) i k = cpQ a (vt z) i k := by
    intro i k hi hk
    by_cases e1 : i = a
    · subst e1
      obtain ⟨u, uo, uv, -⟩ := new i k (.inl rfl) hk
      have pw := un_pw un (i := i) Ox hk
      have e : cpZ i z i k = u := by
        have e' : cpQ i (vt z) i k = hhQ * ((z i k).val + imQ * (z (i + 1) k).val) := if_pos rfl
        show (if i = i then _ else _) = _
        rw [if_pos rfl]
        exact cX_val (h.ok i k hi hk) (h.ok _ k haN hk) uo (uv.trans e') (by rw [uv]; exact pw)
      refine ⟨by rw [e]; exact uo, ?_⟩
      show (cpZ i z i k).val = _
      rw [e, uv]
    · by_cases e2 : i = a + 1
      · subst e2
        obtain ⟨u, uo, uv, -⟩ := new (a + 1) k (.inr rfl) hk
        have pw := un_pw un (i := a + 1) Ox hk
        have e : cpZ a z (a + 1) k = u := by
          have e' : cpQ a (vt z) (a + 1) k = hhQ * (imQ * (z a k).val + (z (a + 1) k).val) := by unfold cpQ; rw [if_neg Ox, if_pos rfl]; rfl
          unfold cpZ
          rw [if_neg Ox, if_pos rfl]
          exact cY_val (h.ok a k Ox hk) (h.ok _ k haN hk) uo (uv.trans e') (by rw [uv]; exact pw)
        refine ⟨by rw [e]; exact uo, ?_⟩
        show (cpZ a z (a + 1) k).val = _
        rw [e, uv]
      · have e : cpZ a z i k = z i k := by unfold cpZ; rw [if_neg e1, if_neg e2]
        refine ⟨by rw [e]; exact h.ok i k hi hk, ?_⟩
        show (cpZ a z i k).val = cpQ a (vt z) i k
        rw [e]
        unfold cpQ
        rw [if_neg e1, if_neg e2]; rfl
  have dn : ∀ i, i = a ∨ i = a + 1 → dexp (cpZ a z i col) + 1 ≤ dexp (z a col) := fun i hi => by
    obtain ⟨t, t0, tv, td, -⟩ := ex i hi
    obtain ⟨nf1, nf2, nf3, nf4⟩ := nf_nf t0
    have v := val i col Ox hcN
    have := nf_val v.1.nf v.1.k0 nf1 nf2 (by rw [nf4, tv]; exact v.2)
    rw [this]; exact td
  refine ⟨⟨fun i k hi hk => (val i k hi hk).1, ?_, fun i c hi hc hcN => ?_⟩, ?_, ?_, fun i k hi hk => (val i k hi hk).2⟩
  · intro i j hi hj; rw [← un i j hi hj]
    exact sumQ_congr fun k hk => by rw [(val k i hk hi).2, (val k j hk hj).2]
  · show vt (cpZ a z) i c = _
    rw [(val i c hi hcN).2]
    rcases (by omega : (i = a ∨ i = a + 1) ∨ (i ≠ a ∧ i ≠ a + 1)) with e | ⟨e1, e2⟩
    · rw [zro i c e hc, dl_ne Ox]
    · unfold cpQ
      rw [if_neg e1, if_neg e2]
      exact h.idc i c hi hc hcN
  · refine hb.imp (fun ⟨b1, b2⟩ => ⟨b1, fun i k hi hiN hk => ?_⟩) id
    rcases (by omega : (i = a ∨ i = a + 1) ∨ (i ≠ a ∧ i ≠ a + 1)) with e | ⟨e1, e2⟩
    · obtain ⟨u, uo, uv, ule⟩ := new i k e hk
      have v := val i k hiN hk
      have eu : cpZ a z i k = u := val_ok v.1 uo (by rw [uv]; exact v.2)
      have c1 := b2 a k ha Ox hk
      have c2 := b2 (a + 1) k Ox haN hk
      have := ule (B - dexp (z a col)) Ox Ox
      have := dn i e
      rw [eu]
      omega
    · have e : ∀ k, cpZ a z i k = z i k := fun k => by unfold cpZ; rw [if_neg e1, if_neg e2]
      rw [e, e]
      exact b2 i k hi hiN hk
  · refine sumM_two (p := a) (fun i e1 e2 => ?_) ?_ N haN
    · show dexp (cpZ a z i col) = _
      unfold cpZ; rw [if_neg e1, if_neg e2]
    · have := dn a (.inl rfl)
      have := dn (a + 1) (.inr rfl)
      show dexp (cpZ a z a col) + dexp (cpZ a z (a + 1) col) + 2 ≤ dexp (z a col) + dexp (z (a + 1) col)
      omega
set_option maxHeartbeats 1000000
theorem dexp_kind {x y : Nm} {K : Nat} (hK : 0 < K) (hx : x.k ≤ K) (hy : y.k ≤ K) (h : kindN x K = kindN y K) (h0 : kindN x K ≠ 0) : x.k = K ∧ y.k = K ∧ dexp x = dexp y ∧ sumE x % 2 = sumE y % 2 := by
 rcases kind_cases x K hx with ⟨e, -⟩ | ⟨e, e1, e2⟩ | ⟨e, e1, e2⟩
 ·exact absurd e h0
 ·rcases kind_cases y K hy with ⟨f, -⟩ | ⟨f, f1, f2⟩ | ⟨f, f1, f2⟩
  ·omega
  ·refine ⟨e1, f1, ?_, by omega⟩
   unfold dexp; rw [e1, f1, e2, f2]
  ·omega
 ·rcases kind_cases y K hy with ⟨f, -⟩ | ⟨f, f1, f2⟩ | ⟨f, f1, f2⟩
  ·omega
  ·omega
  ·refine ⟨e1, f1, ?_, by omega⟩
   unfold dexp; rw [e1, f1, if_neg Ox, if_neg Ox, if_neg Ox, if_neg Ox]
theorem PI.nf {N col : Nat} {z : Zt} (h : PI N col z) {i k : Nat} (hi : i < N) (hk : k < N) : (z i k).Nf := (h.ok i k hi hk).nf
theorem PI.step {N col a K : Nat} {z : Zt} {B : Int} (h : PI N col z) (hb : Bnd N col B z) (ha : col ≤ a) (haN : a + 1 < N) (hK : 0 < K)
    (k1 : (z a col).k ≤ K) (k2 : (z (a + 1) col).k ≤ K) (hk : kindN (z a col) K = kindN (z (a + 1) col) K) (h0 : kindN (z a col) K ≠ 0) :
    PI N col (cpZ a (phZ (a + 1) ((matchN (z a col) (z (a + 1) col) + 6) % 8) z)) ∧ Bnd N col B (cpZ a (phZ (a + 1) ((matchN (z a col) (z (a + 1) col) + 6) % 8) z)) ∧
    muZ N col (cpZ a (phZ (a + 1) ((matchN (z a col) (z (a + 1) col) + 6) % 8) z)) + 2 ≤ muZ N col z ∧
    ∀ i k, i < N → k < N → vt (cpZ a (phZ (a + 1) ((matchN (z a col) (z (a + 1) col) + 6) % 8) z)) i k = cpQ a (phQ (a + 1) (omP ((matchN (z a col) (z (a + 1) col) + 6) % 8)) (vt z)) i k := by
  have hc : col < N := by omega
  obtain ⟨e1, e2, e3, e4⟩ := dexp_kind hK k1 k2 hk h0
  obtain ⟨d1, d2⟩ := pair_drop hK e1 e2 (h.nf Ox hc) (h.nf haN hc) e4
  generalize (matchN (z a col) (z (a + 1) col) + 6) % 8 = n at *
  obtain ⟨p1, p2, p3⟩ := h.phase (n := n) hb (show col ≤ a + 1 by omega) haN
  have za : phZ (a + 1) n z a col = z a col := if_neg Ox
  have zb : phZ (a + 1) n z (a + 1) col = turnM n (z (a + 1) col) := if_pos rfl
  obtain ⟨q1, q2, q3, q4⟩ := p1.couple p2 ha haN (K := K) (by rw [za]; exact e1) (by rw [za, zb, dexp_turn]; exact e3.symm)
    (by rw [za, zb, turnM_val]; exact d1) (by rw [za, zb, turnM_val]; exact d2)
  refine ⟨q1, q2, by omega, fun i k hi hk => ?_⟩; rw [q4 i k hi hk, ph_vt]
theorem PI.next {N col : Nat} {z : Zt} (h : PI N col z) (hc : col < N) (h1 : z col col = Nm.one) (h2 : ∀ i, i < N → i ≠ col → z i col = Nm.zero) : PI N (col + 1) z :=
  ⟨h.ok, h.un, fun i c hi hcc hcN => by
    rcases (by omega : c < col ∨ c = col) with hlt | rfl
    · exact h.idc i c hi hlt hcN
    · by_cases e : i = c
      · subst e; rw [h1, dl_self, val_one]
      · rw [h2 i hi e, dl_ne e, val_zero]⟩
def Cb (N col : Nat) (z : Zt) : Prop := N ≤ col + 2 ∨ ∃ E : Int, (N = col + 3 ∧ E ≤ 13 ∨ N = col + 4 ∧ E ≤ 4) ∧ ∀ i k, col ≤ i → i < N → k < N → (z i k).k ≤ E
theorem Bnd.next {N col : Nat} {z : Zt} {B : Int} (h : Bnd N col B z) (h4 : N = col + 4 → B ≤ 13) (hN : N ≤ col + 4) : Cb N (col + 1) z := by
 rcases h with ⟨b1, b2⟩ | h
 ·rcases (by omega : N ≤ col + 3 ∨ N = col + 4) with e | e
  ·exact .inl Ox
  ·refine .inr ⟨B, .inl ⟨by omega, h4 e⟩, fun i k hi hiN hk => ?_⟩
   have := b2 i k Ox hiN hk
   omega
 ·exact .inl Ox
open Go.RowKit
theorem Kf {x b : Bool} (h : b = x) (hb : b = false := by first | rfl | exact decide_eq_false Ox | exact beq_eq_false_iff_ne.2 Ox | exact bne_eq_false_iff_eq.2 Ox | (simp; omega) | (simp; done)) : x = false := h.symm.trans hb
abbrev ints (xs : List Int) : List Value := xs.map (.int .i64)
abbrev slV (a : Option Addr) (n c : Nat) : Value := .slice a n c
def ix (xs : List Int) (k : Nat) : Int := xs.getD k 0
theorem AS.open {w : World} {a : Option Addr} {xs : List Int} (h : AS w a (ints xs)) (hn : 0 < xs.length) :
    ∃ b off, a = some ⟨b, off, none⟩ ∧ b < w.heap.size ∧ ∀ j, j < xs.length → w.cell? ⟨b, off + j, none⟩ = some (.int .i64 (ix xs j)) := by
  unfold ix
  obtain ⟨b, off, rfl, hlt, hc⟩ := h (by intro e; simp only [List.map_eq_nil_iff] at e; subst e; simp at hn)
  refine ⟨b, off, rfl, hlt, fun j hj => ?_⟩; rw [hc j (by simpa using hj), List.getElem?_map, List.getD_eq_getElem?_getD, List.getElem?_eq_getElem hj]
  rfl
def betB (l n h : Int) : Bool := decide (l ≤ n ∧ n ≤ h)
def Fine (xs : List Int) (k : Nat) : Prop := ∀ i, i < k → (0 ≤ ix xs i ∧ ix xs i < xs.length) ∧ ∀ j, j < i → ix xs j ≠ ix xs i
def Perm (xs : List Int) : Prop := 1 ≤ xs.length ∧ xs.length ≤ 64 ∧ Fine xs xs.length
noncomputable instance (xs : List Int) : Decidable (Perm xs) := Classical.propDecidable _
theorem Fine.succ {xs : List Int} {k : Nat} (h : Fine xs k) (h0 : 0 ≤ ix xs k) (h1 : ix xs k < xs.length) (h2 : ∀ j, j < k → ix xs j ≠ ix xs k) : Fine xs (k + 1) := by
 intro i hi
 by_cases he : i = k
 ·subst he; exact ⟨⟨h0, h1⟩, h2⟩
 exact h i Ox
def FineM (xs : List Int) (m : Int) (k : Nat) : Prop := ∀ i, i < k → (0 ≤ ix xs i ∧ ix xs i < m) ∧ ∀ j, j < i → ix xs j ≠ ix xs i
theorem FineM.succ {xs : List Int} {m : Int} {k : Nat} (h : FineM xs m k) (h0 : 0 ≤ ix xs k) (h1 : ix xs k < m) (h2 : ∀ j, j < k → ix xs j ≠ ix xs k) : FineM xs m (k + 1) := by
 intro i hi
 by_cases he : i = k
 ·subst he; exact ⟨⟨h0, h1⟩, h2⟩
 exact h i Ox
theorem FineM.perm {xs : List Int} {m : Int} {k : Nat} (h : FineM xs m k) (hm : m = xs.length) (hk : k = xs.length) (h1 : 1 ≤ xs.length) (h2 : xs.length ≤ 64) : Perm xs := by
 subst hm hk
 exact ⟨h1, h2, h⟩
def Seen (xs : List Int) (k : Nat) (q : Nat) : Prop := q < 2 ^ 64 ∧ ∀ b, q.testBit b = true ↔ ∃ j, j < k ∧ ix xs j = (b : Int)
theorem Seen.zero (xs : List Int) : Seen xs 0 0 := ⟨by decide, fun b => by simp⟩
theorem Seen.hit {xs : List Int} {k q : Nat} (h : Seen xs k q) (h0 : 0 ≤ ix xs k) (hb : ((q / 2 ^ (ix xs k).toNat % 2 : Nat) : Int) = 1) : ∃ j, j < k ∧ ix xs j = ix xs k := by
 have ht : q.testBit (ix xs k).toNat = true := by rw [Nat.testBit_eq_decide_div_mod_eq]; exact decide_eq_true Ox
 obtain ⟨j, hj, e⟩ := (h.2 _).1 ht
 exact ⟨j, hj, by omega⟩
theorem Seen.succ {xs : List Int} {k q : Nat} (h : Seen xs k q) (h0 : 0 ≤ ix xs k) (h1 : ix xs k < 64) : Seen xs (k + 1) (q ||| 2 ^ (ix xs k).toNat) := by
 refine ⟨Nat.or_lt_two_pow h.1 (Nat.pow_lt_pow_right Ox Ox), fun b => ?_⟩
 rw [Nat.testBit_or, Bool.or_eq_true, h.2 b, Nat.testBit_two_pow]
 constructor
 ·rintro (⟨j, hj, e⟩ | e)
  ·exact ⟨j, by omega, e⟩
  exact ⟨k, by omega, by have := of_decide_eq_true e; omega⟩
 rintro ⟨j, hj, e⟩
 by_cases hjk : j = k
 ·subst hjk; exact .inr (decide_eq_true Ox)
 exact .inl ⟨j, by omega, e⟩
def OwnI (u : List Blk) (v : Value) (xs : List Int) : Prop := Own 3 1 u v xs.length (ints xs)
theorem OwnI.whole {g : Nat} {xs : List Int} (h : xs.length ≤ 1000000) : OwnI [(g, .cells (ints xs).toArray 3)] (.slice (some ⟨g, 0, none⟩) xs.length xs.length) xs :=
  Own.whole (cur := (ints xs).toArray) (by simp) (by simp only [maxLen]; omega)
theorem OwnI.nil : OwnI [] (.slice none 0 0) [] := Own.nil _ _
section
variable {R : Option Nat} {ops : Array Oper} {Q : Exit → Act → World → Prop} {B : World} {F : List Nat} {s0 : Option (List Blk × List Blk)}
variable {l : List (Oper × Nat)} {a : Act} {s S : List Blk} {d : Option Tmp} {op : Op} {t : TypeId} {p : String} {af : Array Edge} {v : Value}
end
theorem OwnI.val {u : List Blk} {v : Value} {xs : List Int} (h : OwnI u v xs) : ∃ a c, v = .slice a xs.length c := let ⟨a, c, e, _⟩ := Own.val h; ⟨a, c, e⟩
theorem OwnI.as {u s : List Blk} {xs : List Int} {a : Option Addr} {n c : Nat} {B w : World} {F : List Nat} (h : OwnI u (.slice a n c) xs) (K : Kn B F (u ++ s) w) : AS w a (ints xs) := by
 obtain ⟨a', c', e, hA⟩ := Own.as h K
 cases e
 exact hA
section
variable {R : Option Nat} {ops : Array Oper} {Q : Exit → Act → World → Prop} {B : World} {F : List Nat} {s0 : Option (List Blk × List Blk)}
variable {l : List (Oper × Nat)} {a : Act} {s S : List Blk} {d : Option Tmp} {op : Op} {t : TypeId} {p : String} {af : Array Edge} {v : Value}
end
theorem ix_get (l : List Int) (k : Nat) (h : k < l.length) : ix l k = l[k] := by
 unfold ix; rw [List.getD_eq_getElem?_getD, List.getElem?_eq_getElem h]; rfl
def swapAt : List Int → Nat → List Int
  | x :: y :: t, 0 => y :: x :: t
  | x :: t, k + 1 => x :: swapAt t k
  | l, _ => l
theorem swapAt_len : ∀ (l : List Int) (k : Nat), (swapAt l k).length = l.length
  | [], _ => by simp [swapAt]
  | [x], 0 => by simp [swapAt]
  | x :: y :: t, 0 => by simp [swapAt]
  | x :: t, k + 1 => by simp [swapAt, swapAt_len t k]
theorem swapAt_perm : ∀ (l : List Int) (k : Nat), (swapAt l k).Perm l
  | [], _ => by simp [swapAt]
  | [x], 0 => by simp [swapAt]
  | x :: y :: t, 0 => List.Perm.swap x y t
  | x :: t, k + 1 => by simp only [swapAt]; exact (swapAt_perm t k).cons x
def Up (l : List Int) (k : Nat) : Prop := ∀ j, j < k → ix l j < ix l (j + 1)
inductive Ex (xs : List Int) : List Nat → List Int → Prop
  | start : Ex xs [] xs
  | step {ys : List Nat} {l : List Int} {k : Nat} (h : Ex xs ys l) (hk : k + 1 < l.length) (hu : Up l k) (hd : ix l (k + 1) < ix l k) : Ex xs (ys ++ [k]) (swapAt l k)
theorem Ex.len {xs : List Int} {ys : List Nat} {l : List Int} (h : Ex xs ys l) : l.length = xs.length := by
 induction h with
 | start => rfl
 | step h _ _ _ ih => rw [swapAt_len, ih]
theorem Ex.perm {xs : List Int} {ys : List Nat} {l : List Int} (h : Ex xs ys l) : l.Perm xs := by
 induction h with
 | start => exact List.Perm.refl _
 | step h _ _ _ ih => exact (swapAt_perm _ _).trans ih
theorem Perm.nodup {xs : List Int} (h : Perm xs) : xs.Nodup := by
 rw [List.nodup_iff_pairwise_ne, List.pairwise_iff_getElem]
 intro i j hi hj hij e
 have := (h.2.2 j hj).2 i hij
 rw [ix_get _ _ hi, ix_get _ _ hj] at this
 exact this e
theorem Ex.ne {xs : List Int} {ys : List Nat} {l : List Int} (h : Ex xs ys l) (hp : Perm xs) {k : Nat} (hk : k + 1 < l.length) (hn : ¬ ix l k < ix l (k + 1)) : ix l (k + 1) < ix l k := by
 have hnd : l.Nodup := h.perm.nodup_iff.2 hp.nodup
 rw [List.nodup_iff_pairwise_ne, List.pairwise_iff_getElem] at hnd
 have := hnd k (k + 1) Ox hk Ox
 rw [← ix_get _ _ Ox, ← ix_get _ _ hk] at this
 omega
section
variable {R : Option Nat} {ops : Array Oper} {Q : Exit → Act → World → Prop} {B : World} {F : List Nat} {s0 : Option (List Blk × List Blk)}
variable {l : List (Oper × Nat)} {a : Act} {s S : List Blk} {d : Option Tmp} {op : Op} {t : TypeId} {p : String} {af : Array Edge} {v : Value}
end
theorem OwnI.open {u : List Blk} {v : Value} {xs : List Int} (h : OwnI u v xs) (hn : 0 < xs.length) : ∃ g cap rest, u = [(g, .cells (ints xs ++ rest).toArray 3)] ∧ v = .slice (some ⟨g, 0, none⟩) xs.length cap := by
 obtain ⟨hl, ⟨rfl, rfl, h0⟩ | ⟨g, cap, cur, rfl, rfl, hc, hm, hs, ht⟩⟩ := h
 ·omega
 refine ⟨g, cap, cur.toList.drop (xs.length * 1), ?_, rfl⟩
 rw [← ht, List.take_append_drop]
theorem AS.fresh {B w : World} {s : List Blk} {a : Option Addr} {xs : List Value} (h : AS B a xs) (hn : xs ≠ []) (K : Kn B [] s w) {G : List Nat} (hG : ∀ g ∈ G, g ∈ s.map (·.1)) : ∀ b off, a = some ⟨b, off, none⟩ → b ∉ G := by
 intro b off e hb
 obtain ⟨b', off', e', hlt, _⟩ := h hn
 rw [e] at e'
 cases e'
 obtain ⟨x, hx, rfl⟩ := List.mem_map.1 (hG b hb)
 have := (K.new x hx).resolve_left (by simp)
 omega
structure It where
  kind : Int
  at_ : Int
  n : Int
  name : ByteArray
deriving Inhabited
abbrev itC (i : It) : List Value := [.int .i64 i.kind, .int .i64 i.at_, .int .i64 i.n, .string i.name]
abbrev its (l : List It) : List Value := l.flatMap itC
theorem its_len (l : List It) : (its l).length = l.length * 4 := by
 induction l with
 | nil => rfl
 | cons x l ih => simp only [its, List.flatMap_cons, List.length_append, List.length_cons, List.length_nil] at ih ⊢; omega
def OwnT (u : List Blk) (v : Value) (xs : List It) : Prop := Own 72 4 u v xs.length (its xs)
theorem OwnT.nil : OwnT [] (.slice none 0 0) [] := Own.nil _ _
section
variable {R : Option Nat} {ops : Array Oper} {Q : Exit → Act → World → Prop} {B : World} {F : List Nat} {s0 : Option (List Blk × List Blk)}
variable {l : List (Oper × Nat)} {a : Act} {s S : List Blk} {d : Option Tmp} {op : Op} {t : TypeId} {p : String} {af : Array Edge} {v : Value}
end
theorem Ex.same {xs : List Int} {ys : List Nat} {l : List Int} (h : Ex xs ys l) : ∀ {zs : List Nat} {m : List Int}, Ex xs zs m → ys.length = zs.length → ys = zs ∧ l = m := by
 induction h with
 | start =>
  intro zs m h2 hl
  cases h2 with
  | start => exact ⟨rfl, rfl⟩
  | step _ _ _ _ => simp at hl
 | step h hk hu hd ih =>
  intro zs m h2 hl
  cases h2 with
  | start => simp at hl
  | step h2 hk2 hu2 hd2 =>
   obtain ⟨e1, e2⟩ := ih h2 (by simpa using hl)
   subst e1 e2
   rename_i l0 k k2
   have : k = k2 := by
    rcases Nat.lt_trichotomy k k2 with h3 | h3 | h3
    ·have := hu2 k h3; omega
    ·exact h3
    ·have := hu k2 h3; omega
   subst this
   exact ⟨rfl, rfl⟩
theorem OwnT.open {u : List Blk} {v : Value} {xs : List It} (h : OwnT u v xs) (hn : 0 < xs.length) : ∃ g cap rest, u = [(g, .cells (its xs ++ rest).toArray 72)] ∧ v = .slice (some ⟨g, 0, none⟩) xs.length cap := by
 obtain ⟨hl, ⟨rfl, rfl, h0⟩ | ⟨g, cap, cur, rfl, rfl, hc, hm, hs, ht⟩⟩ := h
 ·omega
 refine ⟨g, cap, cur.toList.drop (xs.length * 4), ?_, rfl⟩
 rw [← ht, List.take_append_drop]
abbrev itV (i : It) : Value := .agg #[.int .i64 i.kind, .int .i64 i.at_, .int .i64 i.n, .string i.name]
def it (l : List It) (k : Nat) : It := l.getD k default
theorem its_get : ∀ (l : List It) (k r : Nat), k < l.length → r < 4 → (its l)[k * 4 + r]? = (itC (it l k))[r]?
  | [], k, r, hk, _ => by simp at hk
  | x :: l, 0, r, _, hr => by
    have e : its (x :: l) = itC x ++ its l := by simp [its]
    rw [e, Nat.zero_mul, Nat.zero_add, List.getElem?_append_left (by simpa using hr)]
    simp [it]
  | x :: l, k + 1, r, hk, hr => by
    have e : its (x :: l) = itC x ++ its l := by simp [its]
    rw [e, List.getElem?_append_right (by simp; omega)]
    have e2 : (k + 1) * 4 + r - (itC x).length = k * 4 + r := by simp only [List.length_cons, List.length_nil]; omega
    rw [e2, its_get l k r (by simpa using hk) hr]
    simp [it]
structure ItAt (w : World) (b off : Nat) (i : It) : Prop where
  c0 : w.cell? ⟨b, off, none⟩ = some (.int .i64 i.kind)
  c1 : w.cell? ⟨b, off + 1, none⟩ = some (.int .i64 i.at_)
  c2 : w.cell? ⟨b, off + 2, none⟩ = some (.int .i64 i.n)
  c3 : w.cell? ⟨b, off + 3, none⟩ = some (.string i.name)
theorem AS.openT {w : World} {a : Option Addr} {xs : List It} (h : AS w a (its xs)) (hn : 0 < xs.length) :
    ∃ b off, a = some ⟨b, off, none⟩ ∧ b < w.heap.size ∧ ∀ j, j < xs.length → ItAt w b (off + j * 4) (it xs j) := by
  have hne : its xs ≠ [] := by intro e; have := its_len xs; rw [e] at this; simp at this; omega
  obtain ⟨b, off, rfl, hlt, hc⟩ := h hne
  refine ⟨b, off, rfl, hlt, fun j hj => ?_⟩
  have hl := its_len xs
  have key : ∀ r, r < 4 → w.cell? ⟨b, off + (j * 4 + r), none⟩ = (itC (it xs j))[r]? := fun r hr => (hc (j * 4 + r) Ox).trans (its_get xs j r hj hr)
  exact ⟨key 0 Ox, by rw [Nat.add_assoc]; exact key 1 Ox, by rw [Nat.add_assoc]; exact key 2 Ox, by rw [Nat.add_assoc]; exact key 3 Ox⟩
theorem ItAt.kn {B w : World} {F : List Nat} {s : List Blk} {b off : Nat} {i : It} (h : ItAt B b off i) (K : Kn B F s w) (hb : b < B.heap.size) (hF : b ∉ F) : ItAt w b off i :=
  ⟨(K.cellB hb hF _).trans h.c0, (K.cellB hb hF _).trans h.c1, (K.cellB hb hF _).trans h.c2, (K.cellB hb hF _).trans h.c3⟩
theorem it_mem {xs : List It} {k : Nat} (h : k < xs.length) : it xs k ∈ xs := by
 unfold it; rw [List.getD_eq_getElem?_getD, List.getElem?_eq_getElem h]; exact List.getElem_mem h
section
variable {R : Option Nat} {P : Program} {ops : Array Oper} {Q : Exit → Act → World → Prop} {B : World} {F : List Nat} {s0 : Option (List Blk × List Blk)}
variable {l : List (Oper × Nat)} {a : Act} {s : List Blk} {d : Option Tmp} {t : TypeId} {p : String} {af : Array Edge}
theorem rg_callVI {fo : Operand} {f : Nat} {cargs : Array Operand} {at_ : Array TypeId} {caps vs : Array Value} {v : Value} {gd : Option (Nat × Bool)} (hg : Region.wanted ⟨d, .call ⟨.value fo, cargs, at_⟩, t, p, af, gd⟩ (yielded ops a.tmps) = true)
    (hf : a.eval fo = .func (.func f) #[] caps) (hgo : isGo P f = true) (hargs : cargs.map a.eval = vs)
    (h : ∀ w, Kn B F s w → Calls P f (vs ++ caps) w (fun e w' => e = .returned v ∧ Below w.heap.size w w'))
    (hz : ∀ z ∈ s0, z.1.Sublist s) (k : Rg R P ops Q B F s0 l (a.put d v) s) :
    Rg R P ops Q B F s0 ((⟨d, .call ⟨.value fo, cargs, at_⟩, t, p, af, gd⟩, 1) :: l) a s := by
  refine .inl fun w K => ?_
  unfold hop
  rw [if_pos hg]
  unfold Oper.wp
  have hr : (execOp a.eval ⟨d, .call ⟨.value fo, cargs, at_⟩, t, p, af, gd⟩).run P w = .ok (.enter f (vs ++ caps)) w := by
    have hx : execOp a.eval ⟨d, .call ⟨.value fo, cargs, at_⟩, t, p, af, gd⟩ = (do let d ← resolve a.eval ⟨.value fo, cargs, at_⟩ t; invoke d.target d.args) := rfl
    have hv : (resolve a.eval ⟨.value fo, cargs, at_⟩ t) = pure { target := .fn (.func f) caps, args := #[] ++ vs } := by
      simp only [resolve, hf, hargs, Deferred.ofValue]
    rw [hx, hv]
    have : (#[] ++ vs : Array Value) = vs := by simp
    rw [this]
    exact run_callFunc_go hgo _ w
  rw [hr]
  refine (h w K).mono fun e w' ⟨he, hb⟩ => ?_
  subst he
  exact ⟨s, K.call hb, hz, k⟩
theorem rg_callVbI {fo : Operand} {f : Nat} {cargs : Array Operand} {at_ : Array TypeId} {caps vs : Array Value} {b : Bool} {gd : Option (Nat × Bool)} (hg : Region.wanted ⟨d, .call ⟨.value fo, cargs, at_⟩, t, p, af, gd⟩ (yielded ops a.tmps) = true)
    (hf : a.eval fo = .func (.func f) #[] caps) (hgo : isGo P f = true) (hargs : cargs.map a.eval = vs)
    (h : ∀ w, Kn B F s w → Calls P f (vs ++ caps) w (fun e w' => e = .returned (.bool b) ∧ Below w.heap.size w w'))
    (hz : ∀ z ∈ s0, z.1.Sublist s) (k : ∀ x, b = x → Rg R P ops Q B F s0 l (a.put d (.bool x)) s) :
    Rg R P ops Q B F s0 ((⟨d, .call ⟨.value fo, cargs, at_⟩, t, p, af, gd⟩, 1) :: l) a s := rg_callVI hg hf hgo hargs h hz (k b rfl)
end
def idxF (p : It → Bool) : List It → Int → Int
  | [], _ => -1
  | x :: t, k => if p x then k else idxF p t (k + 1)
theorem idxF_at (p : It → Bool) : ∀ (l : List It) (b : Int) (k : Nat), k < l.length → (∀ j, j < k → p (it l j) = false) → p (it l k) = true → idxF p l b = b + k
  | [], _, k, hk, _, _ => by simp at hk
  | x :: l, b, 0, _, _, h => by have : p x = true := h; simp [idxF, this]
  | x :: l, b, k + 1, hk, hj, h => by
    have : p x = false := hj 0 Ox
    rw [idxF, if_neg (by rw [this]; decide), idxF_at p l (b + 1) k (by simpa using hk) (fun j hjk => hj (j + 1) Ox) h]
    omega
theorem idxF_no (p : It → Bool) : ∀ (l : List It) (b : Int), (∀ j, j < l.length → p (it l j) = false) → idxF p l b = -1
  | [], _, _ => rfl
  | x :: l, b, h => by
    have : p x = false := h 0 (by simp)
    rw [idxF, if_neg (by rw [this]; decide)]
    exact idxF_no p l (b + 1) fun j hj => h (j + 1) (by simpa using hj)
theorem idxF_any (p : It → Bool) : ∀ (l : List It) (b : Int), 0 ≤ b → decide (idxF p l b ≥ 0) = l.any p
  | [], _, _ => rfl
  | x :: l, b, hb => by
    rw [idxF, List.any_cons]
    by_cases h : p x = true
    · rw [if_pos h, h]; simpa using hb
    · rw [if_neg h, idxF_any p l (b + 1) Ox]
      have : p x = false := by simpa using h
      rw [this]; rfl
theorem index_any (xs : List It) (a : Option Addr) (c : Nat) (p : It → Bool) (f : Nat) (caps : Array Value) (hl : xs.length ≤ 100000) (hgo : isGo Tryz.prog f = true) (w : World) (hA : AS w a (its xs)) (hf : ∀ w', Below w.heap.size w w' → ∀ i ∈ xs, Calls Tryz.prog f (#[itV i] ++ caps) w' fun e w'' => e = .returned (.bool (p i)) ∧ Below w'.heap.size w' w'') : Calls Tryz.prog 153 #[slV a xs.length c, .func (.func f) #[] caps] w fun e w' => e = .returned (.int .i64 (idxF p xs 0)) ∧ Below w.heap.size w w' := by
 go_enter Tryz.func153, Tryz.ntmps153
 refine wk_start ?_
 refine wk_seq ?_
 refine Wm [0] ?_
 refine Zr ?_
 refine Wm [0, 0, 0] ?_
 refine Zk ?_
 refine Zr ?_
 refine wk_loopS [4, 5, 8, 9, 10, 11, 12, 13, 14, 15, 16, 17, 18] (fun n vs s => ∃ (k : Nat) (j5 j9 j10 j11 j12 j13 j14 j15 j16 j17 j18 : Value), vs = [.int .i64 0, j5, .int .i64 k, j9, j10, j11, j12, j13, j14, j15, j16, j17, j18] ∧ s = [] ∧ n = xs.length - k ∧ k ≤ xs.length ∧ ∀ j, j < k → p (it xs j) = false) ((fun (k : Nat) => xs.length - k) (0)) ?_ Kx ?_
 ·dsimp only [Act.vals, List.map, Array.getD, List.size_toArray, List.length_cons, List.length_nil, Nat.reduceAdd, Nat.reduceLT, ↓reduceDIte, Array.getInternal, List.getElem_toArray, List.getElem_cons_zero, List.getElem_cons_succ]
  exact ⟨0, _, _, _, _, _, _, _, _, _, _, _, rfl, rfl, rfl, by omega, fun i hi => by omega⟩
 rintro n vs s ⟨k, j5, j9, j10, j11, j12, j13, j14, j15, j16, j17, j18, rfl, rfl, hn, hc1, hc2⟩
 simp only [Act.puts, Act.vals, List.zip_cons_cons, List.zip_nil_right, List.foldl_cons, List.foldl_nil, List.map_cons, List.map_nil, Act.put, Act.eval, List.setIfInBounds_toArray, List.set_cons_zero, List.set_cons_succ, Array.getD_eq_getD_getElem?, List.getElem?_toArray, List.getElem?_cons_zero, List.getElem?_cons_succ, Option.getD_some]
 refine wk_seq ?_
 refine Wr [0] ?_
 apply rg_softb
 case hy => (intro w hw; exact Gy)
 rintro (_ | _) h1 <;> try simp only [qd, ne_eq] at h1
 ·simp only [qz]
  refine Zr ?_; refine Wm [0] ?_; refine Zr ?_
  refine Er fun w hw => ?_
  (try simp only [qz])
  exact ⟨by rw [show idxF p xs 0 = -1 from idxF_no p xs 0 (fun j hj => hc2 j Ox)], hw.below⟩
 simp only [qz]
 obtain ⟨b, off, rfl, hlt, hcell⟩ := AS.openT hA Ox
 have hck := hcell k Ox
 refine Zr ?_
 refine Wm [0, 0] ?_
 refine Zr ?_
 refine Wm [0, 0, 0, 0, 0, 1] ?_
 refine Zk ?_
 apply rg_soft
 case hy => (intro w hw; obtain ⟨hi0, hi1, hi2, hi3⟩ := hck.kn hw hlt (by simp); exact Gy)
 simp only [qz]
 apply rg_callVbI Rx rfl hgo
 case hargs => exact Ax
 case h => exact fun w hw => hf w hw.below (it xs k) (it_mem Ox)
 case hz => exact Nz
 rintro (_ | _) h2 <;> try simp only [qd, ne_eq] at h2
 ·simp only [qz]
  refine Zr ?_; refine Wr [0, 0] ?_; refine Zk ?_; refine rg_nil ?_; refine ek_roundS (xs.length - (k + 1)) Ox Kx ?_
  dsimp only [Act.vals, List.map, Array.getD, List.size_toArray, List.length_cons, List.length_nil, Nat.reduceAdd, Nat.reduceLT, ↓reduceDIte, Array.getInternal, List.getElem_toArray, List.getElem_cons_zero, List.getElem_cons_succ]
  exact ⟨k + 1, _, _, _, _, _, _, _, _, _, _, _, by rfl, by rfl, by rfl, by omega, fun j hj => if e : j = k then e ▸ h2 else hc2 j Ox⟩
 simp only [qz]
 refine Zr ?_
 refine Wm [0, 0] ?_
 refine Zr ?_
 refine Er fun w hw => ?_
 (try simp only [qz])
 exact ⟨by rw [show idxF p xs 0 = (k : Int) by rw [idxF_at p xs 0 k Ox hc2 h2]; omega], hw.below⟩
theorem contains_any (xs : List It) (a : Option Addr) (c : Nat) (p : It → Bool) (f : Nat) (caps : Array Value) (hl : xs.length ≤ 100000) (hgo : isGo Tryz.prog f = true) (w : World) (hA : AS w a (its xs)) (hf : ∀ w', Below w.heap.size w w' → ∀ i ∈ xs, Calls Tryz.prog f (#[itV i] ++ caps) w' fun e w'' => e = .returned (.bool (p i)) ∧ Below w'.heap.size w' w'') : Calls Tryz.prog 138 #[slV a xs.length c, .func (.func f) #[] caps] w fun e w' => e = .returned (.bool (xs.any p)) ∧ Below w.heap.size w w' := by
 go_enter Tryz.func138, Tryz.ntmps138
 refine wk_start ?_
 refine wk_seq ?_
 refine Wm [0] ?_
 refine Zr ?_
 refine Wm [0, 0, 1, 0, 0] ?_
 apply rg_pure Rx Kx
 case hargs => exact Ax
 case h => exact fun w hw => index_any xs a c p f caps hl hgo w (hA.kn0 hw) (fun w' hb => hf w' (hw.call hb).below)
 case hz => exact Nz
 simp only [qz]
 refine Zk ?_
 refine Zr ?_
 refine Er fun w hw => ?_
 (try simp only [qz])
 exact ⟨by rw [← idxF_any p xs 0 Ox], hw.below⟩
def wd (i : It) : Int :=
  if i.kind = 1 then (if 1 ≤ i.n ∧ i.n ≤ 7 ∧ i.name.toList.isEmpty = true then 1 else 0)
  else if i.kind = 2 ∨ i.kind = 3 then (if i.n = 0 ∧ i.name.toList.isEmpty = true then 2 else 0) else 0
theorem wd_range (i : It) : 0 ≤ wd i ∧ wd i ≤ 2 := by
 unfold wd; repeat' split
 all_goals omega
def fitB (n : Int) (i : It) : Bool := decide (wd i ≠ 0 ∧ 1 ≤ i.at_ ∧ i.at_ ≤ n - wd i + 1)
def validI (n : Int) (xs : List It) : Bool := decide (1 ≤ n ∧ n ≤ 6) && (decide (xs.length ≤ 5000) && xs.all (fitB n))
theorem betB_true {l n h : Int} (e : betB l n h = true) : l ≤ n ∧ n ≤ h := of_decide_eq_true e
theorem betB_false {l n h : Int} (e : betB l n h = false) : ¬ (l ≤ n ∧ n ≤ h) := of_decide_eq_false e
theorem run_lookup_none (s : ByteArray) (w : World) : (Instr.lookup 180 (.map none) (.string s) false).run Tryz.prog w = .ok (.int .i64 0) w := by
 kernel_rfl
theorem between_mesh (l n h : Int) (w : World) : Calls Tryz.prog 51 #[.int .i64 l, .int .i64 n, .int .i64 h] w fun e w' => e = .returned (.bool (betB l n h)) ∧ Below w.heap.size w w' := by
 go_enter Tryz.func51, Tryz.ntmps51
 refine wk_start ?_
 refine wk_seq ?_
 refine Wm [0] ?_
 refine Zr ?_
 refine Wm [0, 0, 0, 0, 0, 0, 0, 0, 0] ?_
 apply rg_softb
 case hy => (intro w hw; exact Gy)
 rintro (_ | _) h1 <;> try simp only [qd, ne_eq] at h1
 ·refine Zm ?_
  refine Zk ?_; refine Zr ?_
  refine Er fun w hw => ?_
  (try simp only [qz])
  exact ⟨by (simp [betB]; omega), hw.below⟩
 refine Zm ?_
 apply rg_soft_g
 case hg => rfl
 case hy => (intro w hw; exact Gy)
 simp only [qz]
 apply rg_soft_g
 case hg => rfl
 case hy => (intro w hw; exact Gy)
 simp only [qz]
 apply rg_soft_g
 case hg => rfl
 case hy => (intro w hw; exact Gy)
 simp only [qz]
 refine Zk ?_
 refine Zr ?_
 refine Er fun w hw => ?_
 (try simp only [qz])
 exact ⟨by simp [betB, h1], hw.below⟩
theorem width_any (i : It) (w : World) : Calls Tryz.prog 140 #[itV i, .map none] w fun e w' => e = .returned (.int .i64 (wd i)) ∧ Below w.heap.size w w' := by
 go_enter Tryz.func140, Tryz.ntmps140
 refine wk_start ?_
 refine wk_seq ?_
 refine Wr [1, 0] ?_
 refine Rgn fun g1 => ?_
 refine Zm ?_
 refine Zr ?_
 refine Wr [0, 0, 0, 0, 0, 0, 0, 0, 0, 0, 0, 0, 0, 0, 0, 0, 0, 0] ?_
 apply rg_soft
 case hy => (intro w hw; have hlk := run_lookup_none i.name w; exact Gy)
 simp only [qz]
 apply rg_soft
 case hy => (intro w hw; obtain ⟨hcg1, hfg1⟩ := (Kn.hd0 hw).facts; have hlk := run_lookup_none i.name w; exact Gy)
 simp only [qz]
 apply rg_softb
 case hy => (intro w hw; have hlk := run_lookup_none i.name w; exact Gy)
 rintro (_ | _) h1 <;> try simp only [qd, ne_eq] at h1
 ·simp only [qz]
  (try (have h1a := Int.le_of_eq h1; have h1b := Int.le_of_eq h1.symm; clear h1))
  refine Zm ?_; apply rg_soft
  case hy => (intro w hw; have hlk := run_lookup_none i.name w; exact Gy)
  refine Zm ?_; apply rg_soft_g
  case hg => rfl
  case hy => (intro w hw; have hlk := run_lookup_none i.name w; exact Gy)
  simp only [qz]; apply rg_soft_g
  case hg => rfl
  case hy => (intro w hw; obtain ⟨hcg1, hfg1⟩ := (Kn.hd0 hw).facts; have hlk := run_lookup_none i.name w; exact Gy)
  simp only [qz]; apply rg_softb_g
  case hg => rfl
  case hy => (intro w hw; have hlk := run_lookup_none i.name w; exact Gy)
  rintro (_ | _) h2 <;> try simp only [qd, ne_eq] at h2
  ·simp only [qz]
   (try (have h2a := Int.le_of_eq h2; have h2b := Int.le_of_eq h2.symm; clear h2))
   apply rg_soft_g
   case hg => rfl
   case hy => (intro w hw; have hlk := run_lookup_none i.name w; exact Gy)
   refine Zm ?_; apply rg_soft_g
   case hg => rfl
   case hy => (intro w hw; have hlk := run_lookup_none i.name w; exact Gy)
   simp only [qz]; apply rg_soft
   case hy => (intro w hw; have hlk := run_lookup_none i.name w; exact Gy)
   simp only [qz]; refine Zr ?_; refine Wr [0, 0] ?_; apply rg_soft
   case hy => (intro w hw; have hlk := run_lookup_none i.name w; exact Gy)
   simp only [qz]; apply rg_soft
   case hy => (intro w hw; obtain ⟨hcg1, hfg1⟩ := (Kn.hd0 hw).facts; have hlk := run_lookup_none i.name w; exact Gy)
   simp only [qz]; refine Zr ?_; refine Wr [0, 0] ?_; apply rg_softb
   case hy => (intro w hw; have hlk := run_lookup_none i.name w; exact Gy)
   rintro (_ | _) h3 <;> try simp only [qd, ne_eq] at h3
   ·simp only [qz]
    (try (have h3a := Int.le_of_eq h3; have h3b := Int.le_of_eq h3.symm; clear h3))
    refine Zm ?_; refine Zr ?_; refine Wr [0, 0] ?_; apply rg_softb
    case hy => (intro w hw; have hlk := run_lookup_none i.name w; exact Gy)
    rintro (_ | _) h4 <;> try simp only [qd, ne_eq] at h4
    ·simp only [qz]
     (try (have h4a := Int.le_of_eq h4; have h4b := Int.le_of_eq h4.symm; clear h4))
     refine Zm ?_; refine Zr ?_; refine Wr [0, 0] ?_; apply rg_softb
     case hy => (intro w hw; have hlk := run_lookup_none i.name w; exact Gy)
     rintro (_ | _) h5 <;> try simp only [qd, ne_eq] at h5
     ·simp only [qz]
      (try (have h5a := Int.le_of_eq h5; have h5b := Int.le_of_eq h5.symm; clear h5))
      refine Zm ?_; refine Zr ?_; refine Wr [0, 0] ?_; apply rg_softb
      case hy => (intro w hw; have hlk := run_lookup_none i.name w; exact Gy)
      rintro (_ | _) h6 <;> try simp only [qd, ne_eq] at h6
      ·simp only [qz]
       (try (have h6a := Int.le_of_eq h6; have h6b := Int.le_of_eq h6.symm; clear h6))
       refine Zm ?_; refine Zr ?_; refine Wm [0] ?_; refine Zr ?_
       refine Er fun w hw => ?_
       (try simp only [qz])
       exact ⟨by rw [show wd i = 0 from by (unfold wd; (repeat' split) <;> first | rfl | omega | (exfalso; omega) | (exfalso; simp_all; done) | (simp_all; done) | (exfalso; simp_all; omega))], hw.below⟩
      simp only [qz]
      (try (have h6a := Int.le_of_eq h6; have h6b := Int.le_of_eq h6.symm; clear h6))
      refine Zm ?_; refine Zr ?_; refine Wm [0, 0, 0, 0, 0] ?_; apply rg_soft
      case hy => (intro w hw; have hlk := run_lookup_none i.name w; exact Gy)
      simp only [qz]; apply rg_soft
      case hy => (intro w hw; obtain ⟨hcg1, hfg1⟩ := (Kn.hd0 hw).facts; have hlk := run_lookup_none i.name w; exact Gy)
      simp only [qz]; apply rg_soft
      case hy => (intro w hw; have hlk := run_lookup_none i.name w; exact Gy)
      refine Zm ?_; refine Zr ?_
      refine Er fun w hw => ?_
      (try simp only [qz])
      exact ⟨by rw [show wd i = 0 from by (unfold wd; (repeat' split) <;> first | rfl | omega | (exfalso; omega) | (exfalso; simp_all; done) | (simp_all; done) | (exfalso; simp_all; omega))], hw.below⟩
     simp only [qz]
     (try (have h5a := Int.le_of_eq h5; have h5b := Int.le_of_eq h5.symm; clear h5))
     refine Zm ?_; refine Zr ?_; refine Wm [0] ?_; refine Zr ?_
     refine Er fun w hw => ?_
     (try simp only [qz])
     exact ⟨by rw [show wd i = 2 from by (unfold wd; (repeat' split) <;> first | rfl | omega | (exfalso; omega) | (exfalso; simp_all; done) | (simp_all; done) | (exfalso; simp_all; omega))], hw.below⟩
    simp only [qz]
    (try (have h4a := Int.le_of_eq h4; have h4b := Int.le_of_eq h4.symm; clear h4))
    refine Zm ?_; refine Zr ?_; refine Wm [0] ?_; refine Zr ?_
    refine Er fun w hw => ?_
    (try simp only [qz])
    exact ⟨by rw [show wd i = 2 from by (unfold wd; (repeat' split) <;> first | rfl | omega | (exfalso; omega) | (exfalso; simp_all; done) | (simp_all; done) | (exfalso; simp_all; omega))], hw.below⟩
   simp only [qz]
   (try (have h3a := Int.le_of_eq h3; have h3b := Int.le_of_eq h3.symm; clear h3))
   refine Zm ?_; refine Zr ?_; refine Wr [0, 0, 1] ?_; apply rg_soft
   case hy => (intro w hw; have hlk := run_lookup_none i.name w; exact Gy)
   simp only [qz]; apply rg_soft
   case hy => (intro w hw; obtain ⟨hcg1, hfg1⟩ := (Kn.hd0 hw).facts; have hlk := run_lookup_none i.name w; exact Gy)
   simp only [qz]; apply rg_pureb Rx Kx
   case hargs => exact Ax
   case h => exact fun w hw => between_mesh 1 i.n 7 w
   case hz => exact Nz
   rintro (_ | _) h7 <;> try simp only [qd, ne_eq] at h7
   ·simp only [qz]
    have hb29 := betB_false h7
    clear h7; refine Zr ?_; refine Wm [0] ?_; refine Zr ?_
    refine Er fun w hw => ?_
    (try simp only [qz])
    exact ⟨by rw [show wd i = 0 from by (unfold wd; (repeat' split) <;> first | rfl | omega | (exfalso; omega) | (exfalso; simp_all; done) | (simp_all; done) | (exfalso; simp_all; omega))], hw.below⟩
   simp only [qz]
   have hb29 := betB_true h7
   clear h7; refine Zr ?_; refine Wm [0] ?_; refine Zr ?_
   refine Er fun w hw => ?_
   (try simp only [qz])
   exact ⟨by rw [show wd i = 1 from by (unfold wd; (repeat' split) <;> first | rfl | omega | (exfalso; omega) | (exfalso; simp_all; done) | (simp_all; done) | (exfalso; simp_all; omega))], hw.below⟩
  simp only [qz]
  (try (have h2a := Int.le_of_eq h2; have h2b := Int.le_of_eq h2.symm; clear h2))
  apply rg_soft_g
  case hg => rfl
  case hy => (intro w hw; have hlk := run_lookup_none i.name w; exact Gy)
  simp only [qz]; apply rg_soft_g
  case hg => rfl
  case hy => (intro w hw; have hlk := run_lookup_none i.name w; exact Gy)
  simp only [qz]; apply rg_soft_g
  case hg => rfl
  case hy => (intro w hw; obtain ⟨hcg1, hfg1⟩ := (Kn.hd0 hw).facts; have hlk := run_lookup_none i.name w; exact Gy)
  simp only [qz]; apply rg_softb_g
  case hg => rfl
  case hy => (intro w hw; have hlk := run_lookup_none i.name w; exact Gy)
  rintro (_ | _) h8 <;> try simp only [qd, ne_eq] at h8
  ·simp only [qz]
   (try (have h8a := Int.le_of_eq h8; have h8b := Int.le_of_eq h8.symm; clear h8))
   apply rg_soft_g
   case hg => rfl
   case hy => (intro w hw; have hlk := run_lookup_none i.name w; exact Gy)
   simp only [qz]; apply rg_soft
   case hy => (intro w hw; have hlk := run_lookup_none i.name w; exact Gy)
   simp only [qz]; refine Zr ?_; refine Wr [0, 0] ?_; apply rg_soft
   case hy => (intro w hw; have hlk := run_lookup_none i.name w; exact Gy)
   simp only [qz]; apply rg_soft
   case hy => (intro w hw; obtain ⟨hcg1, hfg1⟩ := (Kn.hd0 hw).facts; have hlk := run_lookup_none i.name w; exact Gy)
   simp only [qz]; refine Zr ?_; refine Wr [0, 0] ?_; apply rg_softb
   case hy => (intro w hw; have hlk := run_lookup_none i.name w; exact Gy)
   rintro (_ | _) h9 <;> try simp only [qd, ne_eq] at h9
   ·simp only [qz]
    (try (have h9a := Int.le_of_eq h9; have h9b := Int.le_of_eq h9.symm; clear h9))
    refine Zm ?_; refine Zr ?_; refine Wr [0, 0] ?_; apply rg_softb
    case hy => (intro w hw; have hlk := run_lookup_none i.name w; exact Gy)
    rintro (_ | _) h10 <;> try simp only [qd, ne_eq] at h10
    ·simp only [qz]
     (try (have h10a := Int.le_of_eq h10; have h10b := Int.le_of_eq h10.symm; clear h10))
     refine Zm ?_; refine Zr ?_; refine Wr [0, 0] ?_; apply rg_softb
     case hy => (intro w hw; have hlk := run_lookup_none i.name w; exact Gy)
     rintro (_ | _) h11 <;> try simp only [qd, ne_eq] at h11
     ·simp only [qz]
      (try (have h11a := Int.le_of_eq h11; have h11b := Int.le_of_eq h11.symm; clear h11))
      refine Zm ?_; refine Zr ?_; refine Wr [0, 0] ?_; apply rg_softb
      case hy => (intro w hw; have hlk := run_lookup_none i.name w; exact Gy)
      rintro (_ | _) h12 <;> try simp only [qd, ne_eq] at h12
      ·simp only [qz]
       (try (have h12a := Int.le_of_eq h12; have h12b := Int.le_of_eq h12.symm; clear h12))
       refine Zm ?_; refine Zr ?_; refine Wm [0] ?_; refine Zr ?_
       refine Er fun w hw => ?_
       (try simp only [qz])
       exact ⟨by rw [show wd i = 0 from by (unfold wd; (repeat' split) <;> first | rfl | omega | (exfalso; omega) | (exfalso; simp_all; done) | (simp_all; done) | (exfalso; simp_all; omega))], hw.below⟩
      simp only [qz]
      (try (have h12a := Int.le_of_eq h12; have h12b := Int.le_of_eq h12.symm; clear h12))
      refine Zm ?_; refine Zr ?_; refine Wm [0, 0, 0, 0, 0] ?_; apply rg_soft
      case hy => (intro w hw; have hlk := run_lookup_none i.name w; exact Gy)
      simp only [qz]; apply rg_soft
      case hy => (intro w hw; obtain ⟨hcg1, hfg1⟩ := (Kn.hd0 hw).facts; have hlk := run_lookup_none i.name w; exact Gy)
      simp only [qz]; apply rg_soft
      case hy => (intro w hw; have hlk := run_lookup_none i.name w; exact Gy)
      refine Zm ?_; refine Zr ?_
      refine Er fun w hw => ?_
      (try simp only [qz])
      exact ⟨by rw [show wd i = 0 from by (unfold wd; (repeat' split) <;> first | rfl | omega | (exfalso; omega) | (exfalso; simp_all; done) | (simp_all; done) | (exfalso; simp_all; omega))], hw.below⟩
     simp only [qz]
     (try (have h11a := Int.le_of_eq h11; have h11b := Int.le_of_eq h11.symm; clear h11))
     refine Zm ?_; refine Zr ?_; refine Wm [0] ?_; refine Zr ?_
     refine Er fun w hw => ?_
     (try simp only [qz])
     exact ⟨by rw [show wd i = 2 from by (unfold wd; (repeat' split) <;> first | rfl | omega | (exfalso; omega) | (exfalso; simp_all; done) | (simp_all; done) | (exfalso; simp_all; omega))], hw.below⟩
    simp only [qz]
    (try (have h10a := Int.le_of_eq h10; have h10b := Int.le_of_eq h10.symm; clear h10))
    refine Zm ?_; refine Zr ?_; refine Wm [0] ?_; refine Zr ?_
    refine Er fun w hw => ?_
    (try simp only [qz])
    exact ⟨by rw [show wd i = 2 from by (unfold wd; (repeat' split) <;> first | rfl | omega | (exfalso; omega) | (exfalso; simp_all; done) | (simp_all; done) | (exfalso; simp_all; omega))], hw.below⟩
   simp only [qz]
   (try (have h9a := Int.le_of_eq h9; have h9b := Int.le_of_eq h9.symm; clear h9))
   refine Zm ?_; refine Zr ?_; refine Wr [0, 0, 1] ?_; apply rg_soft
   case hy => (intro w hw; have hlk := run_lookup_none i.name w; exact Gy)
   simp only [qz]; apply rg_soft
   case hy => (intro w hw; obtain ⟨hcg1, hfg1⟩ := (Kn.hd0 hw).facts; have hlk := run_lookup_none i.name w; exact Gy)
   simp only [qz]; apply rg_pureb Rx Kx
   case hargs => exact Ax
   case h => exact fun w hw => between_mesh 1 i.n 7 w
   case hz => exact Nz
   rintro (_ | _) h13 <;> try simp only [qd, ne_eq] at h13
   ·simp only [qz]
    have hb29 := betB_false h13
    clear h13; refine Zr ?_; refine Wm [0] ?_; refine Zr ?_
    refine Er fun w hw => ?_
    (try simp only [qz])
    exact ⟨by rw [show wd i = 0 from by (unfold wd; (repeat' split) <;> first | rfl | omega | (exfalso; omega) | (exfalso; simp_all; done) | (simp_all; done) | (exfalso; simp_all; omega))], hw.below⟩
   simp only [qz]
   have hb29 := betB_true h13
   clear h13; refine Zr ?_; refine Wm [0] ?_; refine Zr ?_
   refine Er fun w hw => ?_
   (try simp only [qz])
   exact ⟨by rw [show wd i = 1 from by (unfold wd; (repeat' split) <;> first | rfl | omega | (exfalso; omega) | (exfalso; simp_all; done) | (simp_all; done) | (exfalso; simp_all; omega))], hw.below⟩
  simp only [qz]
  (try (have h8a := Int.le_of_eq h8; have h8b := Int.le_of_eq h8.symm; clear h8))
  apply rg_soft_g
  case hg => rfl
  case hy => (intro w hw; have hlk := run_lookup_none i.name w; exact Gy)
  simp only [qz]; apply rg_soft
  case hy => (intro w hw; have hlk := run_lookup_none i.name w; exact Gy)
  simp only [qz]; refine Zr ?_; refine Wm [0] ?_; refine Zr ?_
  refine Er fun w hw => ?_
  (try simp only [qz])
  exact ⟨by rw [show wd i = 0 from by (unfold wd; (repeat' split) <;> first | rfl | omega | (exfalso; omega) | (exfalso; simp_all; done) | (simp_all; done) | (exfalso; simp_all; omega))], hw.below⟩
 simp only [qz]
 (try (have h1a := Int.le_of_eq h1; have h1b := Int.le_of_eq h1.symm; clear h1))
 refine Zm ?_
 apply rg_soft_g
 case hg => rfl
 case hy => (intro w hw; have hlk := run_lookup_none i.name w; exact Gy)
 simp only [qz]
 apply rg_soft_g
 case hg => rfl
 case hy => (intro w hw; obtain ⟨hcg1, hfg1⟩ := (Kn.hd0 hw).facts; have hlk := run_lookup_none i.name w; exact Gy)
 simp only [qz]
 apply rg_softb_g
 case hg => rfl
 case hy => (intro w hw; have hlk := run_lookup_none i.name w; exact Gy)
 rintro (_ | _) h14 <;> try simp only [qd, ne_eq] at h14
 ·simp only [qz]
  (try (have h14a := Int.le_of_eq h14; have h14b := Int.le_of_eq h14.symm; clear h14))
  apply rg_soft
  case hy => (intro w hw; have hlk := run_lookup_none i.name w; exact Gy)
  refine Zm ?_; apply rg_soft_g
  case hg => rfl
  case hy => (intro w hw; have hlk := run_lookup_none i.name w; exact Gy)
  simp only [qz]; apply rg_soft_g
  case hg => rfl
  case hy => (intro w hw; obtain ⟨hcg1, hfg1⟩ := (Kn.hd0 hw).facts; have hlk := run_lookup_none i.name w; exact Gy)
  simp only [qz]; apply rg_softb_g
  case hg => rfl
  case hy => (intro w hw; have hlk := run_lookup_none i.name w; exact Gy)
  rintro (_ | _) h15 <;> try simp only [qd, ne_eq] at h15
  ·simp only [qz]
   (try (have h15a := Int.le_of_eq h15; have h15b := Int.le_of_eq h15.symm; clear h15))
   apply rg_soft_g
   case hg => rfl
   case hy => (intro w hw; have hlk := run_lookup_none i.name w; exact Gy)
   refine Zm ?_; apply rg_soft_g
   case hg => rfl
   case hy => (intro w hw; have hlk := run_lookup_none i.name w; exact Gy)
   simp only [qz]; apply rg_soft
   case hy => (intro w hw; have hlk := run_lookup_none i.name w; exact Gy)
   simp only [qz]; refine Zr ?_; refine Wr [0, 0] ?_; apply rg_soft
   case hy => (intro w hw; have hlk := run_lookup_none i.name w; exact Gy)
   simp only [qz]; apply rg_soft
   case hy => (intro w hw; obtain ⟨hcg1, hfg1⟩ := (Kn.hd0 hw).facts; have hlk := run_lookup_none i.name w; exact Gy)
   simp only [qz]; refine Zr ?_; refine Wr [0, 0] ?_; apply rg_softb
   case hy => (intro w hw; have hlk := run_lookup_none i.name w; exact Gy)
   rintro (_ | _) h16 <;> try simp only [qd, ne_eq] at h16
   ·simp only [qz]
    (try (have h16a := Int.le_of_eq h16; have h16b := Int.le_of_eq h16.symm; clear h16))
    refine Zm ?_; refine Zr ?_; refine Wr [0, 0] ?_; apply rg_softb
    case hy => (intro w hw; have hlk := run_lookup_none i.name w; exact Gy)
    rintro (_ | _) h17 <;> try simp only [qd, ne_eq] at h17
    ·simp only [qz]
     (try (have h17a := Int.le_of_eq h17; have h17b := Int.le_of_eq h17.symm; clear h17))
     refine Zm ?_; refine Zr ?_; refine Wr [0, 0] ?_; apply rg_softb
     case hy => (intro w hw; have hlk := run_lookup_none i.name w; exact Gy)
     rintro (_ | _) h18 <;> try simp only [qd, ne_eq] at h18
     ·simp only [qz]
      (try (have h18a := Int.le_of_eq h18; have h18b := Int.le_of_eq h18.symm; clear h18))
      refine Zm ?_; refine Zr ?_; refine Wr [0, 0] ?_; apply rg_softb
      case hy => (intro w hw; have hlk := run_lookup_none i.name w; exact Gy)
      rintro (_ | _) h19 <;> try simp only [qd, ne_eq] at h19
      ·simp only [qz]
       (try (have h19a := Int.le_of_eq h19; have h19b := Int.le_of_eq h19.symm; clear h19))
       refine Zm ?_; refine Zr ?_; refine Wm [0] ?_; refine Zr ?_
       refine Er fun w hw => ?_
       (try simp only [qz])
       exact ⟨by rw [show wd i = 0 from by (unfold wd; (repeat' split) <;> first | rfl | omega | (exfalso; omega) | (exfalso; simp_all; done) | (simp_all; done) | (exfalso; simp_all; omega))], hw.below⟩
      simp only [qz]
      (try (have h19a := Int.le_of_eq h19; have h19b := Int.le_of_eq h19.symm; clear h19))
      refine Zm ?_; refine Zr ?_; refine Wm [0, 0, 0, 0, 0] ?_; apply rg_soft
      case hy => (intro w hw; have hlk := run_lookup_none i.name w; exact Gy)
      simp only [qz]; apply rg_soft
      case hy => (intro w hw; obtain ⟨hcg1, hfg1⟩ := (Kn.hd0 hw).facts; have hlk := run_lookup_none i.name w; exact Gy)
      simp only [qz]; apply rg_soft
      case hy => (intro w hw; have hlk := run_lookup_none i.name w; exact Gy)
      refine Zm ?_; refine Zr ?_
      refine Er fun w hw => ?_
      (try simp only [qz])
      exact ⟨by rw [show wd i = 0 from by (unfold wd; (repeat' split) <;> first | rfl | omega | (exfalso; omega) | (exfalso; simp_all; done) | (simp_all; done) | (exfalso; simp_all; omega))], hw.below⟩
     simp only [qz]
     (try (have h18a := Int.le_of_eq h18; have h18b := Int.le_of_eq h18.symm; clear h18))
     refine Zm ?_; refine Zr ?_; refine Wm [0] ?_; refine Zr ?_
     refine Er fun w hw => ?_
     (try simp only [qz])
     exact ⟨by rw [show wd i = 2 from by (unfold wd; (repeat' split) <;> first | rfl | omega | (exfalso; omega) | (exfalso; simp_all; done) | (simp_all; done) | (exfalso; simp_all; omega))], hw.below⟩
    simp only [qz]
    (try (have h17a := Int.le_of_eq h17; have h17b := Int.le_of_eq h17.symm; clear h17))
    refine Zm ?_; refine Zr ?_; refine Wm [0] ?_; refine Zr ?_
    refine Er fun w hw => ?_
    (try simp only [qz])
    exact ⟨by rw [show wd i = 2 from by (unfold wd; (repeat' split) <;> first | rfl | omega | (exfalso; omega) | (exfalso; simp_all; done) | (simp_all; done) | (exfalso; simp_all; omega))], hw.below⟩
   simp only [qz]
   (try (have h16a := Int.le_of_eq h16; have h16b := Int.le_of_eq h16.symm; clear h16))
   refine Zm ?_; refine Zr ?_; refine Wr [0, 0, 1] ?_; apply rg_soft
   case hy => (intro w hw; have hlk := run_lookup_none i.name w; exact Gy)
   simp only [qz]; apply rg_soft
   case hy => (intro w hw; obtain ⟨hcg1, hfg1⟩ := (Kn.hd0 hw).facts; have hlk := run_lookup_none i.name w; exact Gy)
   simp only [qz]; apply rg_pureb Rx Kx
   case hargs => exact Ax
   case h => exact fun w hw => between_mesh 1 i.n 7 w
   case hz => exact Nz
   rintro (_ | _) h20 <;> try simp only [qd, ne_eq] at h20
   ·simp only [qz]
    have hb29 := betB_false h20
    clear h20; refine Zr ?_; refine Wm [0] ?_; refine Zr ?_
    refine Er fun w hw => ?_
    (try simp only [qz])
    exact ⟨by rw [show wd i = 0 from by (unfold wd; (repeat' split) <;> first | rfl | omega | (exfalso; omega) | (exfalso; simp_all; done) | (simp_all; done) | (exfalso; simp_all; omega))], hw.below⟩
   simp only [qz]
   have hb29 := betB_true h20
   clear h20; refine Zr ?_; refine Wm [0] ?_; refine Zr ?_
   refine Er fun w hw => ?_
   (try simp only [qz])
   exact ⟨by rw [show wd i = 1 from by (unfold wd; (repeat' split) <;> first | rfl | omega | (exfalso; omega) | (exfalso; simp_all; done) | (simp_all; done) | (exfalso; simp_all; omega))], hw.below⟩
  simp only [qz]
  (try (have h15a := Int.le_of_eq h15; have h15b := Int.le_of_eq h15.symm; clear h15))
  apply rg_soft_g
  case hg => rfl
  case hy => (intro w hw; have hlk := run_lookup_none i.name w; exact Gy)
  simp only [qz]; apply rg_soft_g
  case hg => rfl
  case hy => (intro w hw; have hlk := run_lookup_none i.name w; exact Gy)
  simp only [qz]; apply rg_soft_g
  case hg => rfl
  case hy => (intro w hw; obtain ⟨hcg1, hfg1⟩ := (Kn.hd0 hw).facts; have hlk := run_lookup_none i.name w; exact Gy)
  simp only [qz]; apply rg_softb_g
  case hg => rfl
  case hy => (intro w hw; have hlk := run_lookup_none i.name w; exact Gy)
  rintro (_ | _) h21 <;> try simp only [qd, ne_eq] at h21
  ·simp only [qz]
   (try (have h21a := Int.le_of_eq h21; have h21b := Int.le_of_eq h21.symm; clear h21))
   apply rg_soft_g
   case hg => rfl
   case hy => (intro w hw; have hlk := run_lookup_none i.name w; exact Gy)
   simp only [qz]; apply rg_soft
   case hy => (intro w hw; have hlk := run_lookup_none i.name w; exact Gy)
   simp only [qz]; refine Zr ?_; refine Wr [0, 0] ?_; apply rg_soft
   case hy => (intro w hw; have hlk := run_lookup_none i.name w; exact Gy)
   simp only [qz]; apply rg_soft
   case hy => (intro w hw; obtain ⟨hcg1, hfg1⟩ := (Kn.hd0 hw).facts; have hlk := run_lookup_none i.name w; exact Gy)
   simp only [qz]; refine Zr ?_; refine Wr [0, 0] ?_; apply rg_softb
   case hy => (intro w hw; have hlk := run_lookup_none i.name w; exact Gy)
   rintro (_ | _) h22 <;> try simp only [qd, ne_eq] at h22
   ·simp only [qz]
    (try (have h22a := Int.le_of_eq h22; have h22b := Int.le_of_eq h22.symm; clear h22))
    refine Zm ?_; refine Zr ?_; refine Wr [0, 0] ?_; apply rg_softb
    case hy => (intro w hw; have hlk := run_lookup_none i.name w; exact Gy)
    rintro (_ | _) h23 <;> try simp only [qd, ne_eq] at h23
    ·simp only [qz]
     (try (have h23a := Int.le_of_eq h23; have h23b := Int.le_of_eq h23.symm; clear h23))
     refine Zm ?_; refine Zr ?_; refine Wr [0, 0] ?_; apply rg_softb
     case hy => (intro w hw; have hlk := run_lookup_none i.name w; exact Gy)
     rintro (_ | _) h24 <;> try simp only [qd, ne_eq] at h24
     ·simp only [qz]
      (try (have h24a := Int.le_of_eq h24; have h24b := Int.le_of_eq h24.symm; clear h24))
      refine Zm ?_; refine Zr ?_; refine Wr [0, 0] ?_; apply rg_softb
      case hy => (intro w hw; have hlk := run_lookup_none i.name w; exact Gy)
      rintro (_ | _) h25 <;> try simp only [qd, ne_eq] at h25
      ·simp only [qz]
       (try (have h25a := Int.le_of_eq h25; have h25b := Int.le_of_eq h25.symm; clear h25))
       refine Zm ?_; refine Zr ?_; refine Wm [0] ?_; refine Zr ?_
       refine Er fun w hw => ?_
       (try simp only [qz])
       exact ⟨by rw [show wd i = 0 from by (unfold wd; (repeat' split) <;> first | rfl | omega | (exfalso; omega) | (exfalso; simp_all; done) | (simp_all; done) | (exfalso; simp_all; omega))], hw.below⟩
      simp only [qz]
      (try (have h25a := Int.le_of_eq h25; have h25b := Int.le_of_eq h25.symm; clear h25))
      refine Zm ?_; refine Zr ?_; refine Wm [0, 0, 0, 0, 0] ?_; apply rg_soft
      case hy => (intro w hw; have hlk := run_lookup_none i.name w; exact Gy)
      simp only [qz]; apply rg_soft
      case hy => (intro w hw; obtain ⟨hcg1, hfg1⟩ := (Kn.hd0 hw).facts; have hlk := run_lookup_none i.name w; exact Gy)
      simp only [qz]; apply rg_soft
      case hy => (intro w hw; have hlk := run_lookup_none i.name w; exact Gy)
      refine Zm ?_; refine Zr ?_
      refine Er fun w hw => ?_
      (try simp only [qz])
      exact ⟨by rw [show wd i = 0 from by (unfold wd; (repeat' split) <;> first | rfl | omega | (exfalso; omega) | (exfalso; simp_all; done) | (simp_all; done) | (exfalso; simp_all; omega))], hw.below⟩
     simp only [qz]
     (try (have h24a := Int.le_of_eq h24; have h24b := Int.le_of_eq h24.symm; clear h24))
     refine Zm ?_; refine Zr ?_; refine Wm [0] ?_; refine Zr ?_
     refine Er fun w hw => ?_
     (try simp only [qz])
     exact ⟨by rw [show wd i = 2 from by (unfold wd; (repeat' split) <;> first | rfl | omega | (exfalso; omega) | (exfalso; simp_all; done) | (simp_all; done) | (exfalso; simp_all; omega))], hw.below⟩
    simp only [qz]
    (try (have h23a := Int.le_of_eq h23; have h23b := Int.le_of_eq h23.symm; clear h23))
    refine Zm ?_; refine Zr ?_; refine Wm [0] ?_; refine Zr ?_
    refine Er fun w hw => ?_
    (try simp only [qz])
    exact ⟨by rw [show wd i = 2 from by (unfold wd; (repeat' split) <;> first | rfl | omega | (exfalso; omega) | (exfalso; simp_all; done) | (simp_all; done) | (exfalso; simp_all; omega))], hw.below⟩
   simp only [qz]
   (try (have h22a := Int.le_of_eq h22; have h22b := Int.le_of_eq h22.symm; clear h22))
   refine Zm ?_; refine Zr ?_; refine Wr [0, 0, 1] ?_; apply rg_soft
   case hy => (intro w hw; have hlk := run_lookup_none i.name w; exact Gy)
   simp only [qz]; apply rg_soft
   case hy => (intro w hw; obtain ⟨hcg1, hfg1⟩ := (Kn.hd0 hw).facts; have hlk := run_lookup_none i.name w; exact Gy)
   simp only [qz]; apply rg_pureb Rx Kx
   case hargs => exact Ax
   case h => exact fun w hw => between_mesh 1 i.n 7 w
   case hz => exact Nz
   rintro (_ | _) h26 <;> try simp only [qd, ne_eq] at h26
   ·simp only [qz]
    have hb29 := betB_false h26
    clear h26; refine Zr ?_; refine Wm [0] ?_; refine Zr ?_
    refine Er fun w hw => ?_
    (try simp only [qz])
    exact ⟨by rw [show wd i = 0 from by (unfold wd; (repeat' split) <;> first | rfl | omega | (exfalso; omega) | (exfalso; simp_all; done) | (simp_all; done) | (exfalso; simp_all; omega))], hw.below⟩
   simp only [qz]
   have hb29 := betB_true h26
   clear h26; refine Zr ?_; refine Wm [0] ?_; refine Zr ?_
   refine Er fun w hw => ?_
   (try simp only [qz])
   exact ⟨by rw [show wd i = 1 from by (unfold wd; (repeat' split) <;> first | rfl | omega | (exfalso; omega) | (exfalso; simp_all; done) | (simp_all; done) | (exfalso; simp_all; omega))], hw.below⟩
  simp only [qz]
  (try (have h21a := Int.le_of_eq h21; have h21b := Int.le_of_eq h21.symm; clear h21))
  apply rg_soft_g
  case hg => rfl
  case hy => (intro w hw; have hlk := run_lookup_none i.name w; exact Gy)
  simp only [qz]; apply rg_soft
  case hy => (intro w hw; have hlk := run_lookup_none i.name w; exact Gy)
  simp only [qz]; refine Zr ?_; refine Wm [0] ?_; refine Zr ?_
  refine Er fun w hw => ?_
  (try simp only [qz])
  exact ⟨by rw [show wd i = 0 from by (unfold wd; (repeat' split) <;> first | rfl | omega | (exfalso; omega) | (exfalso; simp_all; done) | (simp_all; done) | (exfalso; simp_all; omega))], hw.below⟩
 simp only [qz]
 (try (have h14a := Int.le_of_eq h14; have h14b := Int.le_of_eq h14.symm; clear h14))
 apply rg_soft
 case hy => (intro w hw; have hlk := run_lookup_none i.name w; exact Gy)
 refine Zm ?_
 apply rg_soft
 case hy => (intro w hw; have hlk := run_lookup_none i.name w; exact Gy)
 simp only [qz]
 refine Zr ?_
 refine Wm [0] ?_
 refine Zr ?_
 refine Er fun w hw => ?_
 (try simp only [qz])
 exact ⟨by rw [show wd i = 0 from by (unfold wd; (repeat' split) <;> first | rfl | omega | (exfalso; omega) | (exfalso; simp_all; done) | (simp_all; done) | (exfalso; simp_all; omega))], hw.below⟩
theorem wideI_any (i : It) (h4 : i.kind ≠ 4) (w : World) : Calls Tryz.prog 75 #[.slice none 0 0, itV i] w fun e w' => e = .returned (.int .i64 (wd i)) ∧ Below w.heap.size w w' := by
 go_enter Tryz.func75, Tryz.ntmps75
 refine wk_start ?_
 refine wk_seq ?_
 refine Wr [1, 0] ?_
 refine Rgn fun g1 => ?_
 refine Zm ?_
 refine Zr ?_
 refine Wr [0, 0] ?_
 refine Zk ?_
 apply rg_soft
 case hy => (intro w hw; obtain ⟨hcg1, hfg1⟩ := (Kn.hd0 hw).facts; exact Gy)
 simp only [qz]
 refine Zr ?_
 refine Wr [0, 0] ?_
 apply rg_softb
 case hy => (intro w hw; exact Gy)
 rintro (_ | _) h1 <;> try simp only [qd, ne_eq] at h1
 ·simp only [qz]
  (try (have h1a := Int.le_of_eq h1; have h1b := Int.le_of_eq h1.symm; clear h1))
  refine Zm ?_; refine Zr ?_; refine Wr [0, 0] ?_; apply rg_softb
  case hy => (intro w hw; exact Gy)
  rintro (_ | _) h2 <;> try simp only [qd, ne_eq] at h2
  ·simp only [qz]
   (try (have h2a := Int.le_of_eq h2; have h2b := Int.le_of_eq h2.symm; clear h2))
   refine Zm ?_; refine Zr ?_; refine Wr [0, 0] ?_; apply rg_softb
   case hy => (intro w hw; exact Gy)
   rintro (_ | _) h3 <;> try simp only [qd, ne_eq] at h3
   ·simp only [qz]
    (try (have h3a := Int.le_of_eq h3; have h3b := Int.le_of_eq h3.symm; clear h3))
    refine Zm ?_; refine Zr ?_; refine Wr [0, 0] ?_; apply rg_softb
    case hy => (intro w hw; exact Gy)
    intro x h4
    obtain rfl : x = false := Kf h4
    clear h4; refine Zm ?_; refine Zr ?_; refine Wm [0] ?_; refine Zr ?_
    refine Er fun w hw => ?_
    (try simp only [qz])
    exact ⟨by rw [show wd i = 0 from by (unfold wd; (repeat' split) <;> first | rfl | omega | (exfalso; omega) | (exfalso; simp_all; done) | (simp_all; done) | (exfalso; simp_all; omega))], hw.below⟩
   simp only [qz]
   (try (have h3a := Int.le_of_eq h3; have h3b := Int.le_of_eq h3.symm; clear h3))
   refine Zm ?_; refine Zr ?_; refine Wr [0, 0, 0, 0, 0, 0, 0, 0] ?_; refine Zk ?_; apply rg_soft
   case hy => (intro w hw; obtain ⟨hcg1, hfg1⟩ := (Kn.hd0 hw).facts; exact Gy)
   simp only [qz]; apply rg_softb
   case hy => (intro w hw; exact Gy)
   rintro (_ | _) h5 <;> try simp only [qd, ne_eq] at h5
   ·simp only [qz]
    (try (have h5a := Int.le_of_eq h5; have h5b := Int.le_of_eq h5.symm; clear h5))
    refine Zm ?_; refine Zk ?_; refine Zr ?_; refine Wm [0] ?_; refine Zr ?_
    refine Er fun w hw => ?_
    (try simp only [qz])
    exact ⟨by rw [show wd i = 0 from by (unfold wd; (repeat' split) <;> first | rfl | omega | (exfalso; omega) | (exfalso; simp_all; done) | (simp_all; done) | (exfalso; simp_all; omega))], hw.below⟩
   simp only [qz]
   (try (have h5a := Int.le_of_eq h5; have h5b := Int.le_of_eq h5.symm; clear h5))
   refine Zm ?_; apply rg_soft_g
   case hg => rfl
   case hy => (intro w hw; exact Gy)
   simp only [qz]; apply rg_soft_g
   case hg => rfl
   case hy => (intro w hw; obtain ⟨hcg1, hfg1⟩ := (Kn.hd0 hw).facts; exact Gy)
   simp only [qz]; apply rg_softb_g
   case hg => rfl
   case hy => (intro w hw; exact Gy)
   rintro (_ | _) h6 <;> try simp only [qd, ne_eq] at h6
   ·simp only [qz]
    (try (have h6a := Int.le_of_eq h6; have h6b := Int.le_of_eq h6.symm; clear h6))
    refine Zk ?_; refine Zr ?_; refine Wm [0] ?_; refine Zr ?_
    refine Er fun w hw => ?_
    (try simp only [qz])
    exact ⟨by rw [show wd i = 0 from by (unfold wd; (repeat' split) <;> first | rfl | omega | (exfalso; omega) | (exfalso; simp_all; done) | (simp_all; done) | (exfalso; simp_all; omega))], hw.below⟩
   simp only [qz]
   (try (have h6a := Int.le_of_eq h6; have h6b := Int.le_of_eq h6.symm; clear h6))
   refine Zk ?_; refine Zr ?_; refine Wm [0] ?_; refine Zr ?_
   refine Er fun w hw => ?_
   (try simp only [qz])
   exact ⟨by rw [show wd i = 2 from by (unfold wd; (repeat' split) <;> first | rfl | omega | (exfalso; omega) | (exfalso; simp_all; done) | (simp_all; done) | (exfalso; simp_all; omega))], hw.below⟩
  simp only [qz]
  (try (have h2a := Int.le_of_eq h2; have h2b := Int.le_of_eq h2.symm; clear h2))
  refine Zm ?_; refine Zr ?_; refine Wr [0, 0, 0, 0, 0, 0, 0, 0] ?_; refine Zk ?_; apply rg_soft
  case hy => (intro w hw; obtain ⟨hcg1, hfg1⟩ := (Kn.hd0 hw).facts; exact Gy)
  simp only [qz]; apply rg_softb
  case hy => (intro w hw; exact Gy)
  rintro (_ | _) h7 <;> try simp only [qd, ne_eq] at h7
  ·simp only [qz]
   (try (have h7a := Int.le_of_eq h7; have h7b := Int.le_of_eq h7.symm; clear h7))
   refine Zm ?_; refine Zk ?_; refine Zr ?_; refine Wm [0] ?_; refine Zr ?_
   refine Er fun w hw => ?_
   (try simp only [qz])
   exact ⟨by rw [show wd i = 0 from by (unfold wd; (repeat' split) <;> first | rfl | omega | (exfalso; omega) | (exfalso; simp_all; done) | (simp_all; done) | (exfalso; simp_all; omega))], hw.below⟩
  simp only [qz]
  (try (have h7a := Int.le_of_eq h7; have h7b := Int.le_of_eq h7.symm; clear h7))
  refine Zm ?_; apply rg_soft_g
  case hg => rfl
  case hy => (intro w hw; exact Gy)
  simp only [qz]; apply rg_soft_g
  case hg => rfl
  case hy => (intro w hw; obtain ⟨hcg1, hfg1⟩ := (Kn.hd0 hw).facts; exact Gy)
  simp only [qz]; apply rg_softb_g
  case hg => rfl
  case hy => (intro w hw; exact Gy)
  rintro (_ | _) h8 <;> try simp only [qd, ne_eq] at h8
  ·simp only [qz]
   (try (have h8a := Int.le_of_eq h8; have h8b := Int.le_of_eq h8.symm; clear h8))
   refine Zk ?_; refine Zr ?_; refine Wm [0] ?_; refine Zr ?_
   refine Er fun w hw => ?_
   (try simp only [qz])
   exact ⟨by rw [show wd i = 0 from by (unfold wd; (repeat' split) <;> first | rfl | omega | (exfalso; omega) | (exfalso; simp_all; done) | (simp_all; done) | (exfalso; simp_all; omega))], hw.below⟩
  simp only [qz]
  (try (have h8a := Int.le_of_eq h8; have h8b := Int.le_of_eq h8.symm; clear h8))
  refine Zk ?_; refine Zr ?_; refine Wm [0] ?_; refine Zr ?_
  refine Er fun w hw => ?_
  (try simp only [qz])
  exact ⟨by rw [show wd i = 2 from by (unfold wd; (repeat' split) <;> first | rfl | omega | (exfalso; omega) | (exfalso; simp_all; done) | (simp_all; done) | (exfalso; simp_all; omega))], hw.below⟩
 simp only [qz]
 (try (have h1a := Int.le_of_eq h1; have h1b := Int.le_of_eq h1.symm; clear h1))
 refine Zm ?_
 refine Zr ?_
 refine Wr [0, 0, 0, 0, 0, 0, 0, 0, 0, 0, 0, 0, 0] ?_
 refine Zk ?_
 apply rg_soft
 case hy => (intro w hw; obtain ⟨hcg1, hfg1⟩ := (Kn.hd0 hw).facts; exact Gy)
 simp only [qz]
 apply rg_softb
 case hy => (intro w hw; exact Gy)
 rintro (_ | _) h9 <;> try simp only [qd, ne_eq] at h9
 ·simp only [qz]
  (try (have h9a := Int.le_of_eq h9; have h9b := Int.le_of_eq h9.symm; clear h9))
  refine Zm ?_; refine Zk ?_; refine Zk ?_; refine Zr ?_; refine Wm [0] ?_; refine Zr ?_
  refine Er fun w hw => ?_
  (try simp only [qz])
  exact ⟨by rw [show wd i = 0 from by (unfold wd; (repeat' split) <;> first | rfl | omega | (exfalso; omega) | (exfalso; simp_all; done) | (simp_all; done) | (exfalso; simp_all; omega))], hw.below⟩
 simp only [qz]
 (try (have h9a := Int.le_of_eq h9; have h9b := Int.le_of_eq h9.symm; clear h9))
 refine Zm ?_
 apply rg_soft_g
 case hg => rfl
 case hy => (intro w hw; exact Gy)
 simp only [qz]
 apply rg_soft_g
 case hg => rfl
 case hy => (intro w hw; obtain ⟨hcg1, hfg1⟩ := (Kn.hd0 hw).facts; exact Gy)
 simp only [qz]
 apply rg_softb_g
 case hg => rfl
 case hy => (intro w hw; exact Gy)
 rintro (_ | _) h10 <;> try simp only [qd, ne_eq] at h10
 ·simp only [qz]
  (try (have h10a := Int.le_of_eq h10; have h10b := Int.le_of_eq h10.symm; clear h10))
  refine Zk ?_; refine Zk ?_; refine Zr ?_; refine Wm [0] ?_; refine Zr ?_
  refine Er fun w hw => ?_
  (try simp only [qz])
  exact ⟨by rw [show wd i = 0 from by (unfold wd; (repeat' split) <;> first | rfl | omega | (exfalso; omega) | (exfalso; simp_all; done) | (simp_all; done) | (exfalso; simp_all; omega))], hw.below⟩
 simp only [qz]
 (try (have h10a := Int.le_of_eq h10; have h10b := Int.le_of_eq h10.symm; clear h10))
 refine Zk ?_
 apply rg_soft_g
 case hg => rfl
 case hy => (intro w hw; exact Gy)
 simp only [qz]
 apply rg_soft_g
 case hg => rfl
 case hy => (intro w hw; obtain ⟨hcg1, hfg1⟩ := (Kn.hd0 hw).facts; exact Gy)
 simp only [qz]
 apply rg_softb_g
 case hg => rfl
 case hy => (intro w hw; exact Gy)
 rintro (_ | _) h11 <;> try simp only [qd, ne_eq] at h11
 ·simp only [qz]
  (try (have h11a := Int.le_of_eq h11; have h11b := Int.le_of_eq h11.symm; clear h11))
  refine Zk ?_; refine Zr ?_; refine Wm [0] ?_; refine Zr ?_
  refine Er fun w hw => ?_
  (try simp only [qz])
  exact ⟨by rw [show wd i = 0 from by (unfold wd; (repeat' split) <;> first | rfl | omega | (exfalso; omega) | (exfalso; simp_all; done) | (simp_all; done) | (exfalso; simp_all; omega))], hw.below⟩
 simp only [qz]
 (try (have h11a := Int.le_of_eq h11; have h11b := Int.le_of_eq h11.symm; clear h11))
 refine Zk ?_
 refine Zr ?_
 refine Wm [0] ?_
 refine Zr ?_
 refine Er fun w hw => ?_
 (try simp only [qz])
 exact ⟨by rw [show wd i = 1 from by (unfold wd; (repeat' split) <;> first | rfl | omega | (exfalso; omega) | (exfalso; simp_all; done) | (simp_all; done) | (exfalso; simp_all; omega))], hw.below⟩
theorem fits1_any (i : It) (n : Int) (hn : 1 ≤ n ∧ n ≤ 6) (g2 g3 : Nat) (w : World) (H2 : Hd w g2 180 #[.map none]) (H3 : Hd w g3 3 #[.int .i64 n]) : Calls Tryz.prog 139 #[itV i, .pointer (some ⟨g2, 0, none⟩), .pointer (some ⟨g3, 0, none⟩)] w fun e w' => e = .returned (.bool (!fitB n i)) ∧ Below w.heap.size w w' := by
 have hwd := wd_range i
 go_enter Tryz.func139, Tryz.ntmps139
 refine wk_start ?_
 refine wk_seq ?_
 refine Wr [1, 0] ?_
 refine Rgn fun g1 => ?_
 refine Zm ?_
 refine Zr ?_
 refine Wr [0, 0, 1, 0] ?_
 apply rg_soft
 case hy => (intro w hw; obtain ⟨hcg1, hfg1⟩ := (Kn.hd0 hw).facts; have hwd := wd_range i; exact Gy)
 simp only [qz]
 apply rg_soft
 case hy => (intro w hw; obtain ⟨hcM, hfM⟩ := (hw.hdB H2 (by simp)).facts; have hwd := wd_range i; exact Gy)
 simp only [qz]
 apply rg_pure Rx Kx
 case hargs => exact Ax
 case h => exact fun w hw => width_any i w
 case hz => exact Nz
 refine Zm ?_
 refine Zr ?_
 refine Wm [0, 0, 0, 0, 0, 0, 0, 0, 0, 1, 0, 0, 0] ?_
 apply rg_softb
 case hy => (intro w hw; have hwd := wd_range i; exact Gy)
 rintro (_ | _) h1 <;> try simp only [qd, ne_eq] at h1
 ·simp only [qz]
  (try (have h1a := Int.le_of_eq h1; have h1b := Int.le_of_eq h1.symm; clear h1))
  refine Zm ?_; apply rg_soft_g
  case hg => rfl
  case hy => (intro w hw; have hwd := wd_range i; exact Gy)
  simp only [qz]; apply rg_soft_g
  case hg => rfl
  case hy => (intro w hw; obtain ⟨hcg1, hfg1⟩ := (Kn.hd0 hw).facts; have hwd := wd_range i; exact Gy)
  simp only [qz]; apply rg_soft_g
  case hg => rfl
  case hy => (intro w hw; obtain ⟨hcN, hfN⟩ := (hw.hdB H3 (by simp)).facts; have hwd := wd_range i; exact Gy)
  simp only [qz]; apply rg_soft_g
  case hg => rfl
  case hy => (intro w hw; have hwd := wd_range i; exact Gy)
  simp only [qz]; apply rg_soft_g
  case hg => rfl
  case hy => (intro w hw; have hwd := wd_range i; exact Gy)
  simp only [qz]; apply rg_soft_g
  case hg => rfl
  case hy => (intro w hw; have hwd := wd_range i; exact Gy)
  simp only [qz]; apply rg_pureb Rx Kx
  case hargs => exact Ax
  case h => exact fun w hw => between_mesh 1 i.at_ (n - wd i + 1) w
  case hz => exact Nz
  rintro (_ | _) h2 <;> try simp only [qd, ne_eq] at h2
  ·simp only [qz]
   have hb18 := betB_false h2
   clear h2; apply rg_soft_g
   case hg => rfl
   case hy => (intro w hw; have hwd := wd_range i; exact Gy)
   simp only [qz]; apply rg_soft
   case hy => (intro w hw; have hwd := wd_range i; exact Gy)
   refine Zm ?_; refine Zr ?_
   refine Er fun w hw => ?_
   (try simp only [qz])
   exact ⟨by (congr 2; symm; show (!fitB n i) = _; first | (rw [show fitB n i = true from decide_eq_true ⟨by omega, by omega, by omega⟩]; rfl) | (rw [show fitB n i = false from decide_eq_false (fun h => by omega)]; rfl)), hw.below⟩
  simp only [qz]
  have hb18 := betB_true h2
  clear h2; apply rg_soft_g
  case hg => rfl
  case hy => (intro w hw; have hwd := wd_range i; exact Gy)
  simp only [qz]; apply rg_soft
  case hy => (intro w hw; have hwd := wd_range i; exact Gy)
  refine Zm ?_; refine Zr ?_
  refine Er fun w hw => ?_
  (try simp only [qz])
  exact ⟨by (congr 2; symm; show (!fitB n i) = _; first | (rw [show fitB n i = true from decide_eq_true ⟨by omega, by omega, by omega⟩]; rfl) | (rw [show fitB n i = false from decide_eq_false (fun h => by omega)]; rfl)), hw.below⟩
 simp only [qz]
 (try (have h1a := Int.le_of_eq h1; have h1b := Int.le_of_eq h1.symm; clear h1))
 refine Zm ?_
 refine rg_skip_h Rx Nz ?_
 refine Zm ?_
 apply rg_soft
 case hy => (intro w hw; have hwd := wd_range i; exact Gy)
 refine Zm ?_
 refine Zr ?_
 refine Er fun w hw => ?_
 (try simp only [qz])
 exact ⟨by (congr 2; symm; show (!fitB n i) = _; first | (rw [show fitB n i = true from decide_eq_true ⟨by omega, by omega, by omega⟩]; rfl) | (rw [show fitB n i = false from decide_eq_false (fun h => by omega)]; rfl)), hw.below⟩
theorem fits_any (xs : List It) (a : Option Addr) (c : Nat) (n : Int) (hn : 1 ≤ n ∧ n ≤ 6) (hl : xs.length ≤ 100000) (w : World) (hA : AS w a (its xs)) : Calls Tryz.prog 119 #[.int .i64 n, slV a xs.length c, .map none] w fun e w' => e = .returned (.bool (xs.all (fitB n))) ∧ Below w.heap.size w w' := by
 go_enter Tryz.func119, Tryz.ntmps119
 refine wk_start ?_
 refine wk_seq ?_
 refine Wr [1, 1, 0] ?_
 refine Rgn fun g1 => ?_
 simp only [qz]
 refine Rgn fun g2 => ?_
 refine Zm ?_
 refine Zr ?_
 refine Wm [0, 0, 1, 0, 0] ?_
 refine Zk ?_
 apply rg_pure Rx Kx
 case hargs => exact Ax
 case h => exact fun w hw => contains_any xs a c (fun i => !fitB n i) 139 #[.pointer (some ⟨g2, 0, none⟩), .pointer (some ⟨g1, 0, none⟩)] hl Kx w (hA.kn0 hw) (fun w' hb i hi => fits1_any i n hn g2 g1 w' (Kn.hd0 (hw.call hb)) (Kn.hd0 (Kn.tl (hw.call hb))))
 case hz => exact Nz
 simp only [qz]
 refine Zk ?_
 refine Zr ?_
 refine Er fun w hw => ?_
 (try simp only [qz])
 exact ⟨by rw [List.all_eq_not_any_not], hw.below⟩
theorem wd_four {i : It} (h : i.kind = 4) : wd i = 0 := by unfold wd; rw [if_neg Ox, if_neg Ox]
theorem fitB_true {n : Int} {i : It} (h : wd i ≠ 0 ∧ 1 ≤ i.at_ ∧ i.at_ ≤ n - wd i + 1) : fitB n i = true := decide_eq_true h
theorem fitB_false {n : Int} {i : It} (h : ¬ (wd i ≠ 0 ∧ 1 ≤ i.at_ ∧ i.at_ ≤ n - wd i + 1)) : fitB n i = false := decide_eq_false h
theorem mem_it {xs : List It} {x : It} (h : x ∈ xs) : ∃ j, j < xs.length ∧ it xs j = x := by
 obtain ⟨j, hj, e⟩ := List.getElem_of_mem h
 exact ⟨j, hj, by unfold it; rw [List.getD_eq_getElem?_getD, List.getElem?_eq_getElem hj]; exact e⟩
theorem all_it {p : It → Bool} {xs : List It} (h : ∀ j, j < xs.length → p (it xs j) = true) : xs.all p = true := by
 rw [List.all_eq_true]; intro x hx; obtain ⟨j, hj, rfl⟩ := mem_it hx; exact h j hj
theorem not_all_it {p : It → Bool} {xs : List It} {k : Nat} (hk : k < xs.length) (h : p (it xs k) = false) : xs.all p = false := by
 rw [← Bool.not_eq_true, List.all_eq_true]; intro hh; rw [hh _ (it_mem hk)] at h; cases h
theorem validI_true {n : Int} {xs : List It} (h1 : 1 ≤ n) (h2 : n ≤ 6) (h3 : xs.length ≤ 5000) (h4 : xs.all (fitB n) = true) : validI n xs = true := by
 unfold validI; rw [h4]; simp [h1, h2, h3]
theorem validB_false {n : Int} {xs : List It} (h : ¬ (1 ≤ n ∧ n ≤ 6 ∧ xs.length ≤ 5000 ∧ xs.all (fitB n) = true)) : validI n xs = false := by
 unfold validI
 rw [← Bool.not_eq_true]
 intro hh
 simp only [Bool.and_eq_true, decide_eq_true_eq] at hh
 exact h ⟨hh.1.1, hh.1.2, hh.2.1, hh.2.2⟩
theorem validB_all {n : Int} {xs : List It} (h : validI n xs = true) : 1 ≤ n ∧ n ≤ 6 ∧ xs.length ≤ 5000 ∧ ∀ j, j < xs.length → fitB n (it xs j) = true := by
 unfold validI at h
 simp only [Bool.and_eq_true, decide_eq_true_eq] at h
 exact ⟨h.1.1, h.1.2, h.2.1, fun j hj => (List.all_eq_true.1 h.2.2) _ (it_mem hj)⟩
def itemE (n : Int) (xs : List It) : Int := if 1 ≤ n ∧ n ≤ 6 then (if validI n xs = true then 0 else 31) else 2
theorem mvalidI_any (xs : List It) (a : Option Addr) (c : Nat) (n : Int) (w : World) (hA : AS w a (its xs)) : Calls Tryz.prog 77 #[.int .i64 n, slV a xs.length c] w fun e w' => e = .returned (.bool (validI n xs)) ∧ Below w.heap.size w w' := by
 go_enter Tryz.func77, Tryz.ntmps77
 refine wk_start ?_
 refine wk_seq ?_
 refine Wm [0] ?_
 refine Zr ?_
 refine Wm [0, 1, 0, 0, 0, 0, 0, 0, 0, 0, 1, 0, 0] ?_
 apply rg_pureb Rx Kx
 case hargs => exact Ax
 case h => exact fun w hw => between_mesh 1 n 6 w
 case hz => exact Nz
 rintro (_ | _) h1 <;> try simp only [qd, ne_eq] at h1
 ·simp only [qz]
  have hb6 := betB_false h1
  clear h1; refine Zm ?_; refine Zk ?_; refine rg_skip_h Rx Nz ?_; simp only [qz]; refine Zk ?_; refine Zr ?_
  refine Er fun w hw => ?_
  (try simp only [qz])
  exact ⟨by rw [show validI n xs = false from validB_false (fun h => by omega)], hw.below⟩
 simp only [qz]
 have hb6 := betB_true h1
 clear h1
 refine Zm ?_
 apply rg_soft_g
 case hg => rfl
 case hy => (intro w hw; exact Gy)
 simp only [qz]
 apply rg_soft_g
 case hg => rfl
 case hy => (intro w hw; exact Gy)
 simp only [qz]
 apply rg_softb_g
 case hg => rfl
 case hy => (intro w hw; exact Gy)
 rintro (_ | _) h2 <;> try simp only [qd, ne_eq] at h2
 ·simp only [qz]
  refine Zk ?_; refine rg_skip_h Rx Nz ?_; simp only [qz]; refine Zk ?_; refine Zr ?_
  refine Er fun w hw => ?_
  (try simp only [qz])
  exact ⟨by rw [show validI n xs = false from validB_false (fun h => by omega)], hw.below⟩
 simp only [qz]
 refine Zk ?_
 apply rg_soft_g
 case hg => rfl
 case hy => (intro w hw; exact Gy)
 simp only [qz]
 apply rg_soft_g
 case hg => rfl
 case hy => (intro w hw; exact Gy)
 simp only [qz]
 apply rg_pure Rx Kx
 case hargs => exact Ax
 case h => exact fun w hw => fits_any xs a c n hb6 Ox w (hA.kn0 hw)
 case hz => exact Nz
 simp only [qz]
 refine Zk ?_
 refine Zr ?_
 refine Er fun w hw => ?_
 (try simp only [qz])
 exact ⟨by (congr 2; unfold validI; rw [show decide (1 ≤ n ∧ n ≤ 6) = true from decide_eq_true hb6, show decide (xs.length ≤ 5000) = true from decide_eq_true Ox]; rfl), hw.below⟩
theorem placed_any (i : It) (h4 : i.kind ≠ 4) (n : Int) (hn : 1 ≤ n ∧ n ≤ 6) (w : World) : Calls Tryz.prog 29 #[.slice none 0 0, .int .i64 n, itV i] w fun e w' => e = .returned (.bool (fitB n i)) ∧ Below w.heap.size w w' := by
 have hwd := wd_range i
 go_enter Tryz.func29, Tryz.ntmps29
 refine wk_start ?_
 refine wk_seq ?_
 refine Wr [1, 0] ?_
 refine Rgn fun g1 => ?_
 refine Zm ?_
 refine Zr ?_
 refine Wm [0, 0, 1, 0] ?_
 apply rg_soft
 case hy => (intro w hw; obtain ⟨hcg1, hfg1⟩ := (Kn.hd0 hw).facts; exact Gy)
 simp only [qz]
 apply rg_pure Rx Kx
 case hargs => exact Ax
 case h => exact fun w hw => wideI_any i h4 w
 case hz => exact Nz
 refine Zm ?_
 refine Zr ?_
 refine Wm [0, 0, 0, 0, 0, 0, 0, 0, 0, 0, 0, 0, 0, 0, 0, 0, 0, 0, 0, 0, 0, 0, 0] ?_
 apply rg_softb
 case hy => (intro w hw; exact Gy)
 rintro (_ | _) h1 <;> try simp only [qd, ne_eq] at h1
 ·refine Zm ?_
  refine Zk ?_; refine Zk ?_; refine Zk ?_; refine Zr ?_
  refine Er fun w hw => ?_
  (try simp only [qz])
  exact ⟨by (congr 2; symm; first | exact fitB_true ⟨by omega, by omega, by omega⟩ | exact fitB_false (fun h => by omega) | (simp only [fitB]; exact decide_eq_decide.2 Ox)), hw.below⟩
 refine Zm ?_
 apply rg_soft_g
 case hg => rfl
 case hy => (intro w hw; exact Gy)
 simp only [qz]
 apply rg_soft_g
 case hg => rfl
 case hy => (intro w hw; obtain ⟨hcg1, hfg1⟩ := (Kn.hd0 hw).facts; exact Gy)
 simp only [qz]
 apply rg_softb_g
 case hg => rfl
 case hy => (intro w hw; exact Gy)
 rintro (_ | _) h2 <;> try simp only [qd, ne_eq] at h2
 ·simp only [qz]
  refine Zk ?_; refine Zk ?_; refine Zk ?_; refine Zr ?_
  refine Er fun w hw => ?_
  (try simp only [qz])
  exact ⟨by (congr 2; symm; first | exact fitB_true ⟨by omega, by omega, by omega⟩ | exact fitB_false (fun h => by omega) | (simp only [fitB]; exact decide_eq_decide.2 Ox)), hw.below⟩
 simp only [qz]
 refine Zk ?_
 apply rg_soft_g
 case hg => rfl
 case hy => (intro w hw; exact Gy)
 simp only [qz]
 apply rg_soft_g
 case hg => rfl
 case hy => (intro w hw; obtain ⟨hcg1, hfg1⟩ := (Kn.hd0 hw).facts; exact Gy)
 simp only [qz]
 apply rg_soft_g
 case hg => rfl
 case hy => (intro w hw; exact Gy)
 simp only [qz]
 apply rg_softb_g
 case hg => rfl
 case hy => (intro w hw; exact Gy)
 rintro (_ | _) h3 <;> try simp only [qd, ne_eq] at h3
 ·simp only [qz]
  refine Zk ?_; refine Zk ?_; refine Zr ?_
  refine Er fun w hw => ?_
  (try simp only [qz])
  exact ⟨by (congr 2; symm; first | exact fitB_true ⟨by omega, by omega, by omega⟩ | exact fitB_false (fun h => by omega) | (simp only [fitB]; exact decide_eq_decide.2 Ox)), hw.below⟩
 simp only [qz]
 refine Zk ?_
 apply rg_soft_g
 case hg => rfl
 case hy => (intro w hw; exact Gy)
 simp only [qz]
 apply rg_soft_g
 case hg => rfl
 case hy => (intro w hw; obtain ⟨hcg1, hfg1⟩ := (Kn.hd0 hw).facts; exact Gy)
 simp only [qz]
 apply rg_soft_g
 case hg => rfl
 case hy => (intro w hw; exact Gy)
 simp only [qz]
 apply rg_soft_g
 case hg => rfl
 case hy => (intro w hw; exact Gy)
 simp only [qz]
 apply rg_soft_g
 case hg => rfl
 case hy => (intro w hw; exact Gy)
 simp only [qz]
 apply rg_soft_g
 case hg => rfl
 case hy => (intro w hw; exact Gy)
 simp only [qz]
 apply rg_soft_g
 case hg => rfl
 case hy => (intro w hw; exact Gy)
 simp only [qz]
 refine Zk ?_
 refine Zr ?_
 refine Er fun w hw => ?_
 (try simp only [qz])
 exact ⟨by (congr 2; symm; first | exact fitB_true ⟨by omega, by omega, by omega⟩ | exact fitB_false (fun h => by omega) | (simp only [fitB]; exact decide_eq_decide.2 Ox)), hw.below⟩
theorem rvalidItems_any (xs : List It) (a : Option Addr) (c : Nat) (n : Int) (w : World) (hA : AS w a (its xs)) : Calls Tryz.prog 5 #[.int .i64 n, slV a xs.length c] w fun e w' => e = .returned (.bool (validI n xs)) ∧ Below w.heap.size w w' := by
 go_enter Tryz.func5, Tryz.ntmps5
 refine wk_start ?_
 refine wk_seq ?_
 refine Wm [0] ?_
 refine Zr ?_
 refine Wm [0, 0, 0, 0, 0, 0, 0, 0, 0, 0, 0] ?_
 apply rg_softb
 case hy => (intro w hw; exact Gy)
 rintro (_ | _) h1 <;> try simp only [qd, ne_eq] at h1
 ·refine Zm ?_
  apply rg_soft_g
  case hg => rfl
  case hy => (intro w hw; exact Gy)
  simp only [qz]; apply rg_softb_g
  case hg => rfl
  case hy => (intro w hw; exact Gy)
  rintro (_ | _) h2 <;> try simp only [qd, ne_eq] at h2
  ·simp only [qz]
   refine Zk ?_; apply rg_soft_g
   case hg => rfl
   case hy => (intro w hw; exact Gy)
   simp only [qz]; apply rg_soft_g
   case hg => rfl
   case hy => (intro w hw; exact Gy)
   simp only [qz]; apply rg_softb_g
   case hg => rfl
   case hy => (intro w hw; exact Gy)
   rintro (_ | _) h3 <;> try simp only [qd, ne_eq] at h3
   ·simp only [qz]
    refine Zk ?_; refine Zr ?_; refine Wm [0, 0, 0] ?_; refine Zk ?_; refine Zr ?_; refine wk_loopS [4, 6, 20, 21, 22, 23, 24, 25, 26, 27, 28, 29, 30, 31, 32, 33] (fun mz vs s => ∃ (k : Nat) (j6 j21 j22 j23 j24 j25 j26 j27 j28 j29 j30 j31 j32 j33 : Value), vs = [.bool false, j6, .int .i64 k, j21, j22, j23, j24, j25, j26, j27, j28, j29, j30, j31, j32, j33] ∧ s = [] ∧ mz = xs.length - k ∧ k ≤ xs.length ∧ ∀ j, j < k → fitB n (it xs j) = true) ((fun (k : Nat) => xs.length - k) (0)) ?_ Kx ?_
    ·dsimp only [Act.vals, List.map, Array.getD, List.size_toArray, List.length_cons, List.length_nil, Nat.reduceAdd, Nat.reduceLT, ↓reduceDIte, Array.getInternal, List.getElem_toArray, List.getElem_cons_zero, List.getElem_cons_succ]
     exact ⟨0, _, _, _, _, _, _, _, _, _, _, _, _, _, _, rfl, rfl, rfl, by omega, fun i hi => by omega⟩
    rintro mz vs s ⟨k, j6, j21, j22, j23, j24, j25, j26, j27, j28, j29, j30, j31, j32, j33, rfl, rfl, hn, hc1, hc2⟩
    simp only [Act.puts, Act.vals, List.zip_cons_cons, List.zip_nil_right, List.foldl_cons, List.foldl_nil, List.map_cons, List.map_nil, Act.put, Act.eval, List.setIfInBounds_toArray, List.set_cons_zero, List.set_cons_succ, Array.getD_eq_getD_getElem?, List.getElem?_toArray, List.getElem?_cons_zero, List.getElem?_cons_succ, Option.getD_some]; refine wk_seq ?_; refine Wr [0] ?_; apply rg_softb
    case hy => (intro w hw; exact Gy)
    rintro (_ | _) h4 <;> try simp only [qd, ne_eq] at h4
    ·simp only [qz]
     refine Zr ?_; refine Wm [0] ?_; refine Zr ?_
     refine Er fun w hw => ?_
     (try simp only [qz])
     exact ⟨by rw [show validI n xs = true from validI_true Ox Ox Ox (all_it (fun j hj => hc2 j Ox))], hw.below⟩
    simp only [qz]
    obtain ⟨b, off, rfl, hlt, hcell⟩ := AS.openT hA Ox
    have hck := hcell k Ox
    refine Zr ?_; refine Wr [0, 0, 1, 1] ?_; refine Zk ?_; apply rg_soft
    case hy => (intro w hw; obtain ⟨hi0, hi1, hi2, hi3⟩ := hck.kn hw hlt (by simp); exact Gy)
    simp only [qz]
    refine Rgn fun g1 => ?_
    simp only [qz]; apply rg_store
    case hr => (intro w hw; obtain ⟨hcg1, hfg1⟩ := (Kn.hd0 hw).facts; refine ⟨_, by (go_simp; (try go_bits); exact Dne.mk _), ?_⟩; repeat (first | with_reducible exact hw | with_reducible apply Kn.put (Upd.here _ _ _)))
    case hz => (intro z hz; cases hz)
    simp only [qz]; refine Zr ?_; refine Wr [0, 0, 0, 0, 0, 0, 1, 0, 0] ?_; refine Zk ?_; apply rg_soft
    case hy => (intro w hw; obtain ⟨hcg1, hfg1⟩ := (Kn.hd0 hw).facts; exact Gy)
    simp only [qz]; apply rg_softb
    case hy => (intro w hw; exact Gy)
    rintro (_ | _) h5 <;> try simp only [qd, ne_eq] at h5
    ·simp only [qz]
     have hk4 := Lib.hid (show (it xs k).kind ≠ 4 by omega)
     clear h5; refine Zm ?_; apply rg_soft_g
     case hg => rfl
     case hy => (intro w hw; exact Gy)
     simp only [qz]; apply rg_soft_g
     case hg => rfl
     case hy => (intro w hw; obtain ⟨hcg1, hfg1⟩ := (Kn.hd0 hw).facts; exact Gy)
     simp only [qz]; apply rg_pureb Rx Kx
     case hargs => exact Ax
     case h => exact fun w hw => placed_any (it xs k) hk4.out n ⟨by omega, by omega⟩ w
     case hz => exact Nz
     rintro (_ | _) h6 <;> try simp only [qd, ne_eq] at h6
     ·simp only [qz]
      apply rg_soft_g
      case hg => rfl
      case hy => (intro w hw; exact Gy)
      simp only [qz]; refine Zk ?_; refine Zr ?_; refine Wm [0] ?_; refine Zr ?_
      refine Er fun w hw => ?_
      (try simp only [qz])
      exact ⟨by rw [show validI n xs = false from validB_false (fun hh => by rw [not_all_it Ox h6] at hh; exact absurd hh.2.2.2 (by decide))], hw.below⟩
     simp only [qz]; apply rg_soft_g
     case hg => rfl
     case hy => (intro w hw; exact Gy)
     simp only [qz]; refine Zk ?_; refine Zr ?_; refine Wr [0, 0] ?_; refine Zk ?_; refine rg_nil ?_; refine ek_sub (List.Sublist.cons _ List.Sublist.slnil) ?_; refine ek_roundS (xs.length - (k + 1)) Ox Kx ?_
     dsimp only [Act.vals, List.map, Array.getD, List.size_toArray, List.length_cons, List.length_nil, Nat.reduceAdd, Nat.reduceLT, ↓reduceDIte, Array.getInternal, List.getElem_toArray, List.getElem_cons_zero, List.getElem_cons_succ]
     exact ⟨k + 1, _, _, _, _, _, _, _, _, _, _, _, _, _, _, by rfl, by rfl, by rfl, by omega, fun j hj => if e : j = k then e ▸ h6 else hc2 j Ox⟩
    refine Zm ?_; refine rg_skip_h Rx Nz ?_; refine Zm ?_; refine Zk ?_; refine Zr ?_; refine Wm [0] ?_; refine Zr ?_
    refine Er fun w hw => ?_
    (try simp only [qz])
    exact ⟨by rw [show validI n xs = false from validB_false (fun h => by rw [not_all_it Ox (fitB_false (fun h => h.1 (wd_four h5)))] at h; exact absurd h.2.2.2 (by decide))], hw.below⟩
   simp only [qz]; refine Zk ?_; refine Zr ?_; refine Wm [0] ?_; refine Zr ?_
   refine Er fun w hw => ?_
   (try simp only [qz])
   exact ⟨by rw [show validI n xs = false from validB_false (fun h => by omega)], hw.below⟩
  simp only [qz]; refine Zk ?_; refine Zk ?_; refine Zr ?_; refine Wm [0] ?_; refine Zr ?_
  refine Er fun w hw => ?_
  (try simp only [qz])
  exact ⟨by rw [show validI n xs = false from validB_false (fun h => by omega)], hw.below⟩
 refine Zm ?_
 refine Zk ?_
 refine Zk ?_
 refine Zr ?_
 refine Wm [0] ?_
 refine Zr ?_
 refine Er fun w hw => ?_
 (try simp only [qz])
 exact ⟨by rw [show validI n xs = false from validB_false (fun h => by omega)], hw.below⟩
theorem turn1_ok (z : Nm) (n : Int) (hz : z.Ok) (gn tn : Nat) (w : World) (hn : Hd w gn tn #[.int .i64 n]) : Calls Tryz.prog 131 #[nmV z, .pointer (some ⟨gn, 0, none⟩)] w fun e w' => e = .returned (nmV (Nm.turn (n % 8).toNat z)) ∧ Below w.heap.size w w' := by
 go_enter Tryz.func131, Tryz.ntmps131
 refine wk_start ?_
 refine wk_seq ?_
 refine Wr [1, 1] ?_
 refine Rgn fun g1 => ?_
 simp only [qz]
 refine Rgn fun g2 => ?_
 simp only [qz]
 refine rg_nil ?_
 refine ek_next ?_
 refine wk_seq ?_
 refine wk_seq ?_
 refine Wr [0, 0, 0] ?_
 refine rf_load rfl rfl rfl UU3 rfl (fun w hw => ((Kn.hdB hw hn (by simp)).cell 0).trans rfl) (Nq ?_)
 apply rg_soft
 case hy => (intro w hw; have hand := and7; exact Gy)
 refine Zx ?_
 refine rg_nil ?_
 refine ek_next ?_
 refine wk_block ?_
 refine wk_loopF [6, 7, 8, 9, 10, 11, 12, 13, 14, 15, 16, 17, 18, 19, 20, 21, 22, 23] (fun mz f s => ∃ (j : Nat) (y : Nm), f 6 = .int .i64 j ∧ s = ((g2, .cells #[.int .i64 0, .int .i64 0, .int .i64 0, .int .i64 0, .int .i64 0] 44) :: ((g1, .cells #[.int .i64 y.a, .int .i64 y.b, .int .i64 y.c, .int .i64 y.d, .int .i64 y.k] 44) :: [])) ∧ mz = 8 - j ∧ (j : Int) ≤ n % 8 ∧ Nm.turn j z = y ∧ y.Ok) ((fun (j : Nat) (y : Nm) => 8 - j) (0) (z)) ?_ Kx ?_
 ·exact ⟨0, z, rfl, rfl, rfl, by omega, rfl, hz⟩
 rintro mz f1 s ⟨j, y, hs1_6, rfl, hn, hc1, hc2, hc3⟩
 simp only [Act.putF, List.foldl_cons, List.foldl_nil, hs1_6, Act.put, Act.eval, qW, Nat.reduceAdd, Bool.not_true, Bool.not_false]
 clear hs1_6
 have hy := Lib.hid hc2
 clear hc2
 have hok := hc3
 obtain ⟨⟨fa0, fa1, fb0, fb1, fc0, fc1, fd0, fd1⟩, fk0, fk1, ff⟩ := hc3
 refine wk_seq ?_
 refine Wr [0] ?_
 refine rfb_lss rfl rfl rfl rfl ?_
 rintro (_ | _) h1 <;> try simp only [qd, ne_eq] at h1
 ·simp only [qz]
  refine rg_nil ?_; refine ek_next ?_; refine wk_seq ?_; refine wk_cond_f rfl ?_; refine wk_exit ?_; refine ek_then_exit ?_; refine ek_then_exit ?_; refine ek_block_exit ?_; refine ek_next ?_; refine wk_seq ?_; refine Wr [0, 1] ?_; refine rf_loadR (n := 5) rfl rfl rfl UU44 rfl Kx (fun w hw => Kn.hd0 (Kn.tl hw)) rfl rfl (Nq ?_); refine rf_storeR (n := 5) rfl rfl Kx rfl rfl (UpdR.here _ _ _ Nl) Nz (Nw ?_); refine rg_nil ?_
  refine ek_next ?_; refine wk_ret ?_; refine ek_ret (fun w hw => ⟨rfl, _, run_results1 rfl rfl (Kn.hd0 hw) UU44 rfl Kx, ?_⟩); (try simp only [qz])
  have e : (n % 8).toNat = j := by omega
  exact ⟨by rw [e, hy.out], hw.below⟩
 simp only [qz]
 refine rg_nil ?_
 refine ek_next ?_
 refine wk_seq ?_
 refine wk_cond_t rfl ?_
 refine wk_skip ?_
 refine ek_next ?_
 refine wk_seq ?_
 refine wk_block ?_
 refine Wr [0, 0, 0, 0, 0, 0, 0, 0, 0, 0, 0, 0, 0, 0, 0, 1] ?_
 refine Fd 3 0 UU44 ?_
 refine Ia 3 1 3 UU42 ?_
 refine rf_load rfl rfl rfl UU3 rfl (fun w hw => (Kn.hd0 (Kn.tl hw)).at rfl) (Nq ?_)
 refine rf_neg rfl rfl rfl (wrap_ok Ox Ox) (Nq ?_)
 refine Fd 3 0 UU44 ?_
 refine Ia 0 1 0 UU42 ?_
 refine rf_load rfl rfl rfl UU3 rfl (fun w hw => (Kn.hd0 (Kn.tl hw)).at rfl) (Nq ?_)
 refine Fd 3 0 UU44 ?_
 refine Ia 1 1 1 UU42 ?_
 refine rf_load rfl rfl rfl UU3 rfl (fun w hw => (Kn.hd0 (Kn.tl hw)).at rfl) (Nq ?_)
 refine Fd 3 0 UU44 ?_
 refine Ia 2 1 2 UU42 ?_
 refine rf_load rfl rfl rfl UU3 rfl (fun w hw => (Kn.hd0 (Kn.tl hw)).at rfl) (Nq ?_)
 refine rf_build (cs := fun a => #[a.eval (.tmp 11), a.eval (.tmp 14), a.eval (.tmp 17), a.eval (.tmp 20)]) rfl rfl Kx (Nq ?_)
 refine Fd 3 0 UU44 ?_
 refine rf_storeR (n := 4) rfl rfl Kx rfl rfl (UpdR.there _ (UpdR.here _ _ _ Nl)) Nz (Nw ?_)
 refine rg_nil ?_
 refine ek_block ?_
 refine ek_next ?_
 refine Wr [0, 0] ?_
 refine rf_add rfl rfl rfl rfl (wrap_ok Ox Ox) (Zx ?_)
 refine rg_nil ?_
 refine ek_roundF (8 - (j + 1)) Ox Kx ?_
 exact ⟨j + 1, _, rfl, Rx, by rfl, by omega, (by rw [← hy.out]; rfl), rot_ok hok⟩
theorem amTurn_ok (z : Nm) (n : Int) (hz : z.Ok) (w : World) : Calls Tryz.prog 98 #[nmV z, .int .i64 n] w fun e w' => e = .returned (.tuple #[nmV (Nm.turn (n % 8).toNat z), .int .i64 0]) ∧ Below w.heap.size w w' := by
 go_enter Tryz.func98, Tryz.ntmps98
 refine wk_start ?_
 refine wk_seq ?_
 refine Wr [1, 1, 1, 0] ?_
 refine Rgn fun g1 => ?_
 simp only [qz]
 refine Rgn fun g2 => ?_
 simp only [qz]
 refine Rgn fun g3 => ?_
 refine Zx ?_
 refine rg_nil ?_
 refine ek_next ?_
 refine wk_seq ?_
 refine Wr [0, 0, 1, 0, 0, 1, 0] ?_
 refine rf_loadR (n := 5) rfl rfl rfl UU44 rfl Kx (fun w hw => Kn.hd0 (Kn.tl (Kn.tl hw))) rfl rfl (Nq ?_)
 refine Zk ?_
 apply rg_pure Rx Kx
 case hargs => exact Ax
 case h => exact fun w hw => amchanged_ok z (Nm.turn (n % 8).toNat z) hz 131 #[.pointer (some ⟨g2, 0, none⟩)] Kx w (fun w' hb => turn1_ok z n hz g2 3 w' ((Kn.hd0 (Kn.tl hw)).call hb))
 case hz => exact Nz
 refine Zx ?_
 refine rf_storeR (n := 5) rfl rfl Kx rfl rfl (UpdR.here _ _ _ Nl) Nz (Nw ?_)
 refine Zx ?_
 refine rg_nil ?_
 refine ek_next ?_
 refine wk_ret ?_
 refine ek_ret (fun w hw => ⟨rfl, _, run_results2 rfl rfl (Kn.hd0 hw) UU44 rfl Kx, ?_⟩)
 (try simp only [qz])
 first | exact ⟨rfl, hw.below⟩ | exact ⟨trivial, hw.below⟩ | exact hw.below
set_option maxHeartbeats 1000000
def ownN (x : It) : Nat := if x.kind = 1 then 1 else 2
def halfN : Nm := ⟨1, 0, 0, 0, 1⟩
def sideN : Nm := ⟨0, 0, 1, 0, 1⟩
def ownL (x : It) : List Nm := if x.kind = 1 then [Nm.turn (x.n % 8).toNat Nm.one] else if x.kind = 3 then [Nm.zero, Nm.one, Nm.one, Nm.zero] else [halfN, sideN, sideN, halfN]
def plcS (N p m : Nat) (L l : List Nm) : Nat → List Nm
  | 0 => l
  | t + 1 => (plcS N p m L l t).set ((p + t / m) * N + p + t % m) (nm L t)
def idM (N : Nat) : List Nm := rL (identR N)
def plcL (N p m : Nat) (L : List Nm) : List Nm := plcS N p m L (idM N) (m * m)
def itL (N : Nat) (x : It) : List Nm := plcL N (x.at_ - 1).toNat (ownN x) (ownL x)
def matS (N : Nat) (xs : List It) : Nat → LR
  | 0 => .ok (idM N)
  | j + 1 => match matS N xs j with
    | .error c => .error c
    | .ok l => mulM N N (itL N (it xs j)) l
def matO (n : Int) (xs : List It) : LR := if itemE n xs = 0 then matS n.toNat xs xs.length else .error (itemE n xs)
theorem plcS_len (N p m : Nat) (L l : List Nm) : ∀ t, (plcS N p m L l t).length = l.length
  | 0 => rfl
  | t + 1 => by rw [plcS, List.length_set, plcS_len N p m L l t]
theorem idM_len {N : Nat} (h1 : 1 ≤ N) (h6 : N ≤ 6) : (idM N).length = N * N := by
 unfold idM identR
 rw [if_pos Ox, Int.toNat_natCast]
 show (rL (gather _ _)).length = _
 have : ∃ l, gather (fun t => idR (t / N) (t % N)) (N * N) = .ok l := ⟨_, gather_pure (fun t => if t / N = t % N then Nm.one else Nm.zero) (N * N)⟩
 obtain ⟨l, hl⟩ := this
 rw [hl]
 exact gather_len hl
theorem matS_err {N : Nat} {xs : List It} {j : Nat} {c : Int} (h : matS N xs j = .error c) : ∀ m, j ≤ m → matS N xs m = .error c := by
  intro m hm
  induction m with
  | zero => obtain rfl : j = 0 := by omega
            exact h
  | succ m ih =>
    rcases (by omega : j = m + 1 ∨ j ≤ m) with rfl | hm
    · exact h
    · simp only [matS, ih hm]
theorem OwnN.openM {u : List Blk} {v : Value} {l : List Nm} (h : OwnN u v l) (hn : 0 < l.length) : ∃ g cap rest, u = [(g, .cells (NmE.flat l ++ rest).toArray 44)] ∧ v = .slice (some ⟨g, 0, none⟩) l.length cap ∧ l.length ≤ cap ∧ cap ≤ maxLen ∧ (NmE.flat l ++ rest).length = cap * 5 := by
 obtain ⟨hl, ⟨rfl, rfl, h0⟩ | ⟨g, cap, cur, rfl, rfl, hc, hm, hs, ht⟩⟩ := h
 ·omega
 refine ⟨g, cap, cur.toList.drop (l.length * 5), ?_, rfl, hc, hm, ?_⟩
 ·rw [← ht, List.take_append_drop]
 rw [← ht, List.take_append_drop]; simpa using hs
theorem OwnN.flM {g n cap : Nat} {l : List Nm} {rest : List Value} (h : l.length = n) (hc : n ≤ cap) (hm : cap ≤ maxLen) (hs : (NmE.flat l ++ rest).length = cap * 5) : OwnN [(g, .cells (NmE.flat l ++ rest).toArray 44)] (.slice (some ⟨g, 0, none⟩) n cap) l := by
 subst h
 have hfl := NmE.flat_len l
 exact ⟨hfl, .inr ⟨g, cap, _, rfl, rfl, hc, hm, by simpa using hs, by simp [← hfl]⟩⟩
theorem OwnN.wholeM {g : Nat} {l : List Nm} (h : l.length ≤ 1000000) : OwnN [(g, .cells (nms l).toArray 44)] (.slice (some ⟨g, 0, none⟩) l.length l.length) l :=
  Own.whole (cur := (nms l).toArray) (by simpa using NmE.flat_len l) (by simp only [maxLen]; omega)
theorem nm_flM (xs : List Nm) (k : Nat) (y : Nm) (rest : List Value) (hk : k < xs.length) : setMany (NmE.flat xs ++ rest).toArray (0 + k * 5) (nmC y) = (NmE.flat (xs.set k y) ++ rest).toArray := fl_set (E := NmE) (rest := rest) hk
theorem nm_szM (xs : List Nm) (k : Nat) (y : Nm) (rest : List Value) (hk : k < xs.length) : 0 + k * 5 + (nmC y).length ≤ (NmE.flat xs ++ rest).toArray.size := fl_size (E := NmE) (rest := rest) (y := y) hk
theorem OwnN.asM {u s : List Blk} {av : Option Addr} {m cv : Nat} {xs : List Nm} {B w : World} {F : List Nat} (h : OwnN u (.slice av m cv) xs) (K : Kn B F (u ++ s) w) : AS w av (nms xs) := by
 obtain ⟨a, cap, e, hA⟩ := h.as K
 cases e
 exact hA
theorem ident_okM {N : Nat} (h1 : 1 ≤ N) (h6 : N ≤ 6) : identR N = .ok (idM N) := by
 unfold idM identR
 rw [if_pos Ox, Int.toNat_natCast]
 have : ∃ l, madeR N idR = .ok l := ⟨_, gather_pure (fun t => if t / N = t % N then Nm.one else Nm.zero) (N * N)⟩
 obtain ⟨l, hl⟩ := this
 rw [hl]
 rfl
theorem own_any (x : It) (w : World) : Calls Tryz.prog 58 #[.agg #[.int .i64 x.kind, .int .i64 x.at_, .int .i64 x.n, .string x.name]] w fun e w' => RetM1 w (ownN x) (ownL x) e w' := by
 go_enter Tryz.func58, Tryz.ntmps58
 refine wk_start ?_
 refine wk_seq ?_
 refine Wr [1, 1] ?_
 refine Rgn fun g1 => ?_
 simp only [qz]
 refine Rgn fun g2 => ?_
 simp only [qz]
 refine Zr ?_
 refine Wr [0, 0, 0, 1, 1, 1, 1] ?_
 refine rf_build (cs := fun a => #[.int .i64 0, .int .i64 0, .int .i64 0, .int .i64 0, .int .i64 0]) rfl rfl Kx (Nq ?_)
 refine rf_build (cs := fun a => #[a.eval (.const (.int .i64 1)), .int .i64 0, .int .i64 0, .int .i64 0]) rfl rfl Kx (Nq ?_)
 refine rf_build (cs := fun a => #[cellAt (a.eval (.tmp 10)) 0, cellAt (a.eval (.tmp 10)) 1, cellAt (a.eval (.tmp 10)) 2, cellAt (a.eval (.tmp 10)) 3, .int .i64 0]) rfl rfl Kx (Nq ?_)
 refine Rgn fun g3 => ?_
 simp only [qz]
 refine Rgn fun g4 => ?_
 simp only [qz]
 refine rf_storeR (n := 5) rfl rfl Kx rfl rfl (UpdR.there _ (UpdR.here _ _ _ Nl)) Nz (Nw ?_)
 refine rf_storeR (n := 5) rfl rfl Kx rfl rfl (UpdR.here _ _ _ Nl) Nz (Nw ?_)
 refine Zr ?_
 refine Wr [0, 0] ?_
 refine Fd 0 0 UU72 ?_
 refine rf_load rfl rfl rfl UU3 rfl (fun w hw => (Kn.hd0 (Kn.tl (Kn.tl (Kn.tl hw)))).at rfl) (Nq ?_)
 refine Zr ?_
 refine Wr [0, 0] ?_
 refine rfb_eql rfl rfl rfl rfl ?_
 rintro (_ | _) h1 <;> try simp only [qd, ne_eq] at h1
 ·refine Zx ?_
  refine Zr ?_; refine Wr [0, 0] ?_; refine rfb_eql rfl rfl rfl rfl ?_
  rintro (_ | _) h2 <;> try simp only [qd, ne_eq] at h2
  ·refine Zx ?_
   refine Zr ?_; refine Wr [0, 0, 0, 0, 1, 1, 1, 1] ?_; refine rf_build (cs := fun a => #[a.eval (.const (.int .i64 1)), .int .i64 0, .int .i64 0, .int .i64 0]) rfl rfl Kx (Nq ?_); refine rf_build (cs := fun a => #[cellAt (a.eval (.tmp 34)) 0, cellAt (a.eval (.tmp 34)) 1, cellAt (a.eval (.tmp 34)) 2, cellAt (a.eval (.tmp 34)) 3, a.eval (.const (.int .i64 1))]) rfl rfl Kx (Nq ?_); refine rf_build (cs := fun a => #[a.eval (.const (.int .i64 0)), a.eval (.const (.int .i64 0)), a.eval (.const (.int .i64 1)), .int .i64 0]) rfl rfl Kx (Nq ?_)
   refine rf_build (cs := fun a => #[cellAt (a.eval (.tmp 36)) 0, cellAt (a.eval (.tmp 36)) 1, cellAt (a.eval (.tmp 36)) 2, cellAt (a.eval (.tmp 36)) 3, a.eval (.const (.int .i64 1))]) rfl rfl Kx (Nq ?_)
   refine Rgn fun g5 => ?_
   simp only [qz]
   refine Rgn fun g6 => ?_
   simp only [qz]; refine rf_storeR (n := 5) rfl rfl Kx rfl rfl (UpdR.there _ (UpdR.here _ _ _ Nl)) Nz (Nw ?_); refine rf_storeR (n := 5) rfl rfl Kx rfl rfl (UpdR.here _ _ _ Nl) Nz (Nw ?_); refine Zr ?_; refine Wr [0, 0, 0, 0, 1, 0, 1] ?_; refine rf_loadR (n := 5) rfl rfl rfl UU44 rfl Kx (fun w hw => Kn.hd0 (Kn.tl hw)) rfl rfl (Nq ?_); refine rf_loadR (n := 5) rfl rfl rfl UU44 rfl Kx (fun w hw => Kn.hd0 hw) rfl rfl (Nq ?_)
   refine rf_loadR (n := 5) rfl rfl rfl UU44 rfl Kx (fun w hw => Kn.hd0 hw) rfl rfl (Nq ?_); refine rf_loadR (n := 5) rfl rfl rfl UU44 rfl Kx (fun w hw => Kn.hd0 (Kn.tl hw)) rfl rfl (Nq ?_)
   refine rg_newS (cs := ?_) (ty := ?_) (n := 4) (c := 4) Rx (fun w => ?_) Nz (fun g7 => ?_); rotate_left 2
   focus (go_simp; rfl)
   simp only [qz]; refine rf_build (cs := fun a => #[a.eval (.const (.int .i64 2)), a.eval (.tmp 42)]) rfl rfl Kx (Nq ?_); refine rf_storeR (n := 2) rfl rfl Kx rfl rfl (UpdR.there _ (UpdR.there _ (UpdR.there _ (UpdR.there _ (UpdR.there _ (UpdR.here _ _ _ Nl)))))) Nz (Nw ?_); refine Zr ?_; refine ek_ret (fun w hw => ⟨rfl, _, run_results1 rfl rfl (Kn.hd0 (Kn.tl (Kn.tl (Kn.tl (Kn.tl (Kn.tl hw)))))) UU28 rfl Kx, ?_⟩)
   (try simp only [qz])
   have e1 : ownN x = 2 := by (unfold ownN; rw [if_neg Ox])
   have e2 : ownL x = [halfN, sideN, sideN, halfN] := by (unfold ownL; rw [if_neg Ox, if_neg Ox])
   rw [e1, e2]
   exact ⟨_, _, rfl, OwnN.wholeM (g := g7) (l := [halfN, sideN, sideN, halfN]) (by simp), hw.made (sc _ (sk _ (sk _ (sk _ (sk _ (sk _ (sk _ sn)))))))⟩
  refine Zx ?_; refine Zr ?_; refine Wr [0, 0, 0, 0, 1, 0, 1] ?_; refine rf_loadR (n := 5) rfl rfl rfl UU44 rfl Kx (fun w hw => Kn.hd0 (Kn.tl hw)) rfl rfl (Nq ?_); refine rf_loadR (n := 5) rfl rfl rfl UU44 rfl Kx (fun w hw => Kn.hd0 hw) rfl rfl (Nq ?_); refine rf_loadR (n := 5) rfl rfl rfl UU44 rfl Kx (fun w hw => Kn.hd0 hw) rfl rfl (Nq ?_); refine rf_loadR (n := 5) rfl rfl rfl UU44 rfl Kx (fun w hw => Kn.hd0 (Kn.tl hw)) rfl rfl (Nq ?_)
  refine rg_newS (cs := ?_) (ty := ?_) (n := 4) (c := 4) Rx (fun w => ?_) Nz (fun g8 => ?_); rotate_left 2
  focus (go_simp; rfl)
  simp only [qz]; refine rf_build (cs := fun a => #[a.eval (.const (.int .i64 2)), a.eval (.tmp 32)]) rfl rfl Kx (Nq ?_); refine rf_storeR (n := 2) rfl rfl Kx rfl rfl (UpdR.there _ (UpdR.there _ (UpdR.there _ (UpdR.here _ _ _ Nl)))) Nz (Nw ?_); refine Zr ?_; refine ek_ret (fun w hw => ⟨rfl, _, run_results1 rfl rfl (Kn.hd0 (Kn.tl (Kn.tl (Kn.tl hw)))) UU28 rfl Kx, ?_⟩); (try simp only [qz])
  have e1 : ownN x = 2 := by (unfold ownN; rw [if_neg Ox])
  have e2 : ownL x = [Nm.zero, Nm.one, Nm.one, Nm.zero] := by (unfold ownL; rw [if_neg Ox, if_pos Ox])
  rw [e1, e2]
  exact ⟨_, _, rfl, OwnN.wholeM (g := g8) (l := [Nm.zero, Nm.one, Nm.one, Nm.zero]) (by simp), hw.made (sc _ (sk _ (sk _ (sk _ (sk _ sn)))))⟩
 refine Zx ?_
 refine Zr ?_
 refine Wr [0, 0, 0, 1, 0, 0, 0, 1, 1, 0] ?_
 refine rf_loadR (n := 5) rfl rfl rfl UU44 rfl Kx (fun w hw => Kn.hd0 hw) rfl rfl (Nq ?_)
 refine Fd 0 2 UU72 ?_
 refine rf_load rfl rfl rfl UU3 rfl (fun w hw => (Kn.hd0 (Kn.tl (Kn.tl (Kn.tl hw)))).at rfl) (Nq ?_)
 apply rg_pure Rx Kx
 case hargs => exact Ax
 case h => exact fun w hw => amTurn_ok Nm.one x.n one_ok w
 case hz => exact Nz
 refine Zx ?_
 refine Rgn fun g9 => ?_
 simp only [qz]
 refine rf_storeR (n := 5) rfl rfl Kx rfl rfl (UpdR.here _ _ _ Nl) Nz (Nw ?_)
 refine Zx ?_
 refine Zr ?_
 refine Wr [0, 1, 0, 1] ?_
 refine rf_loadR (n := 5) rfl rfl rfl UU44 rfl Kx (fun w hw => Kn.hd0 hw) rfl rfl (Nq ?_)
 refine rg_newS (cs := ?_) (ty := ?_) (n := 1) (c := 1) Rx (fun w => ?_) Nz (fun g10 => ?_); rotate_left 2
 focus (go_simp; rfl)
 simp only [qz]
 refine rf_build (cs := fun a => #[a.eval (.const (.int .i64 1)), a.eval (.tmp 24)]) rfl rfl Kx (Nq ?_)
 refine rf_storeR (n := 2) rfl rfl Kx rfl rfl (UpdR.there _ (UpdR.there _ (UpdR.there _ (UpdR.there _ (UpdR.here _ _ _ Nl))))) Nz (Nw ?_)
 refine Zr ?_
 refine ek_ret (fun w hw => ⟨rfl, _, run_results1 rfl rfl (Kn.hd0 (Kn.tl (Kn.tl (Kn.tl (Kn.tl hw))))) UU28 rfl Kx, ?_⟩)
 (try simp only [qz])
 have e1 : ownN x = 1 := by (unfold ownN; rw [if_pos Ox])
 have e2 : ownL x = [Nm.turn (x.n % 8).toNat Nm.one] := by (unfold ownL; rw [if_pos Ox])
 rw [e1, e2]
 exact ⟨_, _, rfl, OwnN.wholeM (g := g10) (l := [Nm.turn (x.n % 8).toNat Nm.one]) (by simp), hw.made (sc _ (sk _ (sk _ (sk _ (sk _ (sk _ sn))))))⟩
theorem mplaced_any (N p m : Nat) (L : List Nm) (a : Option Addr) (c : Nat) (hN1 : 1 ≤ N) (hN6 : N ≤ 6) (hm1 : 1 ≤ m) (hpm : p + m ≤ N) (hL : Hid (L.length = m * m)) (w : World) (hA : AS w a (nms L)) : Calls Tryz.prog 57 #[.int .i64 N, .int .i64 ((p : Int) + 1), .agg #[.int .i64 m, .slice a L.length c]] w fun e w' => RetM1 w N (plcL N p m L) e w' := by
 obtain ⟨b, off, rfl, hlt, hcell⟩ := AS.openN hA (by rw [hL.out]; exact Nat.mul_pos Ox Ox)
 have hz1 : 1 ≤ N * N := Nat.mul_pos Ox Ox
 have hidl := idM_len (N := N) Ox hN6
 obtain ⟨z0, hz0⟩ : ∃ r, idM N = r := ⟨_, rfl⟩
 go_enter Tryz.func57, Tryz.ntmps57
 refine wk_start ?_
 refine wk_seq ?_
 refine Wr [1, 1] ?_
 refine Rgn fun g1 => ?_
 simp only [qz]
 refine Rgn fun g2 => ?_
 simp only [qz]
 refine Zr ?_
 refine Wx [0, 1, 0, 0, 0, 1, 1, 0] ?_
 apply (rg_retM (n := (N : Int)) (zs := z0) (c := 0)) Rx Kx
 case hargs => exact Ax
 case h => exact fun w hw => by have := identity_any N w; rw [ident_okM Ox hN6, Int.toNat_natCast] at this; rw [hz0] at this; exact this
 case hz => exact Nz
 intro va3 vc3 u3 hO3
 refine Zx ?_
 refine Rgn fun g4 => ?_
 simp only [qz]
 refine rf_storeR (n := 2) rfl rfl Kx rfl rfl (UpdR.here _ _ _ Nl) Nz (Nw ?_)
 refine Zx ?_
 refine Zr ?_
 have hzl : z0.length = N * N := by rw [← hz0]; exact hidl
 rw [hzl]
 clear hidl
 replace hzl := Lib.hid hzl
 replace hz0 := Lib.hid hz0
 refine Wr [0, 0, 0] ?_
 refine Fd 0 0 UU28 ?_
 refine rf_load rfl rfl rfl UU3 rfl (fun w hw => (Kn.hd0 (Kn.tl (Kn.tlU (Kn.tl hw)))).at rfl) (Zx ?_)
 refine Zr ?_
 refine wk_loopF [9, 10, 18, 19, 20, 21, 22, 23, 24, 25, 26, 27, 28, 29, 30, 31, 32, 33, 34, 35, 36, 37, 38, 39, 40, 41, 42, 43, 44, 45, 46, 47, 48, 49, 50, 51] (fun mz f s => ∃ (i : Nat) (u : List Blk), f 18 = .int .i64 i ∧ s = ((g4, .cells #[.int .i64 N, .slice va3 (N * N) vc3] 28) :: (u ++ ((g2, .cells #[.int .i64 0, .slice none 0 0] 28) :: ((g1, .cells #[.int .i64 m, .slice (some ⟨b, off, none⟩) L.length c] 28) :: [])))) ∧ mz = m - i ∧ i ≤ m ∧ OwnN u (.slice va3 (N * N) vc3) (plcS N p m L z0 (i * m))) ((fun (i : Nat) (u : List Blk) => m - i) (0) (u3)) ?_ Kx ?_
 ·exact ⟨0, u3, rfl, rfl, rfl, by omega, by rw [Nat.zero_mul]; show OwnN u3 (.slice va3 (N * N) vc3) z0; rw [← hzl.out]; exact hO3⟩
 rintro mz f1 s ⟨i, u, hs1_18, rfl, hn, hd1, hd2⟩
 simp only [Act.putF, List.foldl_cons, List.foldl_nil, hs1_18, Act.put, Act.eval, qW, Nat.reduceAdd, Bool.not_true, Bool.not_false]
 clear hs1_18
 refine wk_seq ?_
 refine Wr [0] ?_
 refine rfb_lss rfl rfl rfl rfl ?_
 rintro (_ | _) h1 <;> try simp only [qd, ne_eq] at h1
 ·simp only [qz]
  refine Zr ?_; refine Wr [0, 1] ?_; refine rf_loadR (n := 2) rfl rfl rfl UU28 rfl Kx (fun w hw => Kn.hd0 hw) rfl rfl (Nq ?_); refine rf_storeR (n := 2) rfl rfl Kx rfl rfl (UpdR.there _ (UpdR.app _ (UpdR.here _ _ _ Nl))) Nz (Nw ?_); refine Zr ?_; refine ek_ret (fun w hw => ⟨rfl, _, run_results1 rfl rfl (Kn.hd0 (Kn.tlU (Kn.tl hw))) UU28 rfl Kx, ?_⟩); (try simp only [qz])
  obtain rfl : i = m := by omega
  have e1 : plcL N p i L = plcS N p i L z0 (i * i) := by (unfold plcL; rw [hz0.out])
  rw [e1]
  exact ⟨_, u, rfl, hd2, hw.made (List.Sublist.cons _ (List.sublist_append_left _ _))⟩
 simp only [qz]
 refine Zr ?_
 refine Wx [0, 0] ?_
 refine Zr ?_
 refine Wr [0, 0, 0] ?_
 refine Fd 0 0 UU28 ?_
 refine rf_load rfl rfl rfl UU3 rfl (fun w hw => (Kn.hd0 (Kn.tl (Kn.tlU (Kn.tl hw)))).at rfl) (Zx ?_)
 refine Zr ?_
 refine wk_loopF [10, 23, 24, 25, 26, 27, 28, 29, 30, 31, 32, 33, 34, 35, 36, 37, 38, 39, 40, 41, 42, 43, 44, 45, 46, 47, 48, 49, 50] (fun mz f s => ∃ (k : Nat) (u2 : List Blk), f 23 = .int .i64 k ∧ s = ((g4, .cells #[.int .i64 N, .slice va3 (N * N) vc3] 28) :: (u2 ++ ((g2, .cells #[.int .i64 0, .slice none 0 0] 28) :: ((g1, .cells #[.int .i64 m, .slice (some ⟨b, off, none⟩) L.length c] 28) :: [])))) ∧ mz = m - k ∧ k ≤ m ∧ OwnN u2 (.slice va3 (N * N) vc3) (plcS N p m L z0 (i * m + k))) ((fun (k : Nat) (u2 : List Blk) => m - k) (0) (u)) ?_ Kx ?_
 ·exact ⟨0, u, rfl, rfl, rfl, by omega, hd2⟩
 rintro mz f2 s ⟨k, u2, hs2_23, rfl, hn, he1, he2⟩
 simp only [Act.putF, List.foldl_cons, List.foldl_nil, hs2_23, Act.put, Act.eval, qW, Nat.reduceAdd, Bool.not_true, Bool.not_false]
 clear hs2_23
 refine wk_seq ?_
 refine Wr [0] ?_
 refine rfb_lss rfl rfl rfl rfl ?_
 rintro (_ | _) h2 <;> try simp only [qd, ne_eq] at h2
 ·simp only [qz]
  refine Zr ?_; refine Wr [0, 0] ?_; refine rf_add rfl rfl rfl rfl (wrap_ok Ox Ox) (Zx ?_); refine rg_nil ?_
  obtain rfl : m = k := by omega
  refine ek_roundF (m - (i + 1)) Ox Kx ?_
  exact ⟨i + 1, u2, rfl, by rfl, by rfl, Ox, (by rw [show (i + 1) * m = i * m + m by rw [Nat.add_mul, Nat.one_mul]]; exact he2)⟩
 simp only [qz]
 refine Zr ?_
 refine Wx [0, 0] ?_
 refine rg_nil (ek_next ?_)
 have hpl := plcS_len N p m L z0 (i * m + k)
 obtain ⟨go, capo, resto, hu, hvo, hco1, hco2, hco3⟩ := he2.openM (by rw [hpl, hzl.out]; omega)
 subst hu
 rw [hpl, hzl.out] at hvo hco1
 cases hvo
 have hix := ix_lt (N := N) (show p + i < N by omega) (show p + k < N by omega)
 have hmx := ix_lt (N := m) (show i < m by omega) (show k < m by omega)
 have hLm := hL.out
 have hm36 := Nat.mul_le_mul (show m ≤ 6 by omega) (show m ≤ 6 by omega)
 have hN36 := Nat.mul_le_mul hN6 hN6
 have hcst : (((p + i : Nat) : Int) * N) = (((p + i) * N : Nat) : Int) := (Int.natCast_mul _ _).symm
 have hcst2 : ((i : Int) * m) = ((i * m : Nat) : Int) := (Int.natCast_mul _ _).symm
 obtain ⟨ix, hixe⟩ : ∃ r, (p + i) * N + p + k = r := ⟨_, rfl⟩
 have hixl : ix < N * N := by omega
 obtain ⟨jx, hjxe⟩ : ∃ r, i * m + k = r := ⟨_, rfl⟩
 have hjxl : jx < L.length := by omega
 simp only [List.cons_append, List.nil_append]
 refine wk_draws_m (hz1 := (sc _ (sk _ (sc _ (sc _ sn))))) [(0, 0), (1, 0), (2, 0), (3, 0), (4, 0), (5, 0), (6, 0), (7, 0), (8, 0), (9, 0), (10, 0), (11, 0), (12, 0), (13, 0), (14, 0), (15, 0), (16, 0), (17, 0), (18, 0), (19, 0), (20, 0), (21, 0), (22, 0), (23, 0), (24, 2)] 24 Kx Kx (fun c d v a w h => by cases d <;> exact h) ?_
 simp only [List.map_cons, List.map_nil, List.getD_cons_zero, List.getD_cons_succ]
 refine Fd 0 1 UU28 ?_
 refine rf_load rfl rfl rfl UU26 rfl (fun w hw => (Kn.hd0 hw).at rfl) (Zx ?_)
 refine rf_sub (r := (p : Int)) rfl rfl rfl rfl (wrap_eqB Ox Ox Ox) (Zx ?_)
 refine rf_add (r := ((p + i : Nat) : Int)) rfl rfl rfl rfl (wrap_eqB Ox Ox Ox) (Zx ?_)
 refine rf_mul (r := (((p + i) * N : Nat) : Int)) rfl rfl rfl rfl (wrap_eqB hcst Ox Ox) (Zx ?_)
 refine rf_add (r := ((p + i) * N : Nat) + ((p : Int) + 1)) rfl rfl rfl rfl (wrap_eqB Ox Ox Ox) (Nq ?_)
 refine rf_sub (r := (((p + i) * N + p : Nat) : Int)) rfl rfl rfl rfl (wrap_eqB Ox Ox Ox) (Zx ?_)
 refine rf_add (r := ((ix : Nat) : Int)) rfl rfl rfl rfl (wrap_eqB Ox Ox Ox) (Nq ?_)
 refine Fd 0 1 UU28 ?_
 refine rf_load rfl rfl rfl UU26 rfl (fun w hw => (Kn.hd0 (Kn.tl (Kn.tl (Kn.tl hw)))).at rfl) (Zx ?_)
 refine Fd 0 0 UU28 ?_
 refine rf_load rfl rfl rfl UU3 rfl (fun w hw => (Kn.hd0 (Kn.tl (Kn.tl (Kn.tl hw)))).at rfl) (Nq ?_)
 refine rf_mul (r := ((i * m : Nat) : Int)) rfl rfl rfl rfl (wrap_eqB hcst2 Ox Ox) (Zx ?_)
 refine rf_add (r := ((jx : Nat) : Int)) rfl rfl rfl rfl (wrap_eqB Ox Ox Ox) (Nq ?_)
 refine rf_indexS (n := jx) (sz := 5) (j := off + jx * 5) rfl rfl rfl rfl UU26 Kx Ox Ox rfl (Nq ?_)
 refine rf_loadC (n := 5) (vs := nmC (nm L jx)) rfl rfl rfl UU44 rfl Kx rfl (fun w hw => atN_range ((hcell jx hjxl).kn hw hlt (by simp))) (Nq ?_)
 refine rf_indexS (n := ix) (sz := 5) (j := 0 + ix * 5) rfl rfl rfl rfl UU26 Kx Ox Ox rfl (Nq ?_)
 have hsz := nm_szM (plcS N p m L z0 jx) ix (nm L jx) resto (by rw [← hjxe, hpl, hzl.out]; exact hixl)
 rw [hjxe]
 refine rf_storeRM (n := 5) (vs := nmC (nm L jx)) rfl rfl Kx rfl rfl (UpdR.there _ (UpdR.here _ _ _ hsz)) (sc _ (sk _ (sc _ (sc _ sn)))) ?_
 have hstep : (plcS N p m L z0 jx).set ix (nm L jx) = plcS N p m L z0 (i * m + (k + 1)) := by
  rw [← Nat.add_assoc, plcS, hjxe, ← hixe, ← hjxe, ix_div (show k < m by omega), ix_mod (show k < m by omega)]
 rw [nm_flM _ _ _ _ (by rw [← hjxe, hpl, hzl.out]; exact hixl), hstep]
 have hON := OwnN.flM (g := go) (n := N * N) (l := plcS N p m L z0 (i * m + (k + 1))) (rest := resto) (by rw [plcS_len, hzl.out]) hco1 hco2 (by rw [List.length_append, El.flat_len, plcS_len, hzl.out] at hco3 ⊢; exact hco3)
 simp only [qz]
 refine Zr ?_
 refine Wr [0, 0] ?_
 refine rf_add rfl rfl rfl rfl (wrap_ok Ox Ox) (Zx ?_)
 refine rg_nil ?_
 refine ek_roundF (m - (k + 1)) Ox Kx ?_
 exact ⟨k + 1, [(go, _)], rfl, by rfl, by rfl, Ox, hON⟩
theorem mplaced_int (N p m : Nat) (z : Int) (L : List Nm) (a : Option Addr) (c : Nat) (hz : z = p + 1) (hN1 : 1 ≤ N) (hN6 : N ≤ 6) (hm1 : 1 ≤ m) (hpm : p + m ≤ N) (hL : Hid (L.length = m * m)) (w : World) (hA : AS w a (nms L)) : Calls Tryz.prog 57 #[.int .i64 N, .int .i64 z, .agg #[.int .i64 m, .slice a L.length c]] w fun e w' => RetM1 w N (plcL N p m L) e w' := by
 subst hz
 exact mplaced_any N p m L a c hN1 hN6 hm1 hpm hL w hA
theorem fit_own {N : Nat} {x : It} (h : fitB N x = true) : 1 ≤ x.at_ ∧ (x.at_ - 1).toNat + ownN x ≤ N ∧ 1 ≤ ownN x ∧ ownN x ≤ 2 ∧ x.at_ = ((x.at_ - 1).toNat : Int) + 1 := by
 unfold fitB at h
 rw [decide_eq_true_eq] at h
 obtain ⟨h1, h2, h3⟩ := h
 unfold wd at h1 h3
 unfold ownN
 by_cases hk : x.kind = 1
 ·rw [if_pos hk] at h1 h3 ⊢
  split at h1
  ·next hn => rw [if_pos hn] at h3; omega
  exact absurd rfl h1
 rw [if_neg hk] at h1 h3 ⊢
 split at h1
 ·next hn =>
  rw [if_pos hn] at h3
  split at h1
  ·next hm => rw [if_pos hm] at h3; omega
  exact absurd rfl h1
 exact absurd rfl h1
theorem itemE_zero {n : Int} {xs : List It} (h : itemE n xs = 0) : validI n xs = true := by
 unfold itemE at h
 split at h
 ·split at h
  ·assumption
  cases h
 cases h
theorem ownL_len (x : It) : (ownL x).length = ownN x * ownN x := by
 unfold ownL ownN
 by_cases hk : x.kind = 1
 ·rw [if_pos hk, if_pos hk]; rfl
 rw [if_neg hk, if_neg hk]
 split <;> rfl
theorem itL_len {N : Nat} (h1 : 1 ≤ N) (h6 : N ≤ 6) (x : It) : (itL N x).length = N * N := by
 unfold itL plcL
 rw [plcS_len, idM_len h1 h6]
theorem mulM_code {n m : Int} {xs ys : List Nm} {c : Int} (h : mulM n m xs ys = .error c) : c ≠ 0 := by
 unfold mulM at h
 split at h
 ·split at h
  ·obtain ⟨i, hi, he⟩ := gather_err_mem h
   have := prodsR_code he
   omega
  cases h; decide
 cases h; decide
theorem matS_code {N : Nat} {xs : List It} : ∀ {j : Nat} {c : Int}, matS N xs j = .error c → c ≠ 0
  | 0, c, h => by cases h
  | j + 1, c, h => by
    simp only [matS] at h
    split at h
    · next c' hc => cases h; exact matS_code hc
    · exact mulM_code h
theorem rC_ok {r : LR} (hc : ∀ c, r = .error c → c ≠ 0) (h : rC r = 0) : ∃ l, r = .ok l := by
 cases r with
 | ok l => exact ⟨l, rfl⟩
 | error c => exact absurd h (hc c rfl)
theorem matS_len {N : Nat} {xs : List It} (h1 : 1 ≤ N) (h6 : N ≤ 6) : ∀ {j : Nat} {l : List Nm}, matS N xs j = .ok l → l.length = N * N
  | 0, l, h => by cases h; exact idM_len h1 h6
  | j + 1, l, h => by
    simp only [matS] at h
    split at h
    · cases h
    · unfold mulM at h
      split at h
      · rw [if_pos rfl, Int.toNat_natCast] at h
        exact made_len h
      · cases h
theorem itAt_range {w : World} {b off : Nat} {i : It} (h : ItAt w b off i) : w.rangeAt b off [.int .i64 i.kind, .int .i64 i.at_, .int .i64 i.n, .string i.name] := by
 intro j v hj
 match j, hj with
 | 0, hj => injection hj with hj; subst hj; exact h.c0
 | 1, hj => injection hj with hj; subst hj; exact h.c1
 | 2, hj => injection hj with hj; subst hj; exact h.c2
 | 3, hj => injection hj with hj; subst hj; exact h.c3
 | n + 4, hj => cases hj
theorem run_lookup_noneM (s : ByteArray) (w : World) : (Instr.lookup 126 (.map none) (.string s) true).run Tryz.prog w = .ok (.tuple #[.agg #[.int .i64 0, .slice none 0 0], .bool false]) w := by
 kernel_rfl
section
variable {R : Option Nat} {ops : Array Oper} {Q : Exit → Act → World → Prop} {B : World} {F : List Nat} {s0 : Option (List Blk × List Blk)}
variable {l : List (Oper × Nat)} {a : Act} {s : List Blk} {d : Option Tmp} {t : TypeId} {p : String} {af : Array Edge} {gd : Option (Nat × Bool)} {m : Nat}
theorem rf_lookM {x y : Operand} {nm_ : ByteArray} (hm : soft03 m = true) (hg : Region.wanted ⟨d, .lookup 126 x y true, t, p, af, gd⟩ (yielded ops a.tmps) = true)
    (hx : a.eval x = .map none) (hy : a.eval y = .string nm_) (h : Rg R Tryz.prog ops Q B F s0 l (a.put d (.tuple #[.agg #[.int .i64 0, .slice none 0 0], .bool false])) s) : Rg R Tryz.prog ops Q B F s0 ((⟨d, .lookup 126 x y true, t, p, af, gd⟩, m) :: l) a s := by
  refine rg_any hm hg (fun w => ?_) h
  unfold Yld
  have := run_lookup_noneM nm_ w
  simp [execOp, hx, hy, this]
end
theorem mcheck_any (n : Int) (xs : List It) (a : Option Addr) (c : Nat) (w : World) (hA : AS w a (its xs)) : Calls Tryz.prog 31 #[.int .i64 n, .slice a xs.length c] w fun e w' => e = .returned (.int .i64 (itemE n xs)) ∧ Below w.heap.size w w' := by
 go_enter Tryz.func31, Tryz.ntmps31
 refine wk_start ?_
 refine wk_seq ?_
 refine Wx [0] ?_
 refine Zr ?_
 refine Wx [0, 1, 0, 0] ?_
 apply rg_pureb Rx Kx
 case hargs => exact Ax
 case h => exact fun w hw => between_mesh 1 n 6 w
 case hz => exact Nz
 rintro (_ | _) h1 <;> try simp only [qd, ne_eq] at h1
 ·simp only [qz]
  have hbt := betB_false h1
  clear h1; refine Zx ?_; refine Zr ?_; refine Wx [0] ?_; refine Zr ?_
  refine Er fun w hw => ?_
  (try simp only [qz])
  exact ⟨by unfold itemE; rw [if_neg hbt], hw.below⟩
 simp only [qz]
 have hbt := betB_true h1
 clear h1
 refine Zx ?_
 refine Zr ?_
 refine Wx [0, 0, 1, 0, 0] ?_
 apply rg_pureb Rx Kx
 case hargs => exact Ax
 case h => exact fun w hw => mvalidI_any xs a c n w (hA.kn0 hw)
 case hz => exact Nz
 rintro (_ | _) h2 <;> try simp only [qd, ne_eq] at h2
 ·refine Zx ?_
  refine Zr ?_; refine Wx [0] ?_; refine Zr ?_
  refine Er fun w hw => ?_
  (try simp only [qz])
  exact ⟨by unfold itemE; rw [if_pos hbt, if_neg (by rw [h2]; decide)], hw.below⟩
 refine Zx ?_
 refine Zr ?_
 refine Wx [0] ?_
 refine Zr ?_
 refine Er fun w hw => ?_
 (try simp only [qz])
 exact ⟨by unfold itemE; rw [if_pos hbt, if_pos h2], hw.below⟩
theorem made_items (N : Nat) (xs : List It) (a : Option Addr) (c : Nat) (hN1 : 1 ≤ N) (hN6 : N ≤ 6) (hlx : xs.length ≤ 5000) (hfit : ∀ j, j < xs.length → fitB N (it xs j) = true) (w : World) (hA : AS w a (its xs)) : Calls Tryz.prog 32 #[.int .i64 N, .slice a xs.length c, .map none] w fun e w' => RetM w (rN N (matS N xs xs.length)) (rL (matS N xs xs.length)) (rC (matS N xs xs.length)) e w' := by
 go_enter Tryz.func32, Tryz.ntmps32
 refine wk_start ?_
 refine wk_seq ?_
 refine Wr [1, 0] ?_
 refine Rgn fun g1 => ?_
 refine Zx ?_
 refine Zr ?_
 refine Wx [0, 1, 0, 0, 0, 1, 1, 0] ?_
 apply (rg_retM (n := (N : Int)) (zs := idM N) (c := 0)) Rx Kx
 case hargs => exact Ax
 case h => exact fun w hw => by have := identity_any N w; rw [ident_okM hN1 hN6, Int.toNat_natCast] at this; exact this
 case hz => exact Nz
 intro va2 vc2 u2 hO2
 refine Zx ?_
 refine Rgn fun g3 => ?_
 simp only [qz]
 refine rf_storeR (n := 2) rfl rfl Kx rfl rfl (UpdR.here _ _ _ Nl) Nz (Nw ?_)
 refine Zx ?_
 refine Zr ?_
 refine Wx [0, 0, 0] ?_
 refine rf_len rfl rfl rfl UU22 (Zx ?_)
 refine Zr ?_
 refine wk_loopF [7, 9, 11, 12, 13, 21, 22, 23, 24, 25, 26, 27, 28, 29, 30, 31, 32, 33, 34, 35, 36, 37, 38, 39, 40, 41, 42, 43, 44, 45, 46, 47, 48, 49, 50] (fun mz f s => ∃ (i : Nat) (r : LR) (va : Option Addr) (vc : Nat) (u : List Blk), f 9 = .int .i64 (rC r) ∧ f 21 = .int .i64 i ∧ s = ((g3, .cells #[.int .i64 (rN N r), .slice va (rL r).length vc] 28) :: (u ++ ((g1, .cells #[.int .i64 0, .slice none 0 0] 28) :: []))) ∧ mz = xs.length - i ∧ i ≤ xs.length ∧ Hid (matS N xs i = r) ∧ OwnN u (.slice va (rL r).length vc) (rL r)) ((fun (i : Nat) (r : LR) (va : Option Addr) (vc : Nat) (u : List Blk) => xs.length - i) (0) (.ok (idM N)) (va2) (vc2) (u2)) ?_ Kx ?_
 ·exact ⟨0, .ok (idM N), va2, vc2, u2, rfl, rfl, rfl, rfl, by omega, Lib.hid rfl, hO2⟩
 rintro mz f1 s ⟨i, r, va, vc, u, hs1_9, hs1_21, rfl, hn, hd1, hd2, hd3⟩
 simp only [Act.putF, List.foldl_cons, List.foldl_nil, hs1_9, hs1_21, Act.put, Act.eval, qW, Nat.reduceAdd, Bool.not_true, Bool.not_false]
 clear hs1_9 hs1_21
 refine wk_seq ?_
 refine Wr [0] ?_
 refine rfb_lss rfl rfl rfl rfl ?_
 rintro (_ | _) h1 <;> try simp only [qd, ne_eq] at h1
 ·simp only [qz]
  refine Zr ?_; refine Wr [0, 0, 1, 0] ?_; refine rf_loadR (n := 2) rfl rfl rfl UU28 rfl Kx (fun w hw => Kn.hd0 hw) rfl rfl (Zx ?_); refine rf_storeR (n := 2) rfl rfl Kx rfl rfl (UpdR.there _ (UpdR.app _ (UpdR.here _ _ _ Nl))) Nz (Nw ?_); refine Zx ?_; refine Zr ?_; refine ek_ret (fun w hw => ⟨rfl, _, run_results2 rfl rfl (Kn.hd0 (Kn.tlU (Kn.tl hw))) UU28 rfl Kx, ?_⟩); (try simp only [qz])
  obtain rfl : i = xs.length := by omega
  rw [hd2.out]
  exact ⟨_, u, rfl, hd3, hw.made (List.Sublist.cons _ (List.sublist_append_left _ _))⟩
 simp only [qz]
 refine Zr ?_
 obtain ⟨b, off, rfl, hlt, hcell⟩ := AS.openT hA Ox
 obtain ⟨x, hx⟩ : ∃ x, it xs i = x := ⟨_, rfl⟩
 have hit := hcell i Ox
 have hfx := hfit i Ox
 rw [hx] at hit hfx
 have hfo := fit_own hfx
 replace hx := Lib.hid hx
 refine Wr [0, 0, 1, 1] ?_
 refine rf_indexS (n := i) (sz := 4) (j := off + i * 4) rfl rfl rfl rfl UU22 Kx Ox Ox rfl (Nq ?_)
 refine rf_loadC (n := 4) (vs := itC x) rfl rfl rfl UU72 rfl Kx rfl (fun w hw => itAt_range (hit.kn hw hlt (by simp))) (Nq ?_)
 refine Rgn fun g4 => ?_
 simp only [qz]
 refine rf_storeR (n := 4) rfl rfl Kx rfl rfl (UpdR.here _ _ _ Nl) Nz (Nw ?_)
 refine Zr ?_
 refine Wx [0, 0] ?_
 refine rfb_neq rfl rfl rfl rfl ?_
 rintro (_ | _) h2 <;> try simp only [qd, ne_eq] at h2
 ·simp only [qz]
  obtain ⟨l, hr⟩ := rC_ok (fun c h => matS_code (hd2.out.trans h)) (by simpa using h2)
  subst hr
  clear h2
  have hll := matS_len hN1 hN6 hd2.out
  have hil := itL_len hN1 hN6 x
  have hN36 := Nat.mul_le_mul hN6 hN6
  simp only [rN, rL, rC] at hd3 ⊢; refine Zr ?_; refine Wx [0, 0, 0, 0, 0, 0, 0, 1, 1, 0] ?_; refine Fd 0 3 UU72 ?_; refine rf_load rfl rfl rfl Tryz.underlying9 rfl (fun w hw => (Kn.hd0 hw).at rfl) (Nq ?_); refine rf_lookM rfl rfl rfl rfl (Zx ?_)
  refine Rgn fun g5 => ?_
  simp only [qz]; refine rf_storeR (n := 2) rfl rfl Kx rfl rfl (UpdR.here _ _ _ Nl) Nz (Nw ?_); refine Zx ?_; refine Zr ?_; refine Wx [0, 0] ?_; refine Zr ?_; refine Wr [0, 1, 1] ?_; refine rf_loadR (n := 4) rfl rfl rfl UU72 rfl Kx (fun w hw => Kn.hd0 (Kn.tl hw)) rfl rfl (Nq ?_); apply rg_retM1 Rx Kx
  case hargs => exact Ax
  case h => exact fun w hw => own_any x w
  case hz => exact Nz
  intro va6 vc6 u6 hO6; simp only [qz]; refine rf_storeR (n := 2) rfl rfl Kx rfl rfl (UpdR.app _ (UpdR.here _ _ _ Nl)) Nz (Nw ?_); refine rg_nil (ek_next ?_); refine wk_draws_m (hz1 := (Sa (sc _ (sc _ (sk _ (Sa (sc _ sn) _)))) _)) [(0, 0), (1, 0), (2, 0), (3, 0), (5, 0), (4, 1), (6, 1), (7, 0), (8, 0), (9, 3), (10, 2), (11, 0)] 10 Kx Kx (fun c d v a w h => by cases d <;> exact h) ?_; simp only [List.map_cons, List.map_nil, List.getD_cons_zero, List.getD_cons_succ]
  refine Zx ?_; refine Fd 0 1 UU72 ?_; refine rf_load rfl rfl rfl UU3 rfl (fun w hw => (Kn.hd0 (Kn.tl (Kn.tlU hw))).at rfl) (Nq ?_); refine rf_loadR (n := 2) rfl rfl rfl UU28 rfl Kx (fun w hw => Kn.hd0 (Kn.tlU hw)) rfl rfl (Nq ?_); refine rf_loadR (n := 2) rfl rfl rfl UU28 rfl Kx (fun w hw => Kn.hd0 (Kn.tl (Kn.tl (Kn.tlU hw)))) rfl rfl (Nq ?_)
  apply (rg_retM1 (n := (N : Int)) (zs := itL N x)) Rx Kx
  case hargs => exact Ax
  case h => exact fun w hw => mplaced_int N (x.at_ - 1).toNat (ownN x) x.at_ (ownL x) va6 vc6 hfo.2.2.2.2 hN1 hN6 hfo.2.2.1 hfo.2.1 (Lib.hid (ownL_len x)) w (hO6.asM (hw.perm (List.Perm.refl _)))
  case hz => exact (fun _ h => by cases h; exact (Sa (sc _ (sc _ (sc _ (Sa (sc _ sn) _)))) _))
  intro va7 vc7 u7 hO7; simp only [qz]
  apply (rg_retM (n := rN N (mulM N N (itL N x) l)) (zs := rL (mulM N N (itL N x) l)) (c := rC (mulM N N (itL N x) l))) Rx Kx
  case hargs => exact Ax
  case h => exact fun w hw => by have := mul_any N N (itL N x) l va7 va vc7 vc Ox Ox w (hO7.asM (hw.perm (List.Perm.refl _))) (hd3.asM (hw.perm ((((((((((((List.Perm.refl _).cons _).trans (List.perm_middle (l₁ := u)).symm).cons _).trans (List.perm_middle (l₁ := u)).symm).cons _).trans (List.perm_middle (l₁ := u)).symm).append_left _).trans (List.perm_append_comm_assoc u6 u _)).append_left _).trans (List.perm_append_comm_assoc u7 u _)).trans ((List.Perm.refl _).append_left _)))); rw [Int.toNat_natCast] at this; exact this
  case hz => exact (fun _ h => by cases h; exact ((Sa (sc _ (sc _ (sc _ (Sa (sc _ sn) _)))) _).trans (Sr _ _)))
  intro va8 vc8 u8 hO8; refine Zx ?_; refine rf_storeRM (n := 2) rfl rfl Kx rfl rfl (UpdR.app _ (UpdR.app _ (UpdR.app _ (UpdR.there _ (UpdR.there _ (UpdR.here _ _ _ Nl)))))) (((Sa (sc _ (sc _ (sk _ (Sa (sc _ sn) _)))) _).trans (Sr _ _)).trans (Sr _ _)) (Nw ?_); refine Zx ?_; refine Zr ?_; refine Wr [0, 0] ?_; refine rf_add rfl rfl rfl rfl (wrap_ok Ox Ox) (Zx ?_); refine rg_nil ?_; refine ek_sub (Sa (((sk _ (sk _ (sc _ ((sc _ sn).trans (Sr _ _))))).trans (Sr _ _)).trans (Sr _ _)) _) ?_
  refine ek_perm ((((List.Perm.refl _).append_left _).trans (List.perm_middle (l₁ := u8))).trans ((List.Perm.refl _).cons _)) ?_; refine ek_roundF (xs.length - (i + 1)) Ox Kx ?_
  exact ⟨i + 1, mulM N N (itL N x) l, va8, vc8, u8, rfl, rfl, by rfl, by rfl, Ox, (Lib.hid (by rw [matS, hd2.out, hx.out])), hO8⟩
 simp only [qz]
 refine Zr ?_
 refine Wr [0, 0, 1, 0] ?_
 refine rf_build (cs := fun a => #[.int .i64 0, .slice none 0 0]) rfl rfl Kx (Zx ?_)
 refine rf_storeR (n := 2) rfl rfl Kx rfl rfl (UpdR.there _ (UpdR.there _ (UpdR.app _ (UpdR.here _ _ _ Nl)))) Nz (Nw ?_)
 refine Zx ?_
 refine Zr ?_
 refine ek_ret (fun w hw => ⟨rfl, _, run_results2 rfl rfl (Kn.hd0 (Kn.tlU (Kn.tl (Kn.tl hw)))) UU28 rfl Kx, ?_⟩)
 (try simp only [qz])
 cases r with
 | ok l => exact absurd rfl h2
 | error cc =>
  rw [matS_err hd2.out xs.length Ox]
  exact ⟨.slice none 0 0, [], rfl, OwnG.nil, .nil hw.below⟩
theorem matrixOf_any (n : Int) (xs : List It) (a : Option Addr) (c : Nat) (w : World) (hA : AS w a (its xs)) : Calls Tryz.prog 7 #[.int .i64 n, .slice a xs.length c] w fun e w' => RetM w (rN n.toNat (matO n xs)) (rL (matO n xs)) (rC (matO n xs)) e w' := by
 go_enter Tryz.func7, Tryz.ntmps7
 refine wk_start ?_
 refine wk_seq ?_
 refine Wr [1, 0] ?_
 refine Rgn fun g1 => ?_
 refine Zx ?_
 refine Zr ?_
 refine Wx [0, 0, 1, 0] ?_
 apply rg_pure Rx Kx
 case hargs => exact Ax
 case h => exact fun w hw => mcheck_any n xs a c w (hA.kn0 hw)
 case hz => exact Nz
 refine Zx ?_
 refine Zr ?_
 refine Wx [0, 0] ?_
 refine rfb_neq rfl rfl rfl rfl ?_
 rintro (_ | _) h1 <;> try simp only [qd, ne_eq] at h1
 ·simp only [qz]
  have hie : itemE n xs = 0 := by simpa using h1
  refine Zr ?_; refine Wx [0, 0, 1, 0, 0, 1, 0] ?_
  obtain ⟨hn1, hn6, hl5, hft⟩ := validB_all (n := n) (xs := xs) (itemE_zero hie)
  obtain ⟨N, rfl⟩ : ∃ N : Nat, n = N := ⟨n.toNat, by omega⟩
  have hmo : matO (N : Int) xs = matS N xs xs.length := by (unfold matO; rw [if_pos hie, Int.toNat_natCast])
  replace hmo := Lib.hid hmo
  apply rg_retM Rx Kx
  case hargs => exact Ax
  case h => exact fun w hw => made_items N xs a c Ox Ox hl5 hft w (hA.kn0 hw)
  case hz => exact Nz
  intro va2 vc2 u2 hO2; refine Zx ?_; refine rf_storeR (n := 2) rfl rfl Kx rfl rfl (UpdR.app _ (UpdR.here _ _ _ Nl)) Nz (Nw ?_); refine Zx ?_; refine Zr ?_; refine ek_ret (fun w hw => ⟨rfl, _, run_results2 rfl rfl (Kn.hd0 (Kn.tlU hw)) UU28 rfl Kx, ?_⟩); (try simp only [qz]); rw [hmo.out, Int.toNat_natCast]
  exact ⟨_, u2, rfl, hO2, hw.made (List.sublist_append_left _ _)⟩
 simp only [qz]
 have hie : itemE n xs ≠ 0 := by simpa using h1
 refine Zr ?_
 refine Wr [0, 0, 1, 0] ?_
 refine rf_build (cs := fun a => #[.int .i64 0, .slice none 0 0]) rfl rfl Kx (Zx ?_)
 refine rf_storeR (n := 2) rfl rfl Kx rfl rfl (UpdR.here _ _ _ Nl) Nz (Nw ?_)
 refine Zx ?_
 refine Zr ?_
 refine ek_ret (fun w hw => ⟨rfl, _, run_results2 rfl rfl (Kn.hd0 hw) UU28 rfl Kx, ?_⟩)
 (try simp only [qz])
 have hmo : matO n xs = .error (itemE n xs) := by (unfold matO; rw [if_neg hie])
 rw [hmo]
 exact ⟨.slice none 0 0, [], rfl, OwnG.nil, .nil hw.below⟩
end Go.Proofs.YthjjkajjpejcdaaGreat
