/- Texts in one: PgQ, PgS, PgB, Wb6, Wb7, MtW, AmCj, MtD, EqA, Pg1, PgC, AmHv, Pg2, Pg3, Pg4. -/
import Derived.Test.YthjjkajjpejcdaaGreatLTpF
namespace Go.Proofs.YthjjkajjpejcdaaGreat
set_option linter.all false
set_option maxRecDepth 100000
set_option maxHeartbeats 1000000
def turnM : Nat → Nm → Nm
  | 0, z => z
  | n + 1, z => (turnM n z).rot
def mtR : NR → Nm
  | .ok z => z
  | .error _ => Nm.zero
def cX (x y : Nm) : Nm := mtR ((mtR (x.add y.rot.rot)).halve 1)
def cY (x y : Nm) : Nm := mtR ((mtR (x.rot.rot.add y)).halve 1)
theorem mk_val {x z : Nm} (hz : z.Ok) (hx : 0 ≤ x.k) (hv : x.val = z.val) : x.mk' = .ok z := by
 have h := nf_eq hx hz.k0 (eqv_val hx hz.k0 hv)
 have h2 : z.nf = z := nf_self hz.nf
 unfold Nm.mk'
 rw [h, h2, if_pos (small_yes hz.k1 hz.fit)]
theorem ok_mk {z : Nm} (hf : z.Nf) (h0 : 0 ≤ z.k) (h1 : z.k ≤ 40) (h : (pwQ z.val).a ≤ 2) : z.Ok := ⟨fit_pw h0 h1 h, h0, h1, hf.imp Ox id⟩
theorem rot2_val (z : Nm) : z.rot.rot.val = imQ * z.val := by rw [rot_val, rot_val, ← Q4.mul_assoc, om_im]
theorem pw_hh (v : Q4) : (pwQ v).a = 2 * (pwQ (hhQ * v)).a := by
 rw [pw_mul]
 have e1 : pwQ hhQ = ⟨1 / 2, 0, 0, 0⟩ := by
  unfold pwQ
  apply Q4.ext' <;> simp only [hhQ, Q4.ma, Q4.mb, Q4.mc, Q4.md, Q4.ca, Q4.cb, Q4.cc, Q4.cd] <;> grind
 rw [e1, Q4.ma]
 grind
theorem half_ok {s u : Nm} (hs0 : 0 ≤ s.k) (hs : s.k ≤ 40) (hu : u.Ok) (hv : u.val = hhQ * s.val) (hp : (pwQ u.val).a ≤ 1) : mtR ((mtR s.mk').halve 1) = u := by
 have h1 := nf_k hs0
 have v1 : s.nf.val = s.val := val_eqv h1.1 hs0 (nf_eqv s)
 have o1 : s.nf.Ok := ok_mk (nf_form s) h1.1 Ox (by rw [v1, pw_hh, ← hv]; grind)
 have e1 : s.mk' = .ok s.nf := mk_val o1 hs0 v1.symm
 rw [e1]
 show mtR (s.nf.halve 1) = u
 have e2 : s.nf.halve 1 = .ok u := by
  unfold Nm.halve
  obtain ⟨K, hK⟩ : ∃ K : Nat, s.nf.k = K := ⟨s.nf.k.toNat, by omega⟩
  refine mk_val hu (by show 0 ≤ s.nf.k + 1; omega) ?_; rw [hv, ← v1]
  generalize s.nf = q at *
  obtain ⟨a, b, c, d, k⟩ := q
  simp only at hK
  subst hK
  exact val_hh a b c d K
 rw [e2]; rfl
theorem addR_le {x y : Nm} {E : Int} (hx : x.k ≤ E) (hy : y.k ≤ E) : (x.addR y).k ≤ E := by simp only [Nm.addR]; omega
theorem cX_val {x y u : Nm} (hx : x.Ok) (hy : y.Ok) (hu : u.Ok) (hv : u.val = hhQ * (x.val + imQ * y.val)) (hp : (pwQ u.val).a ≤ 1) : cX x y = u := by
 unfold cX Nm.add
 refine half_ok (addR_k hx.k0) (addR_le hx.k1 hy.k1) hu ?_ hp
 rw [val_addR (x := x) (y := y.rot.rot) hx.k0 hy.k0, rot2_val]
 exact hv
theorem cY_val {x y u : Nm} (hx : x.Ok) (hy : y.Ok) (hu : u.Ok) (hv : u.val = hhQ * (imQ * x.val + y.val)) (hp : (pwQ u.val).a ≤ 1) : cY x y = u := by
 unfold cY Nm.add
 refine half_ok (addR_k (show 0 ≤ x.k from hx.k0)) (addR_le hx.k1 hy.k1) hu ?_ hp
 rw [val_addR (x := x.rot.rot) (y := y) hx.k0 hy.k0, rot2_val]
 exact hv
theorem turnM_k (z : Nm) : ∀ n, (turnM n z).k = z.k
  | 0 => rfl
  | n + 1 => turnM_k z n
theorem turnM_val (z : Nm) : ∀ n, (turnM n z).val = omP n * z.val
  | 0 => by show z.val = 1 * z.val; rw [Q4.one_mul]
  | n + 1 => by show (turnM n z).rot.val = omQ * omP n * z.val; rw [rot_val, turnM_val z n, Q4.mul_assoc]
theorem turnM_ok {z : Nm} (h : z.Ok) : ∀ n, (turnM n z).Ok
  | 0 => h
  | n + 1 => rot_ok (turnM_ok h n)
theorem dexp_rot (z : Nm) : dexp z.rot = dexp z := by
 unfold dexp
 have e : sumE z.rot % 2 = sumE z % 2 := by unfold sumE Nm.rot; simp only; omega
 have e2 : z.rot.k = z.k := rfl
 rw [e, e2]
theorem dexp_turn (z : Nm) : ∀ n, dexp (turnM n z) = dexp z
  | 0 => rfl
  | n + 1 => by show dexp (turnM n z).rot = _; rw [dexp_rot, dexp_turn z n]
abbrev Zt := Nat → Nat → Nm
def vt (z : Zt) : Tb := fun i k => (z i k).val
def phZ (p n : Nat) (z : Zt) : Zt := fun i k => if i = p then turnM n (z i k) else z i k
def crZ (p : Nat) (z : Zt) : Zt := fun i k => z (swq p i) k
def cpZ (p : Nat) (z : Zt) : Zt := fun i k => if i = p then cX (z p k) (z (p + 1) k) else if i = p + 1 then cY (z p k) (z (p + 1) k) else z i k
theorem ph_vt (p n : Nat) (z : Zt) : vt (phZ p n z) = phQ p (omP n) (vt z) := by
 funext i k
 unfold vt phZ phQ
 split
 ·exact turnM_val _ _
 ·rfl
def sumM : Nat → (Nat → Nat) → Nat
  | 0, _ => 0
  | n + 1, f => sumM n f + f n
theorem sumM_congr {f g : Nat → Nat} : ∀ {n : Nat}, (∀ i, i < n → f i = g i) → sumM n f = sumM n g
  | 0, _ => rfl
  | n + 1, h => by simp only [sumM]; rw [sumM_congr fun i hi => h i Ox, h n Ox]
theorem sumM_two {p d : Nat} {f g : Nat → Nat} (h : ∀ i, i ≠ p → i ≠ p + 1 → f i = g i) (h2 : f p + f (p + 1) + d ≤ g p + g (p + 1)) : ∀ n, p + 1 < n → sumM n f + d ≤ sumM n g
  | 0, hn => absurd hn Ox
  | n + 1, hn => by
    by_cases e : n = p + 1
    · subst e
      simp only [sumM]; rw [sumM_congr fun i hi => h i Ox Ox]
      omega
    · simp only [sumM]
      have := sumM_two h h2 n Ox
      have := h n Ox Ox
      omega
theorem sumM_le {f : Nat → Nat} {M : Nat} : ∀ {n : Nat}, (∀ i, i < n → f i ≤ M) → sumM n f ≤ n * M
  | 0, _ => Nat.zero_le _
  | n + 1, h => by
    simp only [sumM]
    have := sumM_le fun i (hi : i < n) => h i Ox
    have := h n Ox
    rw [Nat.succ_mul]
    omega
structure PI (N col : Nat) (z : Zt) : Prop where
  ok : ∀ i k, i < N → k < N → (z i k).Ok
  un : UnC N (vt z)
  idc : ∀ i c, i < N → c < col → c < N → (z i c).val = dl i c
def Bnd (N col : Nat) (B : Int) (z : Zt) : Prop := (B ≤ 40 ∧ ∀ i k, col ≤ i → i < N → k < N → (z i k).k + dexp (z i col) ≤ B) ∨ N ≤ col + 2
def muZ (N col : Nat) (z : Zt) : Nat := sumM N fun i => dexp (z i col)
theorem dl_ne {i k : Nat} (h : i ≠ k) : dl i k = 0 := if_neg h
theorem dl_self (i : Nat) : dl i i = 1 := if_pos rfl
theorem PI.low {N col : Nat} {z : Zt} (h : PI N col z) {i k : Nat} (hi : i < col) (hiN : i < N) (hk : k < N) : (z i k).val = dl i k := by
 have h1 := h.un i k hiN hk
 have e : sumQ N (fun j => Q4.conj (vt z j i) * vt z j k) = sumQ N (fun j => dl i j * vt z j k) := sumQ_congr fun j hj => by
  show Q4.conj (z j i).val * _ = _
  rw [h.idc j i hj hi hiN, dl_conj, dl_comm]
 rw [e, sumQ_dl _ hiN] at h1
 exact h1
theorem val0 {z : Nm} (h : z.Ok) (hv : z.val = 0) : z = Nm.zero := val_ok h zero_ok (by rw [hv, val_zero])
theorem PI.zero {N col : Nat} {z : Zt} (h : PI N col z) {i k : Nat} (hi : i < N) (hk : k < N) (hc : i < col ∨ k < col) (hne : i ≠ k) : z i k = Nm.zero := by
 refine val0 (h.ok i k hi hk) ?_
 rcases hc with hc | hc
 ·rw [h.low hc hi hk, dl_ne hne]
 ·rw [h.idc i k hi hc hk, dl_ne hne]
theorem swq_p (p : Nat) : swq p p = p + 1 := if_pos rfl
theorem swq_q (p : Nat) : swq p (p + 1) = p := by unfold swq; rw [if_neg Ox, if_pos rfl]
theorem swq_o {p i : Nat} (h1 : i ≠ p) (h2 : i ≠ p + 1) : swq p i = i := by unfold swq; rw [if_neg h1, if_neg h2]
theorem swq_lt {N p i : Nat} (hp : p + 1 < N) (hi : i < N) : swq p i < N := by unfold swq; split; omega; split <;> omega
theorem swq_ge {col p i : Nat} (hp : col ≤ p) (hi : col ≤ i) : col ≤ swq p i := by unfold swq; split; omega; split <;> omega
theorem PI.cross {N col p : Nat} {z : Zt} {B : Int} (h : PI N col z) (hb : Bnd N col B z) (hp : col ≤ p) (hpN : p + 1 < N) :
    PI N col (crZ p z) ∧ Bnd N col B (crZ p z) ∧ muZ N col (crZ p z) ≤ muZ N col z := by
  refine ⟨⟨fun i k hi hk => h.ok _ k (swq_lt hpN hi) hk, cr_un hpN h.un, fun i c hi hc hcN => ?_⟩, ?_, ?_⟩
  · show (z (swq p i) c).val = _
    rw [h.idc _ c (swq_lt hpN hi) hc hcN]
    by_cases h1 : i = p
    · subst h1; rw [swq_p, dl_ne Ox, dl_ne Ox]
    · by_cases h2 : i = p + 1
      · subst h2; rw [swq_q, dl_ne Ox, dl_ne Ox]
      · rw [swq_o h1 h2]
  · refine hb.imp (fun ⟨b1, b2⟩ => ⟨b1, fun i k hi hiN hk => ?_⟩) id
    exact b2 (swq p i) k (swq_ge hp hi) (swq_lt hpN hiN) hk
  · have := sumM_two (p := p) (d := 0) (f := fun i => dexp (crZ p z i col)) (g := fun i => dexp (z i col)) (fun i h1 h2 => by show dexp (z (swq p i) col) = _; rw [swq_o h1 h2]) (by
      show dexp (z (swq p p) col) + dexp (z (swq p (p + 1)) col) + 0 ≤ _
      rw [swq_p, swq_q]; omega) N hpN
    exact this
theorem PI.phase {N col p n : Nat} {z : Zt} {B : Int} (h : PI N col z) (hb : Bnd N col B z) (hp : col ≤ p) (hpN : p < N) :
    PI N col (phZ p n z) ∧ Bnd N col B (phZ p n z) ∧ muZ N col (phZ p n z) ≤ muZ N col z := by
  have hd : ∀ i, dexp (phZ p n z i col) = dexp (z i col) := fun i => by unfold phZ; split; exact dexp_turn _ _; rfl
  have hk' : ∀ i k, (phZ p n z i k).k = (z i k).k := fun i k => by unfold phZ; split; exact turnM_k _ _; rfl
  refine ⟨⟨fun i k hi hk => ?_, by rw [ph_vt]; exact ph_un (omP_unit n) h.un, fun i c hi hc hcN => ?_⟩, ?_, ?_⟩
  · unfold phZ; split
    · exact turnM_ok (h.ok i k hi hk) n
    · exact h.ok i k hi hk
  · show vt (phZ p n z) i c = _
    rw [ph_vt]
    unfold phQ
    split
    · rename_i e
      subst e
      show _ * (z i c).val = _
      rw [h.idc i c hi hc hcN, dl_ne Ox, Q4.mul_zero]
    · exact h.idc i c hi hc hcN
  · refine hb.imp (fun ⟨b1, b2⟩ => ⟨b1, fun i k hi hiN hk => ?_⟩) id; rw [hd, hk']
    exact b2 i k hi hiN hk
  · unfold muZ
    rw [sumM_congr fun i _ => hd i]
    omega
theorem two_rows {a : Nat} {m : Tb} (h : UnC (a + 2) m) (hl : ∀ i k, i < a → k < a + 2 → m i k = dl i k) : pwQ (m a (a + 1)) = pwQ (m (a + 1) a) ∧ pwQ (m (a + 1) (a + 1)) = pwQ (m a a) := by
 have key : ∀ p q, a ≤ p → p < a + 2 → q < a + 2 → Q4.conj (m a p) * m a q + Q4.conj (m (a + 1) p) * m (a + 1) q = dl p q := fun p q hp hp2 hq => by
  have h1 := h p q hp2 hq
  have e : sumQ a (fun k => Q4.conj (m k p) * m k q) = 0 := by
   rw [sumQ_congr (g := fun _ => 0) fun k hk => by rw [hl k p hk hp2, dl_ne Ox, Q4.conj_zero, Q4.zero_mul], sumQ_zero]
  simp only [sumQ] at h1; rw [e, Q4.zero_add] at h1
  exact h1
 have k1 := key a a Ox Ox Ox
 have k2 := key (a + 1) (a + 1) Ox Ox Ox
 have k3 := key a (a + 1) Ox Ox Ox
 rw [dl_self] at k1 k2
 rw [dl_ne Ox] at k3
 obtain ⟨r1, r2⟩ := two_pw (p := m a a) (s := m (a + 1) a) (q := m a (a + 1)) (t := m (a + 1) (a + 1)) k1 k2 k3
 exact ⟨r2, r1.symm⟩
theorem nf_nf {t : Nm} (h0 : 0 ≤ t.k) : t.nf.Nf ∧ 0 ≤ t.nf.k ∧ t.nf.k ≤ t.k ∧ t.nf.val = t.val := by
 have h1 := nf_k h0
 exact ⟨nf_form t, h1.1, h1.2, val_eqv h1.1 h0 (nf_eqv t)⟩
theorem PI.couple {N col a K : Nat} {z : Zt} {B : Int} (h : PI N col z) (hb : Bnd N col B z) (ha : col ≤ a) (haN : a + 1 < N)
    (hK : (z a col).k = K) (hd : dexp (z (a + 1) col) = dexp (z a col))
    (h1 : ∃ t : Nm, 0 ≤ t.k ∧ t.val = hhQ * ((z a col).val + imQ * (z (a + 1) col).val) ∧ dexp t.nf + 1 ≤ dexp (z a col) ∧ t.k ≤ K)
    (h2 : ∃ t : Nm, 0 ≤ t.k ∧ t.val = hhQ * (imQ * (z a col).val + (z (a + 1) col).val) ∧ dexp t.nf + 1 ≤ dexp (z a col) ∧ t.k ≤ K) :
    PI N col (cpZ a z) ∧ Bnd N col B (cpZ a z) ∧ muZ N col (cpZ a z) + 2 ≤ muZ N col z ∧ ∀ i k, i < N → k < N → vt (cpZ a z) i k = cpQ a (vt z) i k := by
  have hcN : col < N := by omega
  have un := cp_un haN h.un
  have hK40 : K ≤ 40 := by have := (h.ok a col Ox hcN).k1; omega
  have ex : ∀ i, i = a ∨ i = a + 1 → ∃ t : Nm, 0 ≤ t.k ∧ t.val = cpQ a (vt z) i col ∧ dexp t.nf + 1 ≤ dexp (z a col) ∧ t.k ≤ K := by
    intro i hi
    rcases hi with rfl | rfl
    · have e : cpQ i (vt z) i col = hhQ * ((z i col).val + imQ * (z (i + 1) col).val) := if_pos rfl
      rw [e]; exact h1
    · have e : cpQ a (vt z) (a + 1) col = hhQ * (imQ * (z a col).val + (z (a + 1) col).val) := by unfold cpQ; rw [if_neg Ox, if_pos rfl]; rfl
      rw [e]; exact h2
  have low : ∀ i k, i < col → k < N → cpQ a (vt z) i k = dl i k := fun i k hi hk => by
    unfold cpQ; rw [if_neg Ox, if_neg Ox]; exact h.low hi Ox hk
  have zro : ∀ i k, i = a ∨ i = a + 1 → k < col → cpQ a (vt z) i k = 0 := fun i k hi hk => by
    have z1 : (z a k).val = 0 := by rw [h.idc a k Ox hk Ox, dl_ne Ox]
    have z2 : (z (a + 1) k).val = 0 := by rw [h.idc (a + 1) k Ox hk Ox, dl_ne Ox]
    unfold cpQ vt
    rw [z1, z2, Q4.mul_zero, Q4.add_zero, Q4.mul_zero]
    rcases hi with rfl | rfl
    · rw [if_pos rfl]
    · rw [if_neg Ox, if_pos rfl]
  -- the new numbers
  have new : ∀ i k, i = a ∨ i = a + 1 → k < N → ∃ u : Nm, u.Ok ∧ u.val = cpQ a (vt z) i k ∧ ∀ E : Int, (z a k).k ≤ E → (z (a + 1) k).k ≤ E → u.k ≤ E + 1 := by
    intro i k hi hk
    have pw := un_pw un (i := i) Ox hk
    have inq : ∀ E : Nat, (z a k).k ≤ E → (z (a + 1) k).k ≤ E → InQ (E + 1) (cpQ a (vt z) i k) := fun E e1 e2 => by
      have i1 := in_le (h.ok a k Ox hk).k0 e1
      have i2 := in_le (h.ok (a + 1) k Ox hk).k0 e2
      rcases hi with rfl | rfl
      · have e : cpQ i (vt z) i k = hhQ * ((z i k).val + imQ * (z (i + 1) k).val) := if_pos rfl
        rw [e]; exact (i1.add i2.im).hh
      · have e : cpQ a (vt z) (a + 1) k = hhQ * (imQ * (z a k).val + (z (a + 1) k).val) := by unfold cpQ; rw [if_neg Ox, if_pos rfl]; rfl
        rw [e]; exact (i1.im.add i2).hh
    obtain ⟨u, uf, u0, -, uv⟩ := nf_in (inq 40 (h.ok a k Ox hk).k1 (h.ok (a + 1) k Ox hk).k1)
    have ule : ∀ E : Int, (z a k).k ≤ E → (z (a + 1) k).k ≤ E → u.k ≤ E + 1 := fun E e1 e2 => by
      have k0 := (h.ok a k Ox hk).k0
      have := le_in uf u0 (by rw [uv]; exact inq E.toNat Ox Ox)
      omega
    refine ⟨u, ok_mk uf u0 ?_ (by rw [uv]; grind), uv, ule⟩
    rcases hb with ⟨b1, b2⟩ | hN
    · have c1 := b2 a k ha Ox hk
      have c2 := b2 (a + 1) k Ox haN hk
      obtain ⟨t, -, -, td, -⟩ := h1
      have := ule (B - dexp (z a col)) Ox Ox
      omega
    · obtain rfl : col = a := by omega
      obtain rfl : N = col + 2 := by omega
      rcases (by omega : k < col ∨ k = col ∨ k = col + 1) with hk1 | rfl | rfl
      · have := nf_val uf u0 (zero_ok.nf) zero_ok.k0 (by rw [uv, zro i k hi hk1, val_zero])
        rw [this]; decide
      · obtain ⟨t, t0, tv, -, tk⟩ := ex i hi
        obtain ⟨nf1, nf2, nf3, nf4⟩ := nf_nf t0
        have := nf_val uf u0 nf1 nf2 (by rw [uv, nf4, tv])
        rw [this]; omega
      · have tw := two_rows un low
        have go : ∀ j, j = col ∨ j = col + 1 → pwQ (cpQ col (vt z) i (col + 1)) = pwQ (cpQ col (vt z) j col) → u.k ≤ 40 := fun j hj he => by
          obtain ⟨t, t0, tv, -, tk⟩ := ex j hj
          obtain ⟨nf1, nf2, nf3, nf4⟩ := nf_nf t0
          have := pw_kle uf u0 nf1 nf2 (by rw [uv, nf4, tv]; exact he)
          omega
        rcases hi with rfl | rfl
        · exact go (i + 1) (.inr rfl) tw.1
        · exact go col (.inl rfl) tw.2
  -- the table
  have val : ∀ i k, i < N → k < N → (cpZ a z i k).Ok ∧ vt (cpZ a z) i k = cpQ a (vt z) i k := by
    intro i k hi hk
    by_cases e1 : i = a
    · subst e1
      obtain ⟨u, uo, uv, -⟩ := new i k (.inl rfl) hk
      have pw := un_pw un (i := i) Ox hk
      have e : cpZ i z i k = u := by
        have e' : cpQ i (vt z) i k = hhQ * ((z i k).val + imQ * (z (i + 1) k).val) := if_pos rfl
        show (if i = i then _ else _) = _
        rw [if_pos rfl]
        exact cX_val (h.ok i k hi hk) (h.ok _ k haN hk) uo (uv.trans e') (by rw [uv]; exact pw)
      refine ⟨by rw [e]; exact uo, ?_⟩
      show (cpZ i z i k).val = _
      rw [e, uv]
    · by_cases e2 : i = a + 1
      · subst e2
        obtain ⟨u, uo, uv, -⟩ := new (a + 1) k (.inr rfl) hk
        have pw := un_pw un (i := a + 1) Ox hk
        have e : cpZ a z (a + 1) k = u := by
          have e' : cpQ a (vt z) (a + 1) k = hhQ * (imQ * (z a k).val + (z (a + 1) k).val) := by unfold cpQ; rw [if_neg Ox, if_pos rfl]; rfl
          unfold cpZ
          rw [if_neg Ox, if_pos rfl]
          exact cY_val (h.ok a k Ox hk) (h.ok _ k haN hk) uo (uv.trans e') (by rw [uv]; exact pw)
        refine ⟨by rw [e]; exact uo, ?_⟩
        show (cpZ a z (a + 1) k).val = _
        rw [e, uv]
      · have e : cpZ a z i k = z i k := by unfold cpZ; rw [if_neg e1, if_neg e2]
        refine ⟨by rw [e]; exact h.ok i k hi hk, ?_⟩
        show (cpZ a z i k).val = cpQ a (vt z) i k
        rw [e]
        unfold cpQ
        rw [if_neg e1, if_neg e2]; rfl
  have dn : ∀ i, i = a ∨ i = a + 1 → dexp (cpZ a z i col) + 1 ≤ dexp (z a col) := fun i hi => by
    obtain ⟨t, t0, tv, td, -⟩ := ex i hi
    obtain ⟨nf1, nf2, nf3, nf4⟩ := nf_nf t0
    have v := val i col Ox hcN
    have := nf_val v.1.nf v.1.k0 nf1 nf2 (by rw [nf4, tv]; exact v.2)
    rw [this]; exact td
  refine ⟨⟨fun i k hi hk => (val i k hi hk).1, ?_, fun i c hi hc hcN => ?_⟩, ?_, ?_, fun i k hi hk => (val i k hi hk).2⟩
  · intro i j hi hj; rw [← un i j hi hj]
    exact sumQ_congr fun k hk => by rw [(val k i hk hi).2, (val k j hk hj).2]
  · show vt (cpZ a z) i c = _
    rw [(val i c hi hcN).2]
    rcases (by omega : (i = a ∨ i = a + 1) ∨ (i ≠ a ∧ i ≠ a + 1)) with e | ⟨e1, e2⟩
    · rw [zro i c e hc, dl_ne Ox]
    · unfold cpQ
      rw [if_neg e1, if_neg e2]
      exact h.idc i c hi hc hcN
  · refine hb.imp (fun ⟨b1, b2⟩ => ⟨b1, fun i k hi hiN hk => ?_⟩) id
    rcases (by omega : (i = a ∨ i = a + 1) ∨ (i ≠ a ∧ i ≠ a + 1)) with e | ⟨e1, e2⟩
    · obtain ⟨u, uo, uv, ule⟩ := new i k e hk
      have v := val i k hiN hk
      have eu : cpZ a z i k = u := val_ok v.1 uo (by rw [uv]; exact v.2)
      have c1 := b2 a k ha Ox hk
      have c2 := b2 (a + 1) k Ox haN hk
      have := ule (B - dexp (z a col)) Ox Ox
      have := dn i e
      rw [eu]
      omega
    · have e : ∀ k, cpZ a z i k = z i k := fun k => by unfold cpZ; rw [if_neg e1, if_neg e2]
      rw [e, e]
      exact b2 i k hi hiN hk
  · refine sumM_two (p := a) (fun i e1 e2 => ?_) ?_ N haN
    · show dexp (cpZ a z i col) = _
      unfold cpZ; rw [if_neg e1, if_neg e2]
    · have := dn a (.inl rfl)
      have := dn (a + 1) (.inr rfl)
      show dexp (cpZ a z a col) + dexp (cpZ a z (a + 1) col) + 2 ≤ dexp (z a col) + dexp (z (a + 1) col)
      omega
set_option maxHeartbeats 1000000
theorem dexp_kind {x y : Nm} {K : Nat} (hK : 0 < K) (hx : x.k ≤ K) (hy : y.k ≤ K) (h : kindN x K = kindN y K) (h0 : kindN x K ≠ 0) : x.k = K ∧ y.k = K ∧ dexp x = dexp y ∧ sumE x % 2 = sumE y % 2 := by
 rcases kind_cases x K hx with ⟨e, -⟩ | ⟨e, e1, e2⟩ | ⟨e, e1, e2⟩
 ·exact absurd e h0
 ·rcases kind_cases y K hy with ⟨f, -⟩ | ⟨f, f1, f2⟩ | ⟨f, f1, f2⟩
  ·omega
  ·refine ⟨e1, f1, ?_, by omega⟩
   unfold dexp; rw [e1, f1, e2, f2]
  ·omega
 ·rcases kind_cases y K hy with ⟨f, -⟩ | ⟨f, f1, f2⟩ | ⟨f, f1, f2⟩
  ·omega
  ·omega
  ·refine ⟨e1, f1, ?_, by omega⟩
   unfold dexp; rw [e1, f1, if_neg Ox, if_neg Ox, if_neg Ox, if_neg Ox]
def IsExp (N col : Nat) (z : Zt) (K : Int) : Prop := 0 ≤ K ∧ (∀ i, col ≤ i → i < N → (z i col).k ≤ K) ∧ (0 < K → ∃ i, col ≤ i ∧ i < N ∧ (z i col).k = K)
theorem PI.nf {N col : Nat} {z : Zt} (h : PI N col z) {i k : Nat} (hi : i < N) (hk : k < N) : (z i k).Nf := (h.ok i k hi hk).nf
theorem PI.klow {N col : Nat} {z : Zt} (h : PI N col z) {i : Nat} (hi : i < col) (hc : col < N) : z i col = Nm.zero := h.zero Ox hc (.inl hi) Ox
theorem PI.pair {N col K : Nat} {z : Zt} (h : PI N col z) (hc : col < N) (hK : 0 < K) (hE : IsExp N col z K) {a : Nat} (ha : col ≤ a) (haN : a < N) (hk : kindN (z a col) K ≠ 0) :
    ∃ b, col ≤ b ∧ b < N ∧ b ≠ a ∧ kindN (z b col) K = kindN (z a col) K := by
  have hle : ∀ i, i < N → (z i col).k ≤ K := fun i hi => by
    rcases Nat.lt_or_ge i col with hlt | hge
    · rw [h.klow hlt hc]; show (0 : Int) ≤ K; omega
    · exact hE.2.1 i hge hi
  have hka : (z a col).k = K := by
    rcases kind_cases (z a col) K (hle a haN) with ⟨e, -⟩ | ⟨-, e, -⟩ | ⟨-, e, -⟩
    · exact absurd e hk
    · exact e
    · exact e
  obtain ⟨b, hb, hne, he⟩ := ex_pair (z := fun i => z i col) hK (fun i hi => ⟨h.nf hi hc, (h.ok i col hi hc).k0, hle i hi⟩) (un_col h.un hc) haN hka
  refine ⟨b, ?_, hb, hne, he⟩
  refine Decidable.byContradiction fun hlt => ?_
  have e0 := h.klow (i := b) Ox hc
  rw [e0] at he
  have : kindN Nm.zero K = 0 := if_pos (by show (0 : Int) < K; omega)
  omega
theorem PI.step {N col a K : Nat} {z : Zt} {B : Int} (h : PI N col z) (hb : Bnd N col B z) (ha : col ≤ a) (haN : a + 1 < N) (hK : 0 < K)
    (k1 : (z a col).k ≤ K) (k2 : (z (a + 1) col).k ≤ K) (hk : kindN (z a col) K = kindN (z (a + 1) col) K) (h0 : kindN (z a col) K ≠ 0) :
    PI N col (cpZ a (phZ (a + 1) ((matchN (z a col) (z (a + 1) col) + 6) % 8) z)) ∧ Bnd N col B (cpZ a (phZ (a + 1) ((matchN (z a col) (z (a + 1) col) + 6) % 8) z)) ∧
    muZ N col (cpZ a (phZ (a + 1) ((matchN (z a col) (z (a + 1) col) + 6) % 8) z)) + 2 ≤ muZ N col z ∧
    ∀ i k, i < N → k < N → vt (cpZ a (phZ (a + 1) ((matchN (z a col) (z (a + 1) col) + 6) % 8) z)) i k = cpQ a (phQ (a + 1) (omP ((matchN (z a col) (z (a + 1) col) + 6) % 8)) (vt z)) i k := by
  have hc : col < N := by omega
  obtain ⟨e1, e2, e3, e4⟩ := dexp_kind hK k1 k2 hk h0
  obtain ⟨d1, d2⟩ := pair_drop hK e1 e2 (h.nf Ox hc) (h.nf haN hc) e4
  generalize (matchN (z a col) (z (a + 1) col) + 6) % 8 = n at *
  obtain ⟨p1, p2, p3⟩ := h.phase (n := n) hb (show col ≤ a + 1 by omega) haN
  have za : phZ (a + 1) n z a col = z a col := if_neg Ox
  have zb : phZ (a + 1) n z (a + 1) col = turnM n (z (a + 1) col) := if_pos rfl
  obtain ⟨q1, q2, q3, q4⟩ := p1.couple p2 ha haN (K := K) (by rw [za]; exact e1) (by rw [za, zb, dexp_turn]; exact e3.symm)
    (by rw [za, zb, turnM_val]; exact d1) (by rw [za, zb, turnM_val]; exact d2)
  refine ⟨q1, q2, by omega, fun i k hi hk => ?_⟩; rw [q4 i k hi hk, ph_vt]
theorem PI.unit {N col : Nat} {z : Zt} (h : PI N col z) (hc : col < N) (h0 : ∀ i, col ≤ i → i < N → (z i col).k ≤ 0) :
    ∃ a, col ≤ a ∧ a < N ∧ (∃ n, n < 8 ∧ turnM n (z a col) = Nm.one) ∧ z a col ≠ Nm.zero ∧ ∀ i, i < N → i ≠ a → z i col = Nm.zero := by
  have h0' : ∀ i, i < N → (z i col).k = 0 := fun i hi => by
    rcases Nat.lt_or_ge i col with hlt | hge
    · rw [h.klow hlt hc]; rfl
    · have := h0 i hge hi
      have := (h.ok i col hi hc).k0
      omega
  obtain ⟨a, ha, h1, h2⟩ := col_unit (z := fun i => z i col) h0' (un_col h.un hc)
  have hne : z a col ≠ Nm.zero := fun e => by rw [e] at h1; cases (show (0 : Int) = 1 from h1)
  refine ⟨a, ?_, ha, ?_, hne, h2⟩
  · refine Decidable.byContradiction fun hlt => hne (h.klow Ox hc)
  · rcases unit_of (h0' a ha) h1 with e | e | e | e | e | e | e | e <;> rw [e]
    · exact ⟨0, by omega, rfl⟩
    · exact ⟨7, by omega, rfl⟩
    · exact ⟨6, by omega, rfl⟩
    · exact ⟨5, by omega, rfl⟩
    · exact ⟨4, by omega, rfl⟩
    · exact ⟨3, by omega, rfl⟩
    · exact ⟨2, by omega, rfl⟩
    · exact ⟨1, by omega, rfl⟩
theorem PI.next {N col : Nat} {z : Zt} (h : PI N col z) (hc : col < N) (h1 : z col col = Nm.one) (h2 : ∀ i, i < N → i ≠ col → z i col = Nm.zero) : PI N (col + 1) z :=
  ⟨h.ok, h.un, fun i c hi hcc hcN => by
    rcases (by omega : c < col ∨ c = col) with hlt | rfl
    · exact h.idc i c hi hlt hcN
    · by_cases e : i = c
      · subst e; rw [h1, dl_self, val_one]
      · rw [h2 i hi e, dl_ne e, val_zero]⟩
def Cb (N col : Nat) (z : Zt) : Prop := N ≤ col + 2 ∨ ∃ E : Int, (N = col + 3 ∧ E ≤ 13 ∨ N = col + 4 ∧ E ≤ 4) ∧ ∀ i k, col ≤ i → i < N → k < N → (z i k).k ≤ E
theorem Cb.bnd {N col : Nat} {z : Zt} (h : Cb N col z) (hz : PI N col z) : ∃ B, Bnd N col B z ∧ (N = col + 4 → B ≤ 13) := by
 rcases h with h | ⟨E, hE, hk⟩
 ·exact ⟨0, .inr h, by omega⟩
 ·refine ⟨3 * E, .inl ⟨by omega, fun i k hi hiN hkN => ?_⟩, by omega⟩
  have h1 := hk i k hi hiN hkN
  have h2 := hk i col hi hiN Ox
  have h0 := (hz.ok i col hiN Ox).k0
  have := dexp_le (z i col) h2 Ox
  omega
theorem Bnd.next {N col : Nat} {z : Zt} {B : Int} (h : Bnd N col B z) (h4 : N = col + 4 → B ≤ 13) (hN : N ≤ col + 4) : Cb N (col + 1) z := by
 rcases h with ⟨b1, b2⟩ | h
 ·rcases (by omega : N ≤ col + 3 ∨ N = col + 4) with e | e
  ·exact .inl Ox
  ·refine .inr ⟨B, .inl ⟨by omega, h4 e⟩, fun i k hi hiN hk => ?_⟩
   have := b2 i k Ox hiN hk
   omega
 ·exact .inl Ox
theorem muZ_le {N col : Nat} {z : Zt} (h : PI N col z) (hc : col < N) : muZ N col z ≤ N * 80 := by
 refine sumM_le fun i hi => ?_
 have := dexp_le (z i col) (h.ok i col hi hc).k1 Ox
 omega
open Go.RowKit
structure RW where
  b : Nat
  c : Nat
  l : List Nm
  r : List Value
def RW.blk (x : RW) : Blk := (x.b, .cells (NmE.flat x.l ++ x.r).toArray 44)
def RW.val (N : Nat) (x : RW) : Value := .slice (some ⟨x.b, 0, none⟩) N x.c
abbrev rwV (N : Nat) (rs : List RW) : List Value := rs.map (RW.val N)
abbrev rwB (rs : List RW) : List Blk := rs.map RW.blk
structure WS (N gw : Nat) (z : Zt) (L : List It) (s : List Blk) : Prop where
  ex : ∃ (go oc : Nat) (ro : List Value) (rs : List RW) (ia : Option Addr) (ic : Nat) (u : List Blk),
    s = (gw, .cells #[.slice (some ⟨go, 0, none⟩) N oc, .slice ia L.length ic] 118) :: (go, .cells (rwV N rs ++ ro).toArray 26) :: (rwB rs ++ (u ++ [])) ∧
    rs.length = N ∧ N ≤ oc ∧ (∀ x ∈ rs, x.l.length = N) ∧ (∀ i x, rs[i]? = some x → ∀ k, k < N → nm x.l k = z i k) ∧ OwnT u (.slice ia L.length ic) L ∧ (∀ i k, i < N → k < N → (z i k).Ok)
theorem WS.open_ {N gw : Nat} {z : Zt} {L : List It} {s : List Blk} (h : WS N gw z L s) : ∃ (go oc : Nat) (ro : List Value) (rs : List RW) (ia : Option Addr) (ic : Nat) (u : List Blk),
    s ++ [] = (gw, .cells #[.slice (some ⟨go, 0, none⟩) N oc, .slice ia L.length ic] 118) :: (go, .cells (rwV N rs ++ ro).toArray 26) :: (rwB rs ++ (u ++ [])) ∧
    rs.length = N ∧ N ≤ oc ∧ (∀ x ∈ rs, x.l.length = N) ∧ (∀ i x, rs[i]? = some x → ∀ k, k < N → nm x.l k = z i k) ∧ OwnT u (.slice ia L.length ic) L ∧ (∀ i k, i < N → k < N → (z i k).Ok) := by
  obtain ⟨go, oc, ro, rs, ia, ic, u, e, h⟩ := h
  exact ⟨go, oc, ro, rs, ia, ic, u, (List.append_nil s).trans e, h⟩
theorem Kn.to {B w : World} {F : List Nat} {s s' : List Blk} (e : s = s') (h : Kn B F s w) : Kn B F s' w := e ▸ h
theorem Kn.nil' {B w : World} {F : List Nat} {s : List Blk} (h : Kn B F s w) : Kn B F (s ++ []) w := h.to (List.append_nil s).symm
theorem Kn.of_nil {B w : World} {F : List Nat} {s : List Blk} (h : Kn B F (s ++ []) w) : Kn B F s w := h.to (List.append_nil s)
theorem Kn.same {w w' : World} {s : List Blk} (h : Kn w (s.map (·.1)) s w) (h' : Kn w (s.map (·.1)) s w') : Below w.heap.size w w' :=
  ⟨h'.os, h'.tape, h'.output, h'.size, fun k hk => by
    by_cases hF : k ∈ s.map (·.1)
    · obtain ⟨b, hb, rfl⟩ := List.mem_map.1 hF
      exact (h'.own b hb).trans (h.own b hb).symm
    · exact h'.old k hk hF⟩
theorem wk_perm {R : Option Nat} {P : Program} {Q : Exit → Act → World → Prop} {B : World} {F : List Nat} {a : Act} {s s' : List Blk} {c : Code} (hp : s.Perm s') (h : Wk R P B F Q a s' c) : Wk R P B F Q a s c := fun w K => h w (K.perm hp)
theorem rw_one {A C : List RW} {b c : Nat} {l : List Nm} {r : List Value} : rwB (A ++ ⟨b, c, l, r⟩ :: C) = rwB A ++ (b, .cells (NmE.flat l ++ r).toArray 44) :: rwB C := by
 unfold rwB; rw [List.map_append, List.map_cons]; rfl
theorem rw_two {A C : List RW} {b c b' c' : Nat} {l l' : List Nm} {r r' : List Value} : rwB (A ++ ⟨b, c, l, r⟩ :: ⟨b', c', l', r'⟩ :: C) = rwB A ++ (b, .cells (NmE.flat l ++ r).toArray 44) :: (b', .cells (NmE.flat l' ++ r').toArray 44) :: rwB C := by
 unfold rwB; rw [List.map_append, List.map_cons, List.map_cons]; rfl
theorem split1 {rs : List RW} {p : Nat} (h : p < rs.length) : ∃ A b c l r C, rs = A ++ ⟨b, c, l, r⟩ :: C ∧ A.length = p := by
 refine ⟨rs.take p, rs[p].b, rs[p].c, rs[p].l, rs[p].r, rs.drop (p + 1), ?_, by rw [List.length_take]; omega⟩
 show rs = rs.take p ++ rs[p] :: rs.drop (p + 1)
 rw [← List.drop_eq_getElem_cons h, List.take_append_drop]
theorem split2 {rs : List RW} {p : Nat} (h : p + 1 < rs.length) : ∃ A b c l r b' c' l' r' C, rs = A ++ ⟨b, c, l, r⟩ :: ⟨b', c', l', r'⟩ :: C ∧ A.length = p := by
 refine ⟨rs.take p, rs[p].b, rs[p].c, rs[p].l, rs[p].r, rs[p + 1].b, rs[p + 1].c, rs[p + 1].l, rs[p + 1].r, rs.drop (p + 2), ?_, by rw [List.length_take]; omega⟩
 show rs = rs.take p ++ rs[p] :: rs[p + 1] :: rs.drop (p + 2)
 rw [← List.drop_eq_getElem_cons (show p + 1 < rs.length by omega), ← List.drop_eq_getElem_cons (show p < rs.length by omega), List.take_append_drop]
theorem rwV_get {N i : Nat} {rs : List RW} {ro : List Value} {x : RW} (h : rs[i]? = some x) : (rwV N rs ++ ro).toArray[i]? = some (x.val N) := by
 have hl : i < rs.length := by
  rcases Nat.lt_or_ge i rs.length with h' | h'
  ·exact h'
  ·rw [List.getElem?_eq_none h'] at h; cases h
 rw [List.getElem?_toArray, List.getElem?_append_left (by rw [List.length_map]; exact hl), List.getElem?_map, h]; rfl
section
variable {B w w' : World} {F : List Nat} {s : List Blk} {N : Nat}
theorem Kn.outer {go T i : Nat} {rs : List RW} {ro : List Value} {x : RW} (K : Kn B F ((go, .cells (rwV N rs ++ ro).toArray T) :: s) w) (h : rs[i]? = some x) : w.cell? ⟨go, i, none⟩ = some (x.val N) :=
  ((Kn.hd0 K).cell i).trans (rwV_get h)
theorem nm_hd {b : Nat} {l : List Nm} {r : List Value} {k : Nat} (h : Hd w b 44 (NmE.flat l ++ r).toArray) (hk : k < l.length) : NmAt w b (0 + k * 5) (nm l k) := by
 have hc := fun j => h.cell (0 + k * 5 + j)
 have hg := fun j (hj : j < 5) => NmE.get l k j hk hj
 have hl := NmE.flat_len l
 have hlt : ∀ j, j < 5 → 0 + k * 5 + j < (NmE.flat l).length := fun j hj => by rw [hl]; show 0 + k * 5 + j < l.length * 5; omega
 have go : ∀ j v, j < 5 → (nmC (nm l k))[j]? = some v → w.cell? ⟨b, 0 + k * 5 + j, none⟩ = some v := fun j v hj hv => by
  rw [hc j, List.getElem?_toArray, List.getElem?_append_left (hlt j hj), ← hv, ← hg j hj, Nat.zero_add]
 exact ⟨go 0 _ Ox rfl, go 1 _ Ox rfl, go 2 _ Ox rfl, go 3 _ Ox rfl, go 4 _ Ox rfl⟩
theorem Kn.row {rs : List RW} {i k : Nat} {x : RW} (K : Kn B F (rwB rs ++ s) w) (h : rs[i]? = some x) (hk : k < x.l.length) : NmAt w x.b (0 + k * 5) (nm x.l k) := by
 have hm : x.blk ∈ rwB rs ++ s := List.mem_append_left _ (List.mem_map.2 ⟨x, List.mem_of_getElem? h, rfl⟩)
 exact nm_hd (K.own _ hm) hk
end
section
variable {R : Option Nat} {ops : Array Oper} {Q : Exit → Act → World → Prop} {B : World} {F : List Nat} {s0 : Option (List Blk × List Blk)}
variable {l : List (Oper × Nat)} {a : Act} {s S : List Blk} {d : Option Tmp} {op : Op} {t : TypeId} {p : String} {af : Array Edge} {v : Value}
theorem rg_eff {P : Program} {T : List Blk → Prop} {f : Nat} {cargs : Array Operand} {at_ : Array TypeId} {args : Array Value} {gd : Option (Nat × Bool)} {vb rest : List Blk}
    (hg : Region.wanted ⟨d, .call ⟨.value (.func f), cargs, at_⟩, t, p, af, gd⟩ (yielded ops a.tmps) = true) (hgo : isGo P f = true) (hargs : cargs.map a.eval = args) (hp : S.Perm (vb ++ rest))
    (h : ∀ w, Kn w (vb.map (·.1)) vb w → Calls P f args w fun e w' => e = .returned v ∧ ∃ vb', Kn w (vb.map (·.1)) vb' w' ∧ T vb')
    (k : ∀ vb', T vb' → Rg R P ops Q B F none l (a.put d v) (vb' ++ rest)) :
    Rg R P ops Q B F none ((⟨d, .call ⟨.value (.func f), cargs, at_⟩, t, p, af, gd⟩, 1) :: l) a S :=
  rg_call hg hgo hargs fun w K => by
    have K1 := K.perm hp
    exact (h w K1.self).mono fun e w' ⟨he, vb', hK, hT⟩ => ⟨_, vb' ++ rest, he, K1.effApp hK, Nz, k vb' hT⟩
theorem rg_effM {P : Program} {T : List Blk → Prop} {f : Nat} {cargs : Array Operand} {at_ : Array TypeId} {args : Array Value} {gd : Option (Nat × Bool)} {vb rest : List Blk} {z : List Blk × List Blk}
    (hg : Region.wanted ⟨d, .call ⟨.value (.func f), cargs, at_⟩, t, p, af, gd⟩ (yielded ops a.tmps) = true) (hgo : isGo P f = true) (hargs : cargs.map a.eval = args) (hp : S.Perm (vb ++ rest)) (hz : z.2.Sublist rest)
    (h : ∀ w, Kn w (vb.map (·.1)) vb w → Calls P f args w fun e w' => e = .returned v ∧ ∃ vb', Kn w (vb.map (·.1)) vb' w' ∧ T vb')
    (k : ∀ vb', T vb' → Rg R P ops Q B F (some (z.2, z.2)) l (a.put d v) (vb' ++ rest)) :
    Rg R P ops Q B F (some z) ((⟨d, .call ⟨.value (.func f), cargs, at_⟩, t, p, af, gd⟩, 2) :: l) a S := by
  refine ⟨z, rfl, fun w K => ?_⟩
  unfold hop
  rw [if_pos hg]
  unfold Oper.wp
  have hr : (execOp a.eval ⟨d, .call ⟨.value (.func f), cargs, at_⟩, t, p, af, gd⟩).run P w = .ok (.enter f args) w := by
    have he : #[] ++ cargs.map a.eval ++ #[] = args := by simpa using hargs
    rw [execOp_call_go, he]
    exact run_callFunc_go hgo args w
  rw [hr]
  have K1 := K.perm hp
  refine (h w K1.self).mono fun e w' ⟨he, vb', hK, hT⟩ => ?_
  subst he
  exact ⟨vb' ++ rest, K1.effApp hK, hz.trans (Sr _ _), k vb' hT⟩
end
theorem rAt_any (N i k : Nat) (xs : List Nm) (a : Option Addr) (c : Nat) (hl : xs.length = N * N) (hN : N ≤ 6) (hi : i < N) (hk : k < N) (w : World) (hA : AS w a (nms xs)) : Calls Tryz.prog 115 #[.agg #[.int .i64 N, .slice a xs.length c], .int .i64 i, .int .i64 k] w fun e w' => e = .returned (nmV (nm xs (i * N + k))) ∧ Below w.heap.size w w' := by
 have hm := ix_small hi hN
 have hc0 : ((i * N : Nat) : Int) = (i : Int) * N := Int.natCast_mul i N
 obtain ⟨b, off, rfl, hlt, hcell⟩ := AS.openN hA Ox
 go_enter Tryz.func115, Tryz.ntmps115
 refine wk_start ?_
 refine wk_seq ?_
 refine Wr [1, 1] ?_
 refine Rgn fun g1 => ?_
 simp only [qz]
 refine Rgn fun g2 => ?_
 simp only [qz]
 refine Zr ?_
 refine Wr [0, 0, 0, 0, 0, 0, 0, 0, 0, 0, 1] ?_
 refine Fd 0 1 UU28 ?_
 refine rf_load rfl rfl rfl UU26 rfl (fun w hw => (Kn.hd0 (Kn.tl hw)).at rfl) (Zm ?_)
 refine Fd 0 0 UU28 ?_
 refine rf_load rfl rfl rfl UU3 rfl (fun w hw => (Kn.hd0 (Kn.tl hw)).at rfl) (Nq ?_)
 refine rf_mul rfl rfl rfl rfl (wrap_ok Ox Ox) (Zm ?_)
 refine rf_add rfl rfl rfl rfl (wrap_ok Ox Ox) (Nq ?_)
 refine rf_indexS (n := i * N + k) (sz := 5) (j := off + (i * N + k) * 5) rfl rfl rfl rfl UU26 Kx (by rw [Int.natCast_add, Int.natCast_mul]) Ox rfl (Nq ?_)
 refine rf_loadC (n := 5) (vs := nmC (nm xs (i * N + k))) rfl rfl rfl UU44 rfl Kx rfl (fun w hw => atN_range ((hcell _ Ox).kn hw hlt (by simp))) (Nq ?_)
 refine rf_storeR (n := 5) rfl rfl Kx rfl rfl (UpdR.here _ _ _ Nl) Nz (Nw ?_)
 refine Zr ?_
 refine ek_ret (fun w hw => ⟨rfl, _, run_results1 rfl rfl (Kn.hd0 hw) UU44 rfl Kx, ?_⟩)
 (try simp only [qz])
 first | exact ⟨rfl, hw.below⟩ | exact ⟨trivial, hw.below⟩ | exact hw.below
theorem rOne_any  (w : World) : Calls Tryz.prog 117 #[] w fun e w' => e = .returned (nmV Nm.one) ∧ Below w.heap.size w w' := by
 go_enter Tryz.func117, Tryz.ntmps117
 refine wk_start ?_
 refine wk_seq ?_
 refine Wr [1] ?_
 refine Rgn fun g1 => ?_
 simp only [qz]
 refine Zr ?_
 refine Wr [0, 0, 1] ?_
 refine rf_build (cs := fun a => #[a.eval (.const (.int .i64 1)), .int .i64 0, .int .i64 0, .int .i64 0]) rfl rfl Kx (Nq ?_)
 refine rf_build (cs := fun a => #[cellAt (a.eval (.tmp 1)) 0, cellAt (a.eval (.tmp 1)) 1, cellAt (a.eval (.tmp 1)) 2, cellAt (a.eval (.tmp 1)) 3, .int .i64 0]) rfl rfl Kx (Nq ?_)
 refine rf_storeR (n := 5) rfl rfl Kx rfl rfl (UpdR.here _ _ _ Nl) Nz (Nw ?_)
 refine Zr ?_
 refine ek_ret (fun w hw => ⟨rfl, _, run_results1 rfl rfl (Kn.hd0 hw) UU44 rfl Kx, ?_⟩)
 (try simp only [qz])
 first | exact ⟨rfl, hw.below⟩ | exact ⟨trivial, hw.below⟩ | exact hw.below
def colS (xs : List Nm) (N k l : Nat) : Nat → Nm
  | 0 => Nm.zero
  | n + 1 => (colS xs N k l n).addR ((nm xs (n * N + k)).conj.mulR (nm xs (n * N + l)))
def wantN (k l : Nat) : Nm := if k = l then Nm.one else Nm.zero
def Fb (n : Nat) : Int := 2 ^ (62 + 42 * n)
theorem upW_fit {M : Int} {n : Nat} {z : Nm} (h : z.Fit M) (hM : 0 ≤ M) (hn : n ≤ 81) : (Nm.up n z).Fit (2 ^ 41 * M) := by
 have key : ∀ m : Nat, m ≤ 41 → (2 : Int) ^ m * M ≤ 2 ^ 41 * M := fun m hm => by
  refine Int.mul_le_mul_of_nonneg_right ?_ hM
  have h1 := Nat.pow_le_pow_right (n := 2) Ox hm
  have e : ((2 ^ m : Nat) : Int) = (2 : Int) ^ m := by simp
  have e2 : ((2 ^ 41 : Nat) : Int) = (2 : Int) ^ 41 := by simp
  omega
 rcases (⟨n / 2, by omega⟩ : ∃ m, n = 2 * m ∧ m ≤ 40 ∨ n = 2 * m + 1 ∧ m ≤ 40) with ⟨m, ⟨rfl, hm⟩ | ⟨rfl, hm⟩⟩
 ·exact Nm.fit_mono (Nm.up_fit m h).1 (key m Ox)
 exact Nm.fit_mono (Nm.up_fit m h).2 (key (m + 1) Ox)
theorem Fb_pos (n : Nat) : 4611686018427387904 ≤ Fb n := by
 unfold Fb
 have h1 := Nat.pow_le_pow_right (n := 2) Ox (show 62 ≤ 62 + 42 * n by omega)
 have e : ((2 ^ (62 + 42 * n) : Nat) : Int) = (2 : Int) ^ (62 + 42 * n) := by simp
 have e2 : (2 : Nat) ^ 62 = 4611686018427387904 := by decide
 omega
theorem Fb_succ (n : Nat) : 2 ^ 41 * Fb n + 2 ^ 41 * Fb n = Fb (n + 1) := by
 unfold Fb
 rw [show 62 + 42 * (n + 1) = (62 + 42 * n) + 42 by omega, Int.pow_add (2 : Int) (62 + 42 * n) 42]
 generalize (2 : Int) ^ (62 + 42 * n) = M
 have e1 : (2 : Int) ^ 41 = 2199023255552 := by decide
 have e2 : (2 : Int) ^ 42 = 4398046511104 := by decide
 rw [e1, e2]
 omega
theorem Fb_le {n : Nat} (h : n ≤ 6) : 2 ^ 41 * Fb n ≤ 9850501549098619803069760025035903451269934817616361666987073351061430442874302652853566563721228910201656997576704 := by
 have h1 := Nat.pow_le_pow_right (n := 2) Ox (show 41 + (62 + 42 * n) ≤ 200 + 155 by omega)
 rw [Nat.pow_add 2 200 155] at h1
 have e : ((2 ^ (41 + (62 + 42 * n)) : Nat) : Int) = (2 : Int) ^ 41 * (2 : Int) ^ (62 + 42 * n) := by
  rw [Nat.pow_add, Int.natCast_mul]; simp only [Int.natCast_pow]
  rfl
 have e2 : (2 : Nat) ^ 200 * 2 ^ 155 = 73391955711682288371546268649666782105490079653384995959602842860381532034831513858240593699524021969747968 := by decide
 unfold Fb
 omega
theorem prod_W {x y : Nm} (hx : x.Ok) (hy : y.Ok) : (x.conj.mulR y).Fit 4611686018427387904 ∧ 0 ≤ (x.conj.mulR y).k ∧ (x.conj.mulR y).k ≤ 80 :=
  ⟨Nm.fit_mono (mulR_fit (conj_ok hx).fit hy.fit) (by decide), by have := hx.k0; have := hy.k0; simp only [Nm.mulR, Nm.conj]; omega, by have := hx.k1; have := hy.k1; simp only [Nm.mulR, Nm.conj]; omega⟩
theorem addR_W {x y : Nm} {n : Nat} (hx : x.Fit (Fb n)) (hx0 : 0 ≤ x.k) (hx1 : x.k ≤ 80) (hy : y.Fit 4611686018427387904) (hy0 : 0 ≤ y.k) (hy1 : y.k ≤ 80) :
    (x.to (max x.k y.k)).Fit (2 ^ 41 * Fb n) ∧ (y.to (max x.k y.k)).Fit (2 ^ 41 * Fb n) ∧ (x.addR y).Fit (Fb (n + 1)) ∧ 0 ≤ (x.addR y).k ∧ (x.addR y).k ≤ 80 := by
  have hF := Fb_pos n
  have h1 : (x.to (max x.k y.k)).Fit (2 ^ 41 * Fb n) := upW_fit hx Ox Ox
  have h2 : (y.to (max x.k y.k)).Fit (2 ^ 41 * Fb n) := upW_fit (Nm.fit_mono hy hF) Ox Ox
  refine ⟨h1, h2, ?_, by simp only [Nm.addR]; omega, by simp only [Nm.addR]; omega⟩; rw [← Fb_succ]
  obtain ⟨a1, a2, a3, a4, a5, a6, a7, a8⟩ := h1
  obtain ⟨b1, b2, b3, b4, b5, b6, b7, b8⟩ := h2
  generalize 2 ^ 41 * Fb n = M at *
  unfold Nm.addR
  exact ⟨by dsimp only; omega, by dsimp only; omega, by dsimp only; omega, by dsimp only; omega, by dsimp only; omega, by dsimp only; omega, by dsimp only; omega, by dsimp only; omega⟩
theorem colS_W {xs : List Nm} {N k l : Nat} (hok : allOk xs = true) (hlen : xs.length = N * N) (hN : N ≤ 6) (hk : k < N) (hl : l < N) : ∀ n, n ≤ N → (colS xs N k l n).Fit (Fb n) ∧ 0 ≤ (colS xs N k l n).k ∧ (colS xs N k l n).k ≤ 80
  | 0, _ => by
    have := Fb_pos 0
    exact ⟨⟨by show -_ ≤ (0 : Int); omega, by show (0 : Int) ≤ _; omega, by show -_ ≤ (0 : Int); omega, by show (0 : Int) ≤ _; omega, by show -_ ≤ (0 : Int); omega, by show (0 : Int) ≤ _; omega, by show -_ ≤ (0 : Int); omega, by show (0 : Int) ≤ _; omega⟩, by show (0 : Int) ≤ 0; decide, by show (0 : Int) ≤ 80; decide⟩
  | n + 1, hn => by
    obtain ⟨h1, h2, h3⟩ := colS_W hok hlen hN hk hl n Ox
    have hx := ix_small (i := n) (N := N) Ox hN
    obtain ⟨p1, p2, p3⟩ := prod_W (ok_at hok (show n * N + k < xs.length by omega)) (ok_at hok (show n * N + l < xs.length by omega))
    obtain ⟨_, _, h4, h5, h6⟩ := addR_W h1 h2 h3 p1 p2 p3
    exact ⟨h4, h5, h6⟩
theorem SA4.conj {w : World} {z : Nm} {s0 s1 s2 s3 : Value} (h : SA4 w z s0 s1 s2 s3) : SA4 w z.conj s0 s3 s2 s1 :=
  ⟨h.a, by simp only [Nm.conj, Int.natAbs_neg]; exact h.d, by simp only [Nm.conj, Int.natAbs_neg]; exact h.c, by simp only [Nm.conj, Int.natAbs_neg]; exact h.b⟩
theorem wd_zero9 : (#[.bool false, .slice none 0 0, .bool false, .slice none 0 0, .bool false, .slice none 0 0, .bool false, .slice none 0 0, .int .i64 0] : Array Value) = #[.bool (decide (Nm.zero.a < 0)), .slice none (digs Nm.zero.a.natAbs).length 0, .bool (decide (Nm.zero.b < 0)), .slice none (digs Nm.zero.b.natAbs).length 0, .bool (decide (Nm.zero.c < 0)), .slice none (digs Nm.zero.c.natAbs).length 0, .bool (decide (Nm.zero.d < 0)), .slice none (digs Nm.zero.d.natAbs).length 0, .int .i64 Nm.zero.k] := by
 simp only [Nm.zero, Int.natAbs_zero, digs_zero]
 rfl
theorem sk4_zero {w : World} : SK4 w [] Nm.zero (.slice none (digs Nm.zero.a.natAbs).length 0) (.slice none (digs Nm.zero.b.natAbs).length 0) (.slice none (digs Nm.zero.c.natAbs).length 0) (.slice none (digs Nm.zero.d.natAbs).length 0) := by
 have h : SK w [] (.slice none (digs (0 : Int).natAbs).length 0) (0 : Int).natAbs := by
  simp only [Int.natAbs_zero, digs_zero]
  exact SK.own SU.nil
 exact ⟨h, h, h, h⟩
theorem runitary_walk (N : Nat) (xs : List Nm) (a : Option Addr) (c : Nat) (hN1 : 1 ≤ N) (hN : N ≤ 6) (hlen : Hid (xs.length = N * N)) (hl36 : xs.length ≤ 36) (hok : allOk xs = true) (w : World) (hA : AS w a (nms xs)) : Calls Tryz.prog 73 #[.agg #[.int .i64 N, .slice a xs.length c]] w fun e w' => ∃ b, e = .returned (.bool b) ∧ (b = true ↔ ∀ k l, k < N → l < N → wnum (colS xs N k l N) = (wantN k l, true)) ∧ Below w.heap.size w w' := by
 go_enter Tryz.func73, Tryz.ntmps73
 refine wk_start ?_
 refine wk_seq ?_
 refine Wr [1, 0] ?_
 refine Rgn fun g1 => ?_
 refine Zm ?_
 refine Zr ?_
 refine Wm [0] ?_
 refine Zr ?_
 refine wk_loopF [2, 3, 4, 5, 6, 7, 8, 9, 10, 11, 12, 13, 14, 15, 16, 17, 18, 19, 20, 21, 22, 23, 24, 25, 26, 27, 28, 29, 30, 31, 32, 33, 34, 35, 36, 37, 38, 39, 40, 41, 42, 43, 44, 45, 46, 47, 48, 49, 50, 51, 52, 53, 54, 55, 56, 57, 58] (fun mz f s => ∃ (k : Nat), f 3 = .int .i64 k ∧ s = ((g1, .cells #[.int .i64 N, .slice a xs.length c] 28) :: []) ∧ mz = N - k ∧ k ≤ N ∧ (∀ k2, k2 < k → ∀ l2, l2 < N → wnum (colS xs N k2 l2 N) = (wantN k2 l2, true))) ((fun (k : Nat) => N - k) (0)) ?_ Kx ?_
 ·exact ⟨0, rfl, rfl, rfl, by omega, fun _ h => by omega⟩
 rintro mz f1 s ⟨k, hs1_3, rfl, hn, hd1, hd2⟩
 simp only [Act.putF, List.foldl_cons, List.foldl_nil, hs1_3, Act.put, Act.eval, qW, Nat.reduceAdd, Bool.not_true, Bool.not_false]
 clear hs1_3
 refine wk_seq (wk_seq ?_)
 refine Wm [0, 0, 0, 0] ?_
 refine Fd 0 0 UU28 ?_
 refine rf_load rfl rfl rfl UU3 rfl (fun w hw => (Kn.hd0 hw).at rfl) (Nq ?_)
 refine rfb_lss rfl rfl rfl rfl ?_
 rintro (_ | _) h1 <;> try simp only [qd, ne_eq] at h1
 ·simp only [qz]
  refine Zr ?_; refine Wm [0] ?_; refine Zr ?_
  refine Er fun w hw => ?_
  (try simp only [qz])
  exact ⟨true, rfl, ⟨fun _ k2 l2 hk2 hl2 => hd2 k2 Ox l2 hl2, fun _ => rfl⟩, hw.below⟩
 simp only [qz]
 refine Zr ?_
 refine Wm [0] ?_
 refine Zr ?_
 refine wk_loopF [2, 4, 5, 6, 7, 8, 9, 16, 17, 18, 19, 20, 21, 22, 23, 24, 25, 26, 27, 28, 29, 30, 31, 32, 33, 34, 35, 36, 37, 38, 39, 40, 41, 42, 43, 44, 45, 46, 47, 48, 49, 50, 51, 52, 53, 54, 55, 56, 57, 58] (fun mz f s => ∃ (l : Nat), f 4 = .int .i64 l ∧ s = ((g1, .cells #[.int .i64 N, .slice a xs.length c] 28) :: []) ∧ mz = N - l ∧ l ≤ N ∧ (∀ l2, l2 < l → wnum (colS xs N k l2 N) = (wantN k l2, true))) ((fun (l : Nat) => N - l) (0)) ?_ Kx ?_
 ·exact ⟨0, rfl, rfl, rfl, by omega, fun _ h => by omega⟩
 rintro mz f2 s ⟨l, hs2_4, rfl, hn, he1, he2⟩
 simp only [Act.putF, List.foldl_cons, List.foldl_nil, hs2_4, Act.put, Act.eval, qW, Nat.reduceAdd, Bool.not_true, Bool.not_false]
 clear hs2_4
 refine wk_seq (wk_seq ?_)
 refine Wm [0, 0, 0, 0] ?_
 refine Fd 0 0 UU28 ?_
 refine rf_load rfl rfl rfl UU3 rfl (fun w hw => (Kn.hd0 hw).at rfl) (Nq ?_)
 refine rfb_lss rfl rfl rfl rfl ?_
 rintro (_ | _) h2 <;> try simp only [qd, ne_eq] at h2
 ·simp only [qz]
  refine Zr ?_; refine Wm [0, 0, 0] ?_; refine rf_add rfl rfl rfl rfl (wrap_ok Ox Ox) (Zm ?_); refine rg_nil ?_
  obtain rfl : N = l := by omega
  refine ek_roundF (N - (k + 1)) Ox Kx ?_
  exact ⟨k + 1, rfl, by rfl, by rfl, Ox, (fun k2 hk2 l2 hl2 => by rcases (by omega : k2 < k ∨ k2 = k) with h | rfl; exact hd2 k2 h l2 hl2; exact he2 l2 hl2)⟩
 simp only [qz]
 refine Zr ?_
 refine Wr [1] ?_
 refine Rgn fun g2 => ?_
 simp only [qz]
 refine Zr ?_
 rw [wd_zero9]
 refine Wm [0] ?_
 refine Zr ?_
 refine wk_loopF [6, 22, 23, 24, 25, 26, 27, 28, 29, 30, 31, 32, 33, 34, 35, 36, 37, 38, 39, 40, 41] (fun mz f s => ∃ (n : Nat) (y : Nm) (ta0 ta1 ta2 ta3 : Option Addr) (tc0 tc1 tc2 tc3 : Nat) (u : List Blk), f 6 = .int .i64 n ∧ s = (u ++ ((g2, .cells #[.bool (decide (y.a < 0)), .slice ta0 (digs y.a.natAbs).length tc0, .bool (decide (y.b < 0)), .slice ta1 (digs y.b.natAbs).length tc1, .bool (decide (y.c < 0)), .slice ta2 (digs y.c.natAbs).length tc2, .bool (decide (y.d < 0)), .slice ta3 (digs y.d.natAbs).length tc3, .int .i64 y.k] 41) :: ((g1, .cells #[.int .i64 N, .slice a xs.length c] 28) :: []))) ∧ mz = N - n ∧ n ≤ N ∧ Hid (colS xs N k l n = y) ∧ SK4 w u y (.slice ta0 (digs y.a.natAbs).length tc0) (.slice ta1 (digs y.b.natAbs).length tc1) (.slice ta2 (digs y.c.natAbs).length tc2) (.slice ta3 (digs y.d.natAbs).length tc3)) ((fun (n : Nat) (y : Nm) (ta0 ta1 ta2 ta3 : Option Addr) (tc0 tc1 tc2 tc3 : Nat) (u : List Blk) => N - n) (0) (Nm.zero) (none) (none) (none) (none) (0) (0) (0) (0) ([])) ?_ Kx ?_
 ·exact ⟨0, Nm.zero, none, none, none, none, 0, 0, 0, 0, [], rfl, rfl, rfl, by omega, Lib.hid rfl, sk4_zero⟩
 rintro mz f3 s ⟨n, y, ta0, ta1, ta2, ta3, tc0, tc1, tc2, tc3, u, hs3_6, rfl, hn, hf1, hf2, hf3⟩
 simp only [Act.putF, List.foldl_cons, List.foldl_nil, hs3_6, Act.put, Act.eval, qW, Nat.reduceAdd, Bool.not_true, Bool.not_false]
 clear hs3_6
 have hy := hf2
 have hsk := hf3
 clear hf2 hf3
 refine wk_seq (wk_seq ?_)
 refine Wm [0, 0, 0, 0] ?_
 refine Fd 0 0 UU28 ?_
 refine rf_load rfl rfl rfl UU3 rfl (fun w hw => (Kn.hd0 (Kn.tl (Kn.tlU hw))).at rfl) (Nq ?_)
 refine rfb_lss rfl rfl rfl rfl ?_
 rintro (_ | _) h3 <;> try simp only [qd, ne_eq] at h3
 ·simp only [qz]
  refine Zr ?_
  obtain rfl : N = n := by omega
  have hyw := colS_W hok hlen.out hN (k := k) (l := l) Ox Ox N Ox
  rw [hy.out] at hyw
  have hFl := Fb_le (n := N) Ox
  have cn := fun w hs => wnum_any y (.slice ta0 (digs y.a.natAbs).length tc0) (.slice ta1 (digs y.b.natAbs).length tc1) (.slice ta2 (digs y.c.natAbs).length tc2) (.slice ta3 (digs y.d.natAbs).length tc3) (Nm.fit_mono hyw.1 (by have := Fb_pos N; omega)) hyw.2.1 Ox w hs
  obtain ⟨⟨v, bb⟩, hv⟩ : ∃ r, wnum y = r := ⟨_, rfl⟩
  rw [hv] at cn
  have hwn : Hid (wnum (colS xs N k l N) = (v, bb)) := Lib.hid (by rw [hy.out, hv])
  replace cn := Lib.hid cn
  clear hv; refine Wr [0, 1, 0, 0, 0, 1, 1, 0] ?_; refine rf_loadR (n := 9) rfl rfl rfl UU41 rfl Kx (fun w hw => Kn.hd0 (Kn.tlU hw)) rfl rfl (Nq ?_); apply rg_pure Rx Kx
  case hargs => exact Ax
  case h => exact fun w hw => cn.out w (hsk.at hw (List.sublist_append_left _ _))
  case hz => exact Nz
  refine Zm ?_; refine rf_extract rfl rfl rfl rfl (Nq ?_); refine rf_extract rfl rfl rfl rfl (Nq ?_)
  refine Rgn fun g3 => ?_
  simp only [qz]; refine rf_storeR (n := 5) rfl rfl Kx rfl rfl (UpdR.here _ _ _ Nl) Nz (Nw ?_); refine Zm ?_; refine Zr ?_; refine Wr [0, 1, 1] ?_; refine rf_build (cs := fun a => #[.int .i64 0, .int .i64 0, .int .i64 0, .int .i64 0, .int .i64 0]) rfl rfl Kx (Nq ?_)
  refine Rgn fun g4 => ?_
  simp only [qz]; refine rf_storeR (n := 5) rfl rfl Kx rfl rfl (UpdR.here _ _ _ Nl) Nz (Nw ?_); refine Zr ?_; refine Wm [0, 0, 0] ?_; refine rfb_eql rfl rfl rfl rfl ?_
  rintro (_ | _) h4 <;> try simp only [qd, ne_eq] at h4
  ·simp only [qz]
   refine Zr ?_; refine Wm [0, 0, 0, 0, 0, 0, 0] ?_; apply rg_softb
   case hy => (intro w hw; exact Gy)
   rintro (_ | _) h5 <;> try simp only [qd, ne_eq] at h5
   ·refine Zm ?_
    refine rf_loadR (n := 5) rfl rfl rfl UU44 rfl Kx (fun w hw => Kn.hd0 (Kn.tl hw)) rfl rfl (Nq ?_); refine rf_loadR (n := 5) rfl rfl rfl UU44 rfl Kx (fun w hw => Kn.hd0 hw) rfl rfl (Nq ?_); refine rfb_neN v Nm.zero rfl rfl rfl rfl ?_
    rintro (_ | _) h6 <;> try simp only [qd, ne_eq] at h6
    ·simp only [qz]
     have hnv : decide (v = Nm.zero) = true := by simpa using h6
     have hgood : wnum (colS xs N k l N) = (wantN k l, true) := by (rw [hwn.out]; unfold wantN; rw [if_neg Ox, of_decide_eq_true hnv]; congr 1 <;> simpa using h5)
     refine rf_pick rfl rfl rfl (Nq ?_); refine Zr ?_; refine Wm [0, 0, 0] ?_; refine rf_add rfl rfl rfl rfl (wrap_ok Ox Ox) (Zm ?_); refine rg_nil ?_; refine ek_sub (sk _ (sk _ ((sk _ (sc _ sn)).trans (Sr _ _)))) ?_; refine ek_roundF (N - (l + 1)) Ox Kx ?_
     exact ⟨l + 1, rfl, by rfl, by rfl, Ox, (fun l2 hl2 => by rcases (by omega : l2 < l ∨ l2 = l) with h | rfl; exact he2 l2 h; exact hgood)⟩
    simp only [qz]
    have hnv : decide (v = Nm.zero) = false := by simpa using h6
    refine rf_pick rfl rfl rfl (Nq ?_); refine Zr ?_; refine Wm [0] ?_; refine Zr ?_
    refine Er fun w hw => ?_
    (try simp only [qz])
    exact ⟨false, rfl, ⟨fun h => (by cases h), fun h => by have hg := h k l Ox Ox; rw [hwn.out] at hg; have h2 := congrArg Prod.fst hg; unfold wantN at h2; rw [if_neg Ox] at h2; exact absurd h2 (of_decide_eq_false hnv)⟩, hw.below⟩
   refine Zm ?_; refine rf_pick rfl rfl rfl (Nq ?_); refine Zr ?_; refine Wm [0] ?_; refine Zr ?_
   refine Er fun w hw => ?_
   (try simp only [qz])
   exact ⟨false, rfl, ⟨fun h => (by cases h), fun h => by have hg := h k l Ox Ox; rw [hwn.out] at hg; have h2 := congrArg Prod.snd hg; simp_all⟩, hw.below⟩
  simp only [qz]; refine Zr ?_; refine Wr [1, 1] ?_; apply rg_pure Rx Kx
  case hargs => exact Ax
  case h => exact fun w hw => rOne_any w
  case hz => exact Nz
  simp only [qz]; refine rf_storeR (n := 5) rfl rfl Kx rfl rfl (UpdR.here _ _ _ Nl) Nz (Nw ?_); refine Zr ?_; refine Wm [0, 0, 0, 0, 0, 0, 0] ?_; apply rg_softb
  case hy => (intro w hw; exact Gy)
  rintro (_ | _) h7 <;> try simp only [qd, ne_eq] at h7
  ·refine Zm ?_
   refine rf_loadR (n := 5) rfl rfl rfl UU44 rfl Kx (fun w hw => Kn.hd0 (Kn.tl hw)) rfl rfl (Nq ?_); refine rf_loadR (n := 5) rfl rfl rfl UU44 rfl Kx (fun w hw => Kn.hd0 hw) rfl rfl (Nq ?_); refine rfb_neN v Nm.one rfl rfl rfl rfl ?_
   rintro (_ | _) h8 <;> try simp only [qd, ne_eq] at h8
   ·simp only [qz]
    have hnv : decide (v = Nm.one) = true := by simpa using h8
    have hgood : wnum (colS xs N k l N) = (wantN k l, true) := by (rw [hwn.out]; unfold wantN; rw [if_pos Ox, of_decide_eq_true hnv]; congr 1 <;> simpa using h7)
    refine rf_pick rfl rfl rfl (Nq ?_); refine Zr ?_; refine Wm [0, 0, 0] ?_; refine rf_add rfl rfl rfl rfl (wrap_ok Ox Ox) (Zm ?_); refine rg_nil ?_; refine ek_sub (sk _ (sk _ ((sk _ (sc _ sn)).trans (Sr _ _)))) ?_; refine ek_roundF (N - (l + 1)) Ox Kx ?_
    exact ⟨l + 1, rfl, by rfl, by rfl, Ox, (fun l2 hl2 => by rcases (by omega : l2 < l ∨ l2 = l) with h | rfl; exact he2 l2 h; exact hgood)⟩
   simp only [qz]
   have hnv : decide (v = Nm.one) = false := by simpa using h8
   refine rf_pick rfl rfl rfl (Nq ?_); refine Zr ?_; refine Wm [0] ?_; refine Zr ?_
   refine Er fun w hw => ?_
   (try simp only [qz])
   exact ⟨false, rfl, ⟨fun h => (by cases h), fun h => by have hg := h k l Ox Ox; rw [hwn.out] at hg; have h2 := congrArg Prod.fst hg; unfold wantN at h2; rw [if_pos Ox] at h2; exact absurd h2 (of_decide_eq_false hnv)⟩, hw.below⟩
  refine Zm ?_; refine rf_pick rfl rfl rfl (Nq ?_); refine Zr ?_; refine Wm [0] ?_; refine Zr ?_
  refine Er fun w hw => ?_
  (try simp only [qz])
  exact ⟨false, rfl, ⟨fun h => (by cases h), fun h => by have hg := h k l Ox Ox; rw [hwn.out] at hg; have h2 := congrArg Prod.snd hg; simp_all⟩, hw.below⟩
 simp only [qz]
 refine Zr ?_
 have hyw := colS_W hok hlen.out hN (k := k) (l := l) Ox Ox n Ox
 rw [hy.out] at hyw
 have hxs := ix_small (i := n) (N := N) Ox hN
 have ox := ok_at hok (show n * N + k < xs.length by have := hlen.out; omega)
 have oy := ok_at hok (show n * N + l < xs.length by have := hlen.out; omega)
 have hpw := prod_W ox oy
 obtain ⟨pr, hpr⟩ : ∃ r, (nm xs (n * N + k)).conj.mulR (nm xs (n * N + l)) = r := ⟨_, rfl⟩
 rw [hpr] at hpw
 replace hpr := Lib.hid hpr
 have haw := addR_W hyw.1 hyw.2.1 hyw.2.2 hpw.1 hpw.2.1 hpw.2.2
 have hFl := Fb_le (n := n) Ox
 refine wk_draws_m (hz1 := (Sa (sk _ (sc _ sn)) _)) [(0, 0), (1, 0), (2, 0), (3, 0), (7, 0), (8, 0), (9, 0), (4, 1), (5, 1), (6, 1), (10, 1), (11, 1), (12, 1), (13, 1), (14, 2)] 14 Kx Kx (fun c d v a w h => by cases d <;> exact h) ?_
 simp only [List.map_cons, List.map_nil, List.getD_cons_zero, List.getD_cons_succ]
 refine rf_loadR (n := 9) rfl rfl rfl UU41 rfl Kx (fun w hw => Kn.hd0 (Kn.tlU hw)) rfl rfl (Nq ?_)
 refine rf_loadR (n := 2) rfl rfl rfl UU28 rfl Kx (fun w hw => Kn.hd0 (Kn.tl (Kn.tlU hw))) rfl rfl (Zm ?_)
 refine rf_loadR (n := 2) rfl rfl rfl UU28 rfl Kx (fun w hw => Kn.hd0 (Kn.tl (Kn.tlU hw))) rfl rfl (Zm ?_)
 apply rg_pure Rx Kx
 case hargs => exact Ax
 case h => exact fun w hw => rAt_any N n k xs a c hlen.out hN Ox Ox w (hA.kn0 hw)
 case hz => exact (fun _ h => by cases h; exact (Sa (sc _ (sc _ sn)) _))
 simp only [qz]
 apply (rg_made (T := fun v u => ∃ s0 s1 s2 s3, v = wdV (nm xs (n * N + k)) s0 s1 s2 s3 ∧ SU4 u (nm xs (n * N + k)) s0 s1 s2 s3)) Rx Kx
 case hargs => exact Ax
 case h => exact fun w hw => wideOf_any (nm xs (n * N + k)) (Nm.fit_mono ox.fit (by decide)) w
 case hz => exact (fun _ h => by cases h; exact (Sa (sc _ (sc _ sn)) _))
 rintro _ u5 ⟨t0, t1, t2, t3, rfl, hS5⟩
 obtain ⟨⟨ta5_0, tc5_0, rfl⟩, -⟩ := id hS5.a
 obtain ⟨⟨ta5_1, tc5_1, rfl⟩, -⟩ := id hS5.b
 obtain ⟨⟨ta5_2, tc5_2, rfl⟩, -⟩ := id hS5.c
 obtain ⟨⟨ta5_3, tc5_3, rfl⟩, -⟩ := id hS5.d
 simp only [qz]
 apply rg_pure Rx Kx
 case hargs => exact Ax
 case h => exact fun w hw => wconj_any (nm xs (n * N + k)) _ _ _ _ (fit382 ox.fit) w (hS5.at hw (List.sublist_append_left _ _))
 case hz => exact (fun _ h => by cases h; exact ((Sa (sc _ (sc _ sn)) _).trans (Sr _ _)))
 simp only [qz]
 apply rg_pure Rx Kx
 case hargs => exact Ax
 case h => exact fun w hw => rAt_any N n l xs a c hlen.out hN Ox Ox w (hA.kn0 hw)
 case hz => exact (fun _ h => by cases h; exact ((Sa (sc _ (sc _ sn)) _).trans (Sr _ _)))
 simp only [qz]
 apply (rg_made (T := fun v u => ∃ s0 s1 s2 s3, v = wdV (nm xs (n * N + l)) s0 s1 s2 s3 ∧ SU4 u (nm xs (n * N + l)) s0 s1 s2 s3)) Rx Kx
 case hargs => exact Ax
 case h => exact fun w hw => wideOf_any (nm xs (n * N + l)) (Nm.fit_mono oy.fit (by decide)) w
 case hz => exact (fun _ h => by cases h; exact ((Sa (sc _ (sc _ sn)) _).trans (Sr _ _)))
 rintro _ u6 ⟨t0, t1, t2, t3, rfl, hS6⟩
 obtain ⟨⟨ta6_0, tc6_0, rfl⟩, -⟩ := id hS6.a
 obtain ⟨⟨ta6_1, tc6_1, rfl⟩, -⟩ := id hS6.b
 obtain ⟨⟨ta6_2, tc6_2, rfl⟩, -⟩ := id hS6.c
 obtain ⟨⟨ta6_3, tc6_3, rfl⟩, -⟩ := id hS6.d
 simp only [qz]
 apply (rg_made (T := fun v u => ∃ s0 s1 s2 s3, v = wdV (pr) s0 s1 s2 s3 ∧ SU4 u (pr) s0 s1 s2 s3)) Rx Kx
 case hargs => exact Ax
 case h => exact fun w hw => by have := wtimes_any (nm xs (n * N + k)).conj (nm xs (n * N + l)) _ _ _ _ _ _ _ _ (fit382 (conj_ok ox).fit) (fit382 oy.fit) (prodB_ok (conj_ok ox).fit oy.fit) ox.k0 (by have := ox.k1; simp only [Nm.conj]; omega) oy.k0 (by have := oy.k1; omega) w (hS5.at hw ((List.sublist_append_left _ _).trans (Sr _ _))).conj (hS6.at hw (List.sublist_append_left _ _)); rw [hpr.out] at this; exact this
 case hz => exact (fun _ h => by cases h; exact (((Sa (sc _ (sc _ sn)) _).trans (Sr _ _)).trans (Sr _ _)))
 rintro _ u7 ⟨t0, t1, t2, t3, rfl, hS7⟩
 obtain ⟨⟨ta7_0, tc7_0, rfl⟩, -⟩ := id hS7.a
 obtain ⟨⟨ta7_1, tc7_1, rfl⟩, -⟩ := id hS7.b
 obtain ⟨⟨ta7_2, tc7_2, rfl⟩, -⟩ := id hS7.c
 obtain ⟨⟨ta7_3, tc7_3, rfl⟩, -⟩ := id hS7.d
 simp only [qz]
 apply (rg_made (T := fun v u => ∃ s0 s1 s2 s3, v = wdV (y.addR pr) s0 s1 s2 s3 ∧ SU4 u (y.addR pr) s0 s1 s2 s3)) Rx Kx
 case hargs => exact Ax
 case h => exact fun w hw => wplus_any y pr _ _ _ _ _ _ _ _ (Nm.fit_mono haw.1 hFl) (Nm.fit_mono haw.2.1 hFl) hyw.2.1 Ox hpw.2.1 Ox w (hsk.at hw ((((List.sublist_append_left _ _).trans (Sr _ _)).trans (Sr _ _)).trans (Sr _ _))) (hS7.at hw (List.sublist_append_left _ _))
 case hz => exact (fun _ h => by cases h; exact ((((Sa (sc _ (sc _ sn)) _).trans (Sr _ _)).trans (Sr _ _)).trans (Sr _ _)))
 rintro _ u8 ⟨t0, t1, t2, t3, rfl, hS8⟩
 obtain ⟨⟨ta8_0, tc8_0, rfl⟩, -⟩ := id hS8.a
 obtain ⟨⟨ta8_1, tc8_1, rfl⟩, -⟩ := id hS8.b
 obtain ⟨⟨ta8_2, tc8_2, rfl⟩, -⟩ := id hS8.c
 obtain ⟨⟨ta8_3, tc8_3, rfl⟩, -⟩ := id hS8.d
 simp only [qz]
 refine rf_storeRM (n := 9) rfl rfl Kx rfl rfl (UpdR.app _ (UpdR.app _ (UpdR.app _ (UpdR.app _ (UpdR.app _ (UpdR.here _ _ _ Nl)))))) (((((Sa (sk _ (sc _ sn)) _).trans (Sr _ _)).trans (Sr _ _)).trans (Sr _ _)).trans (Sr _ _)) (Nw ?_)
 refine Zr ?_
 refine Wm [0, 0, 0] ?_
 refine rf_add rfl rfl rfl rfl (wrap_ok Ox Ox) (Zm ?_)
 refine rg_nil ?_
 refine ek_sub (Sa (((((sc _ (sc _ sn)).trans (Sr _ _)).trans (Sr _ _)).trans (Sr _ _)).trans (Sr _ _)) _) ?_
 refine ek_roundF (N - (n + 1)) Ox Kx ?_
 exact ⟨n + 1, y.addR pr, ta8_0, ta8_1, ta8_2, ta8_3, tc8_0, tc8_1, tc8_2, tc8_3, u8, rfl, by rfl, by rfl, Ox, (Lib.hid (by rw [colS, hy.out, hpr.out])), (SK4.own hS8)⟩
def mapM (F : Nat → List Nm → Nat → Nat → NR) (n : Int) (xs : List Nm) : LR := if validB n xs then madeR n.toNat (F n.toNat xs) else .error 20
theorem amConj_ok (z : Nm) (hz : z.Ok) (w : World) : Calls Tryz.prog 36 #[nmV z] w fun e w' => e = .returned (.tuple #[nmV z.conj, .int .i64 0]) ∧ Below w.heap.size w w' := by
 go_enter Tryz.func36, Tryz.ntmps36
 refine wk_start ?_
 refine wk_seq ?_
 refine Wr [1, 1, 0] ?_
 refine Rgn fun g1 => ?_
 simp only [qz]
 refine Rgn fun g2 => ?_
 refine Zx ?_
 refine Zr ?_
 refine Wr [0, 1, 0, 0, 1, 0] ?_
 refine rf_loadR (n := 5) rfl rfl rfl UU44 rfl Kx (fun w hw => Kn.hd0 (Kn.tl hw)) rfl rfl (Nq ?_)
 apply rg_pure Rx Kx
 case hargs => exact Ax
 case h => exact fun w hw => amchanged_ok z z.conj hz 81 #[] Kx w (fun w' _ => amconj_any z (Nm.fit_mono hz.fit Ox) w')
 case hz => exact Nz
 refine Zx ?_
 refine rf_storeR (n := 5) rfl rfl Kx rfl rfl (UpdR.here _ _ _ Nl) Nz (Nw ?_)
 refine Zx ?_
 refine Zr ?_
 refine ek_ret (fun w hw => ⟨rfl, _, run_results2 rfl rfl (Kn.hd0 hw) UU44 rfl Kx, ?_⟩)
 (try simp only [qz])
 first | exact ⟨rfl, hw.below⟩ | exact ⟨trivial, hw.below⟩ | exact hw.below
def dagF (N : Nat) (xs : List Nm) (i k : Nat) : NR := .ok (nm xs (k * N + i)).conj
theorem dag1_any (xs : List Nm) (a : Option Addr) (c : Nat) (N : Nat) (hN : N ≤ 6) (hlx : Hid (xs.length = N * N)) (hox : allOk xs = true) (i k gx : Nat) (hi : i < N) (hk : k < N) (w : World) (hA : AS w a (nms xs)) (hX : Hd w gx 79 #[.int .i64 N, .slice a xs.length c]) : Calls Tryz.prog 35 #[.int .i64 (i : Int), .int .i64 (k : Int), .pointer (some ⟨gx, 0, none⟩)] w fun e w' => e = .returned (numV (dagF N xs i k)) ∧ Below w.heap.size w w' := by
 go_enter Tryz.func35, Tryz.ntmps35
 refine wk_start ?_
 refine wk_seq ?_
 refine Wr [1, 0] ?_
 refine Rgn fun g1 => ?_
 refine Zx ?_
 refine Zr ?_
 refine Wr [0, 0, 0, 1, 1, 0, 0, 1, 0] ?_
 refine rf_loadC (n := 2) (vs := [.int .i64 N, .slice a xs.length c]) rfl rfl rfl UU79 rfl Kx rfl (fun w hw => cells_range (Kn.hdB hw hX (by simp)) 0 2) (Zx ?_)
 apply rg_pure Rx Kx
 case hargs => exact Ax
 case h => exact fun w hw => at_any N k i xs a c hlx.out hN hk hi w (hA.kn0 hw)
 case hz => exact Nz
 simp only [qz]
 apply rg_pure Rx Kx
 case hargs => exact Ax
 case h => exact fun w hw => amConj_ok (nm xs (k * N + i)) (elemOk hox hlx.out hk hi) w
 case hz => exact Nz
 refine Zx ?_
 refine rf_storeR (n := 5) rfl rfl Kx rfl rfl (UpdR.here _ _ _ Nl) Nz (Nw ?_)
 refine Zx ?_
 refine Zr ?_
 refine ek_ret (fun w hw => ⟨rfl, _, run_results2 rfl rfl (Kn.hd0 hw) UU44 rfl Kx, ?_⟩)
 (try simp only [qz])
 exact ⟨rfl, hw.below⟩
theorem mdagger_any (n : Int) (xs : List Nm) (a : Option Addr) (c : Nat) (hl : xs.length ≤ 1000000) (w : World) (hA : AS w a (nms xs)) : Calls Tryz.prog 8 #[.agg #[.int .i64 n, .slice a xs.length c]] w fun e w' => RetM w (rN n.toNat (mapM dagF n xs)) (rL (mapM dagF n xs)) (rC (mapM dagF n xs)) e w' := by
 go_enter Tryz.func8, Tryz.ntmps8
 refine wk_start ?_
 refine wk_seq ?_
 refine Wr [1, 1, 0] ?_
 refine Rgn fun g1 => ?_
 simp only [qz]
 refine Rgn fun g2 => ?_
 refine Zx ?_
 refine Zr ?_
 refine Wr [0, 1, 0] ?_
 refine rf_loadR (n := 2) rfl rfl rfl UU28 rfl Kx (fun w hw => Kn.hd0 (Kn.tl hw)) rfl rfl (Nq ?_)
 apply rg_pureb Rx Kx
 case hargs => exact Ax
 case h => exact fun w hw => mvalid_any n xs a c hl w (hA.kn0 hw)
 case hz => exact Nz
 rintro (_ | _) h1 <;> try simp only [qd, ne_eq] at h1
 ·refine Zx ?_
  refine Zr ?_; refine Wr [0, 1, 0] ?_; refine rf_build (cs := fun a => #[.int .i64 0, .slice none 0 0]) rfl rfl Kx (Nq ?_); refine rf_storeR (n := 2) rfl rfl Kx rfl rfl (UpdR.here _ _ _ Nl) Nz (Nw ?_); refine Zx ?_; refine Zr ?_; refine ek_ret (fun w hw => ⟨rfl, _, run_results2 rfl rfl (Kn.hd0 hw) UU28 rfl Kx, ?_⟩); (try simp only [qz])
  exact retM_err (c := 20) (by unfold mapM; rw [h1]; rfl) hw.below
 simp only [qz]
 have hv := h1
 obtain ⟨N, rfl, hN1, hN, hlx, hlx36, hox⟩ := validB_N' hv
 replace hlx := Lib.hid hlx
 have hcp : mapM dagF (N : Int) xs = madeR N (dagF N xs) := by (unfold mapM; rw [hv, if_pos rfl, Int.toNat_natCast])
 replace hcp := Lib.hid hcp
 refine Zx ?_
 refine Zr ?_
 refine Wr [0, 0, 1, 1] ?_
 refine rf_loadR (n := 2) rfl rfl rfl UU28 rfl Kx (fun w hw => Kn.hd0 (Kn.tl hw)) rfl rfl (Nq ?_)
 refine rf_build (cs := fun a => #[cellAt (a.eval (.tmp 9)) 0, cellAt (a.eval (.tmp 9)) 1]) rfl rfl Kx (Nq ?_)
 refine Rgn fun g3 => ?_
 simp only [qz]
 refine rf_storeR (n := 2) rfl rfl Kx rfl rfl (UpdR.here _ _ _ Nl) Nz (Nw ?_)
 refine Zr ?_
 refine Wr [0, 0, 0, 1, 0, 0, 1, 0] ?_
 refine Fd 0 0 UU28 ?_
 refine rf_load rfl rfl rfl UU3 rfl (fun w hw => (Kn.hd0 (Kn.tl (Kn.tl hw))).at rfl) (Nq ?_)
 refine Zk ?_
 apply rg_retM Rx Kx
 case hargs => exact Ax
 case h => exact fun w hw => made_any N hN (dagF N xs) _ (fun i k c hi hk h => by cases h) w ⟨_, _, _, rfl, by kernel_rfl, fun w' hb vs r ⟨i, k, hi, hk, hv, hr⟩ => by
   subst hv hr
   have h := dag1_any xs a c N hN hlx hox i k g3 hi hk w' ((hA.kn0 hw).below hb) ((Kn.hd0 hw).belowS hb)
   simpa using h⟩
 case hz => exact Nz
 intro va5 vc5 u5 hO5
 refine Zx ?_
 refine rf_storeR (n := 2) rfl rfl Kx rfl rfl (UpdR.app _ (UpdR.there _ (UpdR.here _ _ _ Nl))) Nz (Nw ?_)
 refine Zx ?_
 refine Zr ?_
 refine ek_ret (fun w hw => ⟨rfl, _, run_results2 rfl rfl (Kn.hd0 (Kn.tl (Kn.tlU hw))) UU28 rfl Kx, ?_⟩)
 (try simp only [qz])
 exact ⟨.slice va5 _ vc5, u5, by rw [hcp.out]; rfl, by rw [hcp.out]; exact hO5, hw.made (List.sublist_append_left _ _)⟩
theorem arr_eqIn0 (a b c d a' b' c' d' : Int) (w : World) : (Op.equalIn 10000 42 (.agg #[.int .i64 a, .int .i64 b, .int .i64 c, .int .i64 d]) (.agg #[.int .i64 a', .int .i64 b', .int .i64 c', .int .i64 d'])).run Tryz.prog w = .ok (decide (a = a' ∧ b = b' ∧ c = c' ∧ d = d')) w := by
 have u3 := UU3
 have a3 := Tryz.isAgg3
 have z3 := Tryz.sizeOf3
 rw [show (10000 : Nat) = 9999 + 1 from rfl, Op.equalIn]
 simp only [Sem.run_bind, run_underlying UU42, Result.andThen_ok]
 simp only [Std.Legacy.Range.forIn_eq_forIn_range', Std.Legacy.Range.size, Nat.sub_zero, Nat.add_sub_cancel, Nat.div_one, List.range'_succ, List.range'_zero, List.forIn_cons, List.forIn_nil]
 go_simp
 by_cases h1 : a = a' <;> by_cases h2 : b = b' <;> by_cases h3 : c = c' <;> by_cases h4 : d = d' <;> simp [h1, h2, h3, h4]
theorem arr_guard (op : BinOp) (u v : Operand) (x y : Array Value) (w : World) : (eqGuard op 42 u v (.agg x) (.agg y)).run Tryz.prog w = .ok () w := by
 have h : (Tryz.prog.eqGuardType Tryz.prog.depth 42) = false := by kernel_rfl
 unfold eqGuard
 cases op <;> simp [h]
section
variable {R : Option Nat} {ops : Array Oper} {Q : Exit → Act → World → Prop} {B : World} {F : List Nat} {s0 : Option (List Blk × List Blk)}
variable {l : List (Oper × Nat)} {a : Act} {s : List Blk} {d : Option Tmp} {t : TypeId} {p : String} {af : Array Edge} {gd : Option (Nat × Bool)} {m : Nat}
theorem rf_eqA4 {x y : Operand} {z : TypeId} {i j k n i' j' k' n' : Int} (hm : soft03 m = true) (hg : Region.wanted ⟨d, .binOp .eql 42 x y z, t, p, af, gd⟩ (yielded ops a.tmps) = true)
    (hx : a.eval x = .agg #[.int .i64 i, .int .i64 j, .int .i64 k, .int .i64 n]) (hy : a.eval y = .agg #[.int .i64 i', .int .i64 j', .int .i64 k', .int .i64 n']) (h : Rg R Tryz.prog ops Q B F s0 l (a.put d (.bool (decide (i = i' ∧ j = j' ∧ k = k' ∧ n = n')))) s) : Rg R Tryz.prog ops Q B F s0 ((⟨d, .binOp .eql 42 x y z, t, p, af, gd⟩, m) :: l) a s := by
  refine rg_any hm hg (fun w => ?_) h
  unfold Yld
  have hb : (binOp .eql 42 (.agg #[.int .i64 i, .int .i64 j, .int .i64 k, .int .i64 n]) (.agg #[.int .i64 i', .int .i64 j', .int .i64 k', .int .i64 n'])).run Tryz.prog w = .ok (.bool (decide (i = i' ∧ j = j' ∧ k = k' ∧ n = n'))) w := by rw [run_eql_struct, arr_eqIn0]; rfl
  have hgd := arr_guard .eql x y #[.int .i64 i, .int .i64 j, .int .i64 k, .int .i64 n] #[.int .i64 i', .int .i64 j', .int .i64 k', .int .i64 n'] w
  show ((eqGuard .eql _ x y (a.eval x) (a.eval y) >>= fun _ => binOp .eql _ (a.eval x) (a.eval y)) >>= fun r => pure (Next.value r)).run Tryz.prog w = _
  rw [hx, hy, Sem.run_bind, Sem.run_bind, hgd, Result.andThen_ok, hb]
  rfl
end
def oddV (z : Nm) : Value := .agg #[.int .i64 (z.a % 2), .int .i64 (z.b % 2), .int .i64 (z.c % 2), .int .i64 (z.d % 2)]
theorem okM_t1 {x y : Nm} (h : wtE x = wtE y) (h2 : x.a % 2 = y.a % 2 ∧ x.b % 2 = y.b % 2 ∧ x.c % 2 = y.c % 2 ∧ x.d % 2 = y.d % 2) : okM x y = true := by unfold okM; rw [if_pos h]; exact decide_eq_true h2
theorem okM_f1 {x y : Nm} (h : wtE x = wtE y) (h2 : ¬ (x.a % 2 = y.a % 2 ∧ x.b % 2 = y.b % 2 ∧ x.c % 2 = y.c % 2 ∧ x.d % 2 = y.d % 2)) : okM x y = false := by unfold okM; rw [if_pos h]; exact decide_eq_false h2
theorem okM_t2 {x y : Nm} (h : ¬ wtE x = wtE y) (h2 : x.a % 2 = 1 - y.a % 2 ∧ x.b % 2 = 1 - y.b % 2 ∧ x.c % 2 = 1 - y.c % 2 ∧ x.d % 2 = 1 - y.d % 2) : okM x y = true := by unfold okM; rw [if_neg h]; exact decide_eq_true h2
theorem okM_f2 {x y : Nm} (h : ¬ wtE x = wtE y) (h2 : ¬ (x.a % 2 = 1 - y.a % 2 ∧ x.b % 2 = 1 - y.b % 2 ∧ x.c % 2 = 1 - y.c % 2 ∧ x.d % 2 = 1 - y.d % 2)) : okM x y = false := by unfold okM; rw [if_neg h]; exact decide_eq_false h2
theorem turn_N {n : Nat} (h : n < 4) (y : Nm) : Nm.turn ((n : Int) % 8).toNat y = turnN n y := by
 rcases (by omega : n = 0 ∨ n = 1 ∨ n = 2 ∨ n = 3) with rfl | rfl | rfl | rfl <;> rfl
theorem match_at {x y : Nm} {n : Nat} (hn : n < 4) (hf : ∀ j, j < n → okM x (turnN j y) = false) (ht : okM x (turnN n y) = true) : matchN x y = n := by
 unfold matchN
 rcases (by omega : n = 0 ∨ n = 1 ∨ n = 2 ∨ n = 3) with rfl | rfl | rfl | rfl
 ·rw [if_pos ht]
 ·rw [hf 0 Ox, if_neg (by decide), if_pos ht]
 ·rw [hf 0 Ox, hf 1 Ox, if_neg (by decide), if_neg (by decide), if_pos ht]
 rw [hf 0 Ox, hf 1 Ox, hf 2 Ox, if_neg (by decide), if_neg (by decide), if_neg (by decide), if_pos ht]
theorem match_no {x y : Nm} (hf : ∀ j, j < 4 → okM x (turnN j y) = false) : matchN x y = 0 := by
 unfold matchN
 rw [hf 0 Ox, hf 1 Ox, hf 2 Ox, hf 3 Ox]; rfl
theorem must_any (z : Nm) (c : Int) (w : World) : Calls Tryz.prog 113 #[.agg #[.int .i64 z.a, .int .i64 z.b, .int .i64 z.c, .int .i64 z.d, .int .i64 z.k], .int .i64 c] w fun e w' => e = .returned (nmV z) ∧ Below w.heap.size w w' := by
 go_enter Tryz.func113, Tryz.ntmps113
 refine wk_start ?_
 refine wk_seq ?_
 refine Wr [1, 1] ?_
 refine Rgn fun g1 => ?_
 simp only [qz]
 refine Rgn fun g2 => ?_
 simp only [qz]
 refine Zr ?_
 refine Wr [0, 1] ?_
 refine rf_loadR (n := 5) rfl rfl rfl UU44 rfl Kx (fun w hw => Kn.hd0 (Kn.tl hw)) rfl rfl (Nq ?_)
 refine rf_storeR (n := 5) rfl rfl Kx rfl rfl (UpdR.here _ _ _ Nl) Nz (Nw ?_)
 refine Zr ?_
 refine ek_ret (fun w hw => ⟨rfl, _, run_results1 rfl rfl (Kn.hd0 hw) UU44 rfl Kx, ?_⟩)
 (try simp only [qz])
 first | exact ⟨rfl, hw.below⟩ | exact ⟨trivial, hw.below⟩ | exact hw.below
theorem weight_any (a b c d : Int) (h : 0 ≤ a ∧ a ≤ 1 ∧ 0 ≤ b ∧ b ≤ 1 ∧ 0 ≤ c ∧ c ≤ 1 ∧ 0 ≤ d ∧ d ≤ 1) (w : World) : Calls Tryz.prog 150 #[.agg #[.int .i64 a, .int .i64 b, .int .i64 c, .int .i64 d]] w fun e w' => e = .returned (.int .i64 (a + b + c + d)) ∧ Below w.heap.size w w' := by
 go_enter Tryz.func150, Tryz.ntmps150
 refine wk_start ?_
 refine wk_seq ?_
 refine Wr [1, 0] ?_
 refine Rgn fun g1 => ?_
 refine Zx ?_
 refine Zr ?_
 refine Wr [0, 0, 0, 0, 0, 0, 0, 0, 0, 0, 0, 0] ?_
 refine Ia 0 1 0 UU42 ?_
 refine rf_load rfl rfl rfl UU3 rfl (fun w hw => (Kn.hd0 hw).at rfl) (Nq ?_)
 refine Ia 1 1 1 UU42 ?_
 refine rf_load rfl rfl rfl UU3 rfl (fun w hw => (Kn.hd0 hw).at rfl) (Nq ?_)
 refine rf_add rfl rfl rfl rfl (wrap_ok Ox Ox) (Nq ?_)
 refine Ia 2 1 2 UU42 ?_
 refine rf_load rfl rfl rfl UU3 rfl (fun w hw => (Kn.hd0 hw).at rfl) (Nq ?_)
 refine rf_add rfl rfl rfl rfl (wrap_ok Ox Ox) (Nq ?_)
 refine Ia 3 1 3 UU42 ?_
 refine rf_load rfl rfl rfl UU3 rfl (fun w hw => (Kn.hd0 hw).at rfl) (Nq ?_)
 refine rf_add rfl rfl rfl rfl (wrap_ok Ox Ox) (Zx ?_)
 refine Zr ?_
 refine Er fun w hw => ?_
 (try simp only [qz])
 first | exact ⟨rfl, hw.below⟩ | exact ⟨trivial, hw.below⟩ | exact hw.below
theorem odd_any (z : Nm) (w : World) : Calls Tryz.prog 151 #[.agg #[.int .i64 z.a, .int .i64 z.b, .int .i64 z.c, .int .i64 z.d, .int .i64 z.k]] w fun e w' => e = .returned (oddV z) ∧ Below w.heap.size w w' := by
 go_enter Tryz.func151, Tryz.ntmps151
 refine wk_start ?_
 refine wk_seq ?_
 refine Wr [1, 1] ?_
 refine Rgn fun g1 => ?_
 simp only [qz]
 refine Rgn fun g2 => ?_
 simp only [qz]
 refine Zr ?_
 refine Wr [1] ?_
 refine Rgn fun g3 => ?_
 simp only [qz]
 refine Zr ?_
 refine Wr [0, 0, 0] ?_
 refine Fd 3 0 UU44 ?_
 refine rf_loadR (n := 4) rfl rfl rfl UU42 rfl Kx (fun w hw => Kn.hd0 (Kn.tl (Kn.tl hw))) rfl rfl (Zx ?_)
 refine rg_nil (ek_next (wk_block ?_))
 refine wk_unroll 4 ?_
 refine wk_seq ?_
 refine Wr [0] ?_
 refine rf_lss (b := true) rfl rfl rfl rfl (by decide) (Nq ?_)
 refine Zr ?_
 refine Wx [0, 0, 0, 0] ?_
 apply rg_soft
 case hy => (intro w hw; have hand := and1; exact Gy)
 refine Zx ?_
 refine rg_nil (ek_next ?_)
 refine Wx [0, 0, 0, 0, 1] ?_
 refine rf_and rfl rfl rfl rfl (and1 _) (Nq ?_)
 refine Ia 0 1 0 UU42 ?_
 refine rf_store rfl rfl Kx rfl rfl (UpdR.here _ _ _ Nl) Nz (Nq ?_)
 refine Zr ?_
 refine Wr [0, 0] ?_
 refine rf_add (r := 1) rfl rfl rfl rfl (by decide) (Zx ?_)
 refine Zr ?_
 refine Wr [0] ?_
 refine rf_lss (b := true) rfl rfl rfl rfl (by decide) (Nq ?_)
 refine Zr ?_
 refine Wx [0, 0, 0, 0] ?_
 apply rg_soft
 case hy => (intro w hw; have hand := and1; exact Gy)
 refine Zx ?_
 refine rg_nil (ek_next ?_)
 refine Wx [0, 0, 0, 0, 1] ?_
 refine rf_and rfl rfl rfl rfl (and1 _) (Nq ?_)
 refine Ia 1 1 1 UU42 ?_
 refine rf_store rfl rfl Kx rfl rfl (UpdR.here _ _ _ Nl) Nz (Nq ?_)
 refine Zr ?_
 refine Wr [0, 0] ?_
 refine rf_add (r := 2) rfl rfl rfl rfl (by decide) (Zx ?_)
 refine Zr ?_
 refine Wr [0] ?_
 refine rf_lss (b := true) rfl rfl rfl rfl (by decide) (Nq ?_)
 refine Zr ?_
 refine Wx [0, 0, 0, 0] ?_
 apply rg_soft
 case hy => (intro w hw; have hand := and1; exact Gy)
 refine Zx ?_
 refine rg_nil (ek_next ?_)
 refine Wx [0, 0, 0, 0, 1] ?_
 refine rf_and rfl rfl rfl rfl (and1 _) (Nq ?_)
 refine Ia 2 1 2 UU42 ?_
 refine rf_store rfl rfl Kx rfl rfl (UpdR.here _ _ _ Nl) Nz (Nq ?_)
 refine Zr ?_
 refine Wr [0, 0] ?_
 refine rf_add (r := 3) rfl rfl rfl rfl (by decide) (Zx ?_)
 refine Zr ?_
 refine Wr [0] ?_
 refine rf_lss (b := true) rfl rfl rfl rfl (by decide) (Nq ?_)
 refine Zr ?_
 refine Wx [0, 0, 0, 0] ?_
 apply rg_soft
 case hy => (intro w hw; have hand := and1; exact Gy)
 refine Zx ?_
 refine rg_nil (ek_next ?_)
 refine Wx [0, 0, 0, 0, 1] ?_
 refine rf_and rfl rfl rfl rfl (and1 _) (Nq ?_)
 refine Ia 3 1 3 UU42 ?_
 refine rf_store rfl rfl Kx rfl rfl (UpdR.here _ _ _ Nl) Nz (Nq ?_)
 refine Zr ?_
 refine Wr [0, 0] ?_
 refine rf_add (r := 4) rfl rfl rfl rfl (by decide) (Zx ?_)
 refine Zr ?_
 refine Wr [0] ?_
 refine rf_lss (b := false) rfl rfl rfl rfl (by decide) (Nq ?_)
 refine Zr ?_
 refine Wr [0, 1] ?_
 refine rf_loadR (n := 4) rfl rfl rfl UU42 rfl Kx (fun w hw => Kn.hd0 hw) rfl rfl (Nq ?_)
 refine rf_storeR (n := 4) rfl rfl Kx rfl rfl (UpdR.there _ (UpdR.here _ _ _ Nl)) Nz (Nw ?_)
 refine Zr ?_
 refine ek_ret (fun w hw => ⟨rfl, _, run_results1 rfl rfl (Kn.hd0 (Kn.tl hw)) UU42 rfl Kx, ?_⟩)
 (try simp only [qz])
 exact ⟨rfl, hw.below⟩
theorem kind_any (z : Nm) (k : Int) (w : World) : Calls Tryz.prog 134 #[.agg #[.int .i64 z.a, .int .i64 z.b, .int .i64 z.c, .int .i64 z.d, .int .i64 z.k], .int .i64 k] w fun e w' => e = .returned (.int .i64 (kindN z k)) ∧ Below w.heap.size w w' := by
 go_enter Tryz.func134, Tryz.ntmps134
 refine wk_start ?_
 refine wk_seq ?_
 refine Wr [1, 0] ?_
 refine Rgn fun g1 => ?_
 refine Zx ?_
 refine Zr ?_
 refine Wr [0, 0, 0, 0, 0] ?_
 refine Fd 0 4 UU44 ?_
 refine rf_load rfl rfl rfl UU3 rfl (fun w hw => (Kn.hd0 hw).at rfl) (Zx ?_)
 refine rfb_lss rfl rfl rfl rfl ?_
 rintro (_ | _) h1 <;> try simp only [qd, ne_eq] at h1
 ·refine Zx ?_
  refine Zr ?_; refine Wr [0, 1, 1, 0, 0, 0] ?_; refine rf_loadR (n := 5) rfl rfl rfl UU44 rfl Kx (fun w hw => Kn.hd0 hw) rfl rfl (Nq ?_); apply rg_pure Rx Kx
  case hargs => exact Ax
  case h => exact fun w hw => odd_any z w
  case hz => exact Nz
  simp only [qz]; apply rg_pure Rx Kx
  case hargs => exact Ax
  case h => exact fun w hw => weight_any (z.a % 2) (z.b % 2) (z.c % 2) (z.d % 2) Ox w
  case hz => exact Nz
  simp only [qz]; refine rf_and (r := (z.a % 2 + z.b % 2 + z.c % 2 + z.d % 2) % 2) rfl rfl rfl rfl (and1 _) (Nq ?_); refine rfb_eql rfl rfl rfl rfl ?_
  rintro (_ | _) h2 <;> try simp only [qd, ne_eq] at h2
  ·refine Zx ?_
   refine Zr ?_; refine Wx [0] ?_; refine Zr ?_
   refine Er fun w hw => ?_
   (try simp only [qz])
   exact ⟨by rw [show kindN z k = 2 by (unfold kindN sumE; rw [if_neg Ox, if_neg Ox])], hw.below⟩
  refine Zx ?_; refine Zr ?_; refine Wx [0] ?_; refine Zr ?_
  refine Er fun w hw => ?_
  (try simp only [qz])
  exact ⟨by rw [show kindN z k = 1 by (unfold kindN sumE; rw [if_neg Ox, if_pos Ox])], hw.below⟩
 refine Zx ?_
 refine Zr ?_
 refine Wx [0] ?_
 refine Zr ?_
 refine Er fun w hw => ?_
 (try simp only [qz])
 exact ⟨by rw [show kindN z k = 0 from if_pos Ox], hw.below⟩
theorem match_any (x y : Nm) (hy : y.Ok) (w : World) : Calls Tryz.prog 135 #[.agg #[.int .i64 x.a, .int .i64 x.b, .int .i64 x.c, .int .i64 x.d, .int .i64 x.k], .agg #[.int .i64 y.a, .int .i64 y.b, .int .i64 y.c, .int .i64 y.d, .int .i64 y.k]] w fun e w' => e = .returned (.int .i64 (matchN x y : Nat)) ∧ Below w.heap.size w w' := by
 go_enter Tryz.func135, Tryz.ntmps135
 refine wk_start ?_
 refine wk_seq ?_
 refine Wr [1, 1, 0] ?_
 refine Rgn fun g1 => ?_
 simp only [qz]
 refine Rgn fun g2 => ?_
 refine Zx ?_
 refine Zr ?_
 refine Wr [0, 1, 1, 1] ?_
 refine rf_loadR (n := 5) rfl rfl rfl UU44 rfl Kx (fun w hw => Kn.hd0 (Kn.tl hw)) rfl rfl (Nq ?_)
 apply rg_pure Rx Kx
 case hargs => exact Ax
 case h => exact fun w hw => odd_any x w
 case hz => exact Nz
 simp only [qz]
 refine Rgn fun g3 => ?_
 simp only [qz]
 refine rf_storeR (n := 4) rfl rfl Kx rfl rfl (UpdR.here _ _ _ Nl) Nz (Nw ?_)
 refine Zr ?_
 refine Wx [0] ?_
 refine Zr ?_
 refine wk_loopF [4, 6, 7, 8, 11, 12, 13, 14, 15, 16, 17, 18, 19, 20, 21, 22, 23, 24, 25, 26, 27, 28, 29, 30, 31, 32, 33, 34, 35, 36, 37, 38, 39, 40] (fun mz f s => ∃ (n : Nat), f 11 = .int .i64 n ∧ s = ((g3, .cells #[.int .i64 (x.a % 2), .int .i64 (x.b % 2), .int .i64 (x.c % 2), .int .i64 (x.d % 2)] 42) :: ((g2, .cells #[.int .i64 y.a, .int .i64 y.b, .int .i64 y.c, .int .i64 y.d, .int .i64 y.k] 44) :: ((g1, .cells #[.int .i64 x.a, .int .i64 x.b, .int .i64 x.c, .int .i64 x.d, .int .i64 x.k] 44) :: []))) ∧ mz = 4 - n ∧ n ≤ 4 ∧ (∀ j, j < n → okM x (turnN j y) = false)) ((fun (n : Nat) => 4 - n) (0)) ?_ Kx ?_
 ·exact ⟨0, rfl, rfl, rfl, by omega, (fun j hj => absurd hj Ox)⟩
 rintro mz f1 s ⟨n, hs1_11, rfl, hn, hc1, hc2⟩
 simp only [Act.putF, List.foldl_cons, List.foldl_nil, hs1_11, Act.put, Act.eval, qW, Nat.reduceAdd, Bool.not_true, Bool.not_false]
 clear hs1_11
 refine wk_seq ?_
 refine Wr [0] ?_
 refine rfb_lss rfl rfl rfl rfl ?_
 rintro (_ | _) h1 <;> try simp only [qd, ne_eq] at h1
 ·simp only [qz]
  refine Zr ?_; refine Wx [0] ?_; refine Zr ?_
  refine Er fun w hw => ?_
  (try simp only [qz])
  obtain rfl : n = 4 := by omega
  exact ⟨by rw [match_no hc2]; rfl, hw.below⟩
 simp only [qz]
 refine Zr ?_
 refine Wx [0, 0] ?_
 refine Zr ?_
 refine Wr [0, 0, 1, 0, 0, 1, 1, 1, 1] ?_
 refine rf_loadR (n := 5) rfl rfl rfl UU44 rfl Kx (fun w hw => Kn.hd0 (Kn.tl hw)) rfl rfl (Zx ?_)
 apply rg_pure Rx Kx
 case hargs => exact Ax
 case h => exact fun w hw => by have := amTurn_ok y (n : Int) hy w; rw [turn_N Ox] at this; exact this
 case hz => exact Nz
 refine Zx ?_
 apply rg_pure Rx Kx
 case hargs => exact Ax
 case h => exact fun w hw => must_any (turnN n y) 0 w
 case hz => exact Nz
 simp only [qz]
 apply rg_pure Rx Kx
 case hargs => exact Ax
 case h => exact fun w hw => odd_any (turnN n y) w
 case hz => exact Nz
 simp only [qz]
 refine Rgn fun g4 => ?_
 simp only [qz]
 refine rf_storeR (n := 4) rfl rfl Kx rfl rfl (UpdR.here _ _ _ Nl) Nz (Nw ?_)
 refine Zr ?_
 refine wk_draws _ _ [(0, 0), (2, 0), (1, 1), (3, 1), (4, 0)] [] Kx Kx (fun c d v a w h => by cases d <;> exact h) ((sc _ (sc _ (sc _ (sc _ sn))))) (fun e => by first | exact absurd e (by decide) | rfl) ?_
 simp only [List.map_cons, List.map_nil, List.getD_cons_zero, List.getD_cons_succ]
 refine rf_loadR (n := 4) rfl rfl rfl UU42 rfl Kx (fun w hw => Kn.hd0 (Kn.tl hw)) rfl rfl (Nq ?_)
 refine rf_loadR (n := 4) rfl rfl rfl UU42 rfl Kx (fun w hw => Kn.hd0 hw) rfl rfl (Nq ?_)
 apply rg_pure Rx Kx
 case hargs => exact Ax
 case h => exact fun w hw => weight_any (x.a % 2) (x.b % 2) (x.c % 2) (x.d % 2) Ox w
 case hz => exact (fun _ h => by cases h; exact (sc _ (sc _ (sc _ (sc _ sn)))))
 simp only [qz]
 apply rg_pure Rx Kx
 case hargs => exact Ax
 case h => exact fun w hw => weight_any ((turnN n y).a % 2) ((turnN n y).b % 2) ((turnN n y).c % 2) ((turnN n y).d % 2) Ox w
 case hz => exact (fun _ h => by cases h; exact (sc _ (sc _ (sc _ (sc _ sn)))))
 simp only [qz]
 refine rfb_neq rfl rfl rfl rfl ?_
 rintro (_ | _) h2 <;> try simp only [qd, ne_eq] at h2
 ·simp only [qz]
  refine Zr ?_; refine Wr [0, 0, 0] ?_; refine rf_loadR (n := 4) rfl rfl rfl UU42 rfl Kx (fun w hw => Kn.hd0 (Kn.tl hw)) rfl rfl (Nq ?_); refine rf_loadR (n := 4) rfl rfl rfl UU42 rfl Kx (fun w hw => Kn.hd0 hw) rfl rfl (Nq ?_); refine rf_eqA4 rfl rfl rfl rfl (Nq ?_); refine rg_nil (ek_next ?_); refine wk_cond (t := _) rfl (fun h3 => ?_) (fun h3 => ?_)
  ·replace h3 := of_decide_eq_true h3
   refine wk_seq ?_; refine Wx [0, 0] ?_; refine Zr ?_
   refine Er fun w hw => ?_
   (try simp only [qz])
   have e := match_at (x := x) (y := y) (show n < 4 by omega) hc2 (okM_t1 (by unfold wtE; omega) h3)
   exact ⟨by rw [e], hw.below⟩
  replace h3 := of_decide_eq_false h3
  refine wk_skip (ek_block (ek_next ?_)); refine Wr [0, 0] ?_; refine rf_add rfl rfl rfl rfl (wrap_ok Ox Ox) (Zx ?_); refine rg_nil ?_; refine ek_sub (sk _ (sc _ (sc _ (sc _ sn)))) ?_; refine ek_roundF (4 - (n + 1)) Ox Kx ?_
  exact ⟨n + 1, rfl, by rfl, by rfl, by omega, (fun j hj => if e : j = n then e ▸ okM_f1 (by unfold wtE; omega) h3 else hc2 j Ox)⟩
 simp only [qz]
 refine Zr ?_
 refine Wx [0] ?_
 refine rg_nil (ek_next (wk_block ?_))
 refine wk_unroll 4 ?_
 refine wk_seq ?_
 refine Wr [0] ?_
 refine rf_lss (b := true) rfl rfl rfl rfl (by decide) (Nq ?_)
 refine Zr ?_
 refine Wx [0, 0] ?_
 refine rg_nil (ek_next ?_)
 refine Wx [0, 0, 0, 0, 0, 0, 1] ?_
 refine Ia 0 1 0 UU42 ?_
 refine rf_load rfl rfl rfl UU3 rfl (fun w hw => (Kn.hd0 hw).at rfl) (Nq ?_)
 refine rf_sub rfl rfl rfl rfl (wrap_ok Ox Ox) (Nq ?_)
 refine Ia 0 1 0 UU42 ?_
 refine rf_store rfl rfl Kx rfl rfl (UpdR.here _ _ _ Nl) Nz (Nq ?_)
 refine Zr ?_
 refine Wr [0, 0] ?_
 refine rf_add (r := 1) rfl rfl rfl rfl (by decide) (Zx ?_)
 refine Zr ?_
 refine Wr [0] ?_
 refine rf_lss (b := true) rfl rfl rfl rfl (by decide) (Nq ?_)
 refine Zr ?_
 refine Wx [0, 0] ?_
 refine rg_nil (ek_next ?_)
 refine Wx [0, 0, 0, 0, 0, 0, 1] ?_
 refine Ia 1 1 1 UU42 ?_
 refine rf_load rfl rfl rfl UU3 rfl (fun w hw => (Kn.hd0 hw).at rfl) (Nq ?_)
 refine rf_sub rfl rfl rfl rfl (wrap_ok Ox Ox) (Nq ?_)
 refine Ia 1 1 1 UU42 ?_
 refine rf_store rfl rfl Kx rfl rfl (UpdR.here _ _ _ Nl) Nz (Nq ?_)
 refine Zr ?_
 refine Wr [0, 0] ?_
 refine rf_add (r := 2) rfl rfl rfl rfl (by decide) (Zx ?_)
 refine Zr ?_
 refine Wr [0] ?_
 refine rf_lss (b := true) rfl rfl rfl rfl (by decide) (Nq ?_)
 refine Zr ?_
 refine Wx [0, 0] ?_
 refine rg_nil (ek_next ?_)
 refine Wx [0, 0, 0, 0, 0, 0, 1] ?_
 refine Ia 2 1 2 UU42 ?_
 refine rf_load rfl rfl rfl UU3 rfl (fun w hw => (Kn.hd0 hw).at rfl) (Nq ?_)
 refine rf_sub rfl rfl rfl rfl (wrap_ok Ox Ox) (Nq ?_)
 refine Ia 2 1 2 UU42 ?_
 refine rf_store rfl rfl Kx rfl rfl (UpdR.here _ _ _ Nl) Nz (Nq ?_)
 refine Zr ?_
 refine Wr [0, 0] ?_
 refine rf_add (r := 3) rfl rfl rfl rfl (by decide) (Zx ?_)
 refine Zr ?_
 refine Wr [0] ?_
 refine rf_lss (b := true) rfl rfl rfl rfl (by decide) (Nq ?_)
 refine Zr ?_
 refine Wx [0, 0] ?_
 refine rg_nil (ek_next ?_)
 refine Wx [0, 0, 0, 0, 0, 0, 1] ?_
 refine Ia 3 1 3 UU42 ?_
 refine rf_load rfl rfl rfl UU3 rfl (fun w hw => (Kn.hd0 hw).at rfl) (Nq ?_)
 refine rf_sub rfl rfl rfl rfl (wrap_ok Ox Ox) (Nq ?_)
 refine Ia 3 1 3 UU42 ?_
 refine rf_store rfl rfl Kx rfl rfl (UpdR.here _ _ _ Nl) Nz (Nq ?_)
 refine Zr ?_
 refine Wr [0, 0] ?_
 refine rf_add (r := 4) rfl rfl rfl rfl (by decide) (Zx ?_)
 refine Zr ?_
 refine Wr [0] ?_
 refine rf_lss (b := false) rfl rfl rfl rfl (by decide) (Nq ?_)
 refine Zr ?_
 refine Wr [0, 0, 0] ?_
 refine rf_loadR (n := 4) rfl rfl rfl UU42 rfl Kx (fun w hw => Kn.hd0 (Kn.tl hw)) rfl rfl (Nq ?_)
 refine rf_loadR (n := 4) rfl rfl rfl UU42 rfl Kx (fun w hw => Kn.hd0 hw) rfl rfl (Nq ?_)
 refine rf_eqA4 rfl rfl rfl rfl (Nq ?_)
 refine rg_nil (ek_next ?_)
 refine wk_cond (t := _) rfl (fun h4 => ?_) (fun h4 => ?_)
 ·replace h4 := of_decide_eq_true h4
  refine wk_seq ?_; refine Wx [0, 0] ?_; refine Zr ?_
  refine Er fun w hw => ?_
  (try simp only [qz])
  have e := match_at (x := x) (y := y) (show n < 4 by omega) hc2 (okM_t2 (by unfold wtE; omega) h4)
  exact ⟨by rw [e], hw.below⟩
 replace h4 := of_decide_eq_false h4
 refine wk_skip (ek_block (ek_next ?_))
 refine Wr [0, 0] ?_
 refine rf_add rfl rfl rfl rfl (wrap_ok Ox Ox) (Zx ?_)
 refine rg_nil ?_
 refine ek_sub (sk _ (sc _ (sc _ (sc _ sn)))) ?_
 refine ek_roundF (4 - (n + 1)) Ox Kx ?_
 exact ⟨n + 1, rfl, by rfl, by rfl, by omega, (fun j hj => if e : j = n then e ▸ okM_f2 (by unfold wtE; omega) h4 else hc2 j Ox)⟩
def wrS (l : List Nm) (f : Nat → Nm) (k : Nat) : List Nm := (List.range l.length).map fun j => if j < k then f j else nm l j
theorem wrS_len (l : List Nm) (f : Nat → Nm) (k : Nat) : (wrS l f k).length = l.length := by simp [wrS]
theorem wrS_nm {l : List Nm} {f : Nat → Nm} {k j : Nat} (h : j < l.length) : nm (wrS l f k) j = if j < k then f j else nm l j := by
 show ((wrS l f k).getD j _) = _
 unfold wrS
 rw [List.getD_eq_getElem?_getD, List.getElem?_map, List.getElem?_range h]; rfl
theorem wrS_zero (l : List Nm) (f : Nat → Nm) : wrS l f 0 = l := by
 refine List.ext_getElem (wrS_len l f 0) fun j h1 h2 => ?_
 have e := wrS_nm (l := l) (f := f) (k := 0) h2
 rw [if_neg Ox] at e
 unfold nm El.at at e
 rw [List.getD_eq_getElem?_getD, List.getD_eq_getElem?_getD, List.getElem?_eq_getElem h1, List.getElem?_eq_getElem h2] at e
 exact e
theorem wrS_set {l : List Nm} {f : Nat → Nm} {k : Nat} (h : k < l.length) : (wrS l f k).set k (f k) = wrS l f (k + 1) := by
 refine List.ext_getElem (by rw [List.length_set, wrS_len, wrS_len]) fun j h1 h2 => ?_
 have hj : j < l.length := by rw [wrS_len] at h2; exact h2
 have e1 := wrS_nm (l := l) (f := f) (k := k) hj
 have e2 := wrS_nm (l := l) (f := f) (k := k + 1) hj
 unfold nm El.at at e1 e2
 rw [List.getD_eq_getElem?_getD, List.getElem?_eq_getElem (by rw [wrS_len]; exact hj)] at e1
 rw [List.getD_eq_getElem?_getD, List.getElem?_eq_getElem h2] at e2
 simp only [Option.getD_some] at e1 e2
 rw [List.getElem_set, e2]
 by_cases e : k = j
 ·subst e; rw [if_pos rfl, if_pos Ox]
 ·rw [if_neg e, e1]
  by_cases hlt : j < k
  ·rw [if_pos hlt, if_pos Ox]
  ·rw [if_neg hlt, if_neg Ox]
theorem sw_get {x y : RW} {A C : List RW} {i : Nat} : (A ++ y :: x :: C)[i]? = (A ++ x :: y :: C)[swq A.length i]? := by
 rcases (by omega : i < A.length ∨ i = A.length ∨ i = A.length + 1 ∨ A.length + 2 ≤ i) with h | h | h | h
 ·rw [swq_o Ox Ox, List.getElem?_append_left h, List.getElem?_append_left h]
 ·subst h; rw [swq_p, List.getElem?_append_right (Nat.le_refl _), List.getElem?_append_right Ox]; simp
 ·subst h; rw [swq_q, List.getElem?_append_right Ox, List.getElem?_append_right (Nat.le_refl _)]; simp
 ·rw [swq_o Ox Ox, List.getElem?_append_right Ox, List.getElem?_append_right Ox]
  obtain ⟨m, hm⟩ : ∃ m, i - A.length = m + 2 := ⟨i - A.length - 2, by omega⟩
  rw [hm]; rfl
theorem ap_one {x : RW} {A C : List RW} {i : Nat} {q : RW} (h : (A ++ x :: C)[i]? = some q) : i = A.length ∧ q = x ∨ i ≠ A.length ∧ ∀ x', (A ++ x' :: C)[i]? = some q := by
 rcases (by omega : i < A.length ∨ i = A.length ∨ A.length + 1 ≤ i) with h1 | h1 | h1
 ·refine .inr ⟨by omega, fun x' => ?_⟩
  rw [List.getElem?_append_left h1] at h ⊢; exact h
 ·subst h1
  rw [List.getElem?_append_right (Nat.le_refl _), Nat.sub_self] at h
  exact .inl ⟨rfl, (Option.some.inj h).symm⟩
 ·refine .inr ⟨by omega, fun x' => ?_⟩
  rw [List.getElem?_append_right Ox] at h ⊢
  obtain ⟨m, hm⟩ : ∃ m, i - A.length = m + 1 := ⟨i - A.length - 1, by omega⟩
  rw [hm] at h ⊢; exact h
theorem ap_two {x y : RW} {A C : List RW} {i : Nat} {q : RW} (h : (A ++ x :: y :: C)[i]? = some q) : i = A.length ∧ q = x ∨ i = A.length + 1 ∧ q = y ∨ i ≠ A.length ∧ i ≠ A.length + 1 ∧ ∀ x' y', (A ++ x' :: y' :: C)[i]? = some q := by
 rcases (by omega : i < A.length ∨ i = A.length ∨ i = A.length + 1 ∨ A.length + 2 ≤ i) with h1 | h1 | h1 | h1
 ·refine .inr (.inr ⟨by omega, by omega, fun x' y' => ?_⟩)
  rw [List.getElem?_append_left h1] at h ⊢; exact h
 ·subst h1
  rw [List.getElem?_append_right (Nat.le_refl _), Nat.sub_self] at h
  exact .inl ⟨rfl, (Option.some.inj h).symm⟩
 ·subst h1
  rw [List.getElem?_append_right Ox, show A.length + 1 - A.length = 1 by omega] at h
  exact .inr (.inl ⟨rfl, (Option.some.inj h).symm⟩)
 ·refine .inr (.inr ⟨by omega, by omega, fun x' y' => ?_⟩)
  rw [List.getElem?_append_right Ox] at h ⊢
  obtain ⟨m, hm⟩ : ∃ m, i - A.length = m + 2 := ⟨i - A.length - 2, by omega⟩
  rw [hm] at h ⊢; exact h
theorem at_one {x : RW} {A C : List RW} : (A ++ x :: C)[A.length]? = some x := by rw [List.getElem?_append_right (Nat.le_refl _), Nat.sub_self]; rfl
theorem at_two {x y : RW} {A C : List RW} : (A ++ x :: y :: C)[A.length + 1]? = some y := by rw [List.getElem?_append_right Ox, show A.length + 1 - A.length = 1 by omega]; rfl
theorem at_oneP {x : RW} {A C : List RW} {p : Nat} (h : A.length = p) : (A ++ x :: C)[p]? = some x := h ▸ at_one
theorem at_twoP {x y : RW} {A C : List RW} {p : Nat} (h : A.length = p) : (A ++ x :: y :: C)[p + 1]? = some y := h ▸ at_two
theorem cross_set {N p : Nat} {A C : List RW} {b c b' c' : Nat} {l l' : List Nm} {r r' ro : List Value} (hA : A.length = p) :
    (((rwV N (A ++ ⟨b, c, l, r⟩ :: ⟨b', c', l', r'⟩ :: C) ++ ro).set p (.slice (some ⟨b', 0, none⟩) N c')).set (p + 1) (.slice (some ⟨b, 0, none⟩) N c)) = rwV N (A ++ ⟨b', c', l', r'⟩ :: ⟨b, c, l, r⟩ :: C) ++ ro := by
  subst hA
  have hl : (A.map (RW.val N)).length = A.length := List.length_map ..
  simp only [rwV, List.map_append, List.map_cons, List.append_assoc, List.cons_append]; rw [List.set_append_right _ _ (by rw [hl]; exact Nat.le_refl _), hl, Nat.sub_self, List.set_cons_zero, List.set_append_right _ _ (by rw [hl]; omega), hl, show A.length + 1 - A.length = 0 + 1 by omega, List.set_cons_succ, List.set_cons_zero]
  rfl
theorem go_sz {N : Nat} {rs : List RW} {ro : List Value} {i : Nat} (h : i < rs.length) (v : Value) : i + [v].length ≤ (rwV N rs ++ ro).toArray.size := by
 rw [List.size_toArray, List.length_append, List.length_map]
 show i + 1 ≤ _
 omega
theorem go_sz2 {N : Nat} {rs : List RW} {ro : List Value} {i j : Nat} (h : i < rs.length) (v v' : Value) : i + [v].length ≤ ((rwV N rs ++ ro).set j v').toArray.size := by
 rw [List.size_toArray, List.length_set, List.length_append, List.length_map]
 show i + 1 ≤ _
 omega
section
variable {N gw go oc : Nat} {z : Zt} {L : List It} {ro : List Value} {ia : Option Addr} {ic : Nat} {u : List Blk}
theorem rw_swap {A C : List RW} {x y : RW} : (rwB (A ++ x :: y :: C)).Perm (rwB (A ++ y :: x :: C)) := ((List.Perm.swap _ _ _).append_left A).map _
theorem WS.crossed {p : Nat} {A C : List RW} {x y : RW} (hA : A.length = p) (hl : (A ++ x :: y :: C).length = N) (hp : p + 1 < N) (hoc : N ≤ oc) (hlen : ∀ q ∈ A ++ x :: y :: C, q.l.length = N)
    (hval : ∀ i q, (A ++ x :: y :: C)[i]? = some q → ∀ k, k < N → nm q.l k = z i k) (hO : OwnT u (.slice ia L.length ic) L) (hok : ∀ i k, i < N → k < N → (z i k).Ok) :
    WS N gw (crZ p z) L ((gw, .cells #[.slice (some ⟨go, 0, none⟩) N oc, .slice ia L.length ic] 118) :: (go, .cells (rwV N (A ++ y :: x :: C) ++ ro).toArray 26) :: (rwB (A ++ y :: x :: C) ++ (u ++ []))) :=
  ⟨go, oc, ro, A ++ y :: x :: C, ia, ic, u, rfl, by rw [← hl]; simp, hoc, fun q hq => hlen q (by simp at hq ⊢; rcases hq with h | h | h | h <;> simp [h]), fun i q hq k hk => by
    rw [sw_get] at hq
    subst hA
    exact hval _ q hq k hk, hO, fun i k hi hk => hok _ k (swq_lt hp hi) hk⟩
theorem WS.wrote {p : Nat} {A C : List RW} {b c : Nat} {l : List Nm} {r : List Value} {f : Nat → Nm} {z' : Zt} (hA : A.length = p) (hl : (A ++ ⟨b, c, l, r⟩ :: C).length = N) (hoc : N ≤ oc) (hlen : ∀ q ∈ A ++ ⟨b, c, l, r⟩ :: C, q.l.length = N)
    (hval : ∀ i q, (A ++ ⟨b, c, l, r⟩ :: C)[i]? = some q → ∀ k, k < N → nm q.l k = z i k) (hO : OwnT u (.slice ia L.length ic) L) (hok : ∀ i k, i < N → k < N → (z' i k).Ok) (hf : ∀ k, k < N → f k = z' p k) (hz : ∀ i k, i ≠ p → i < N → k < N → z' i k = z i k) :
    WS N gw z' L ((gw, .cells #[.slice (some ⟨go, 0, none⟩) N oc, .slice ia L.length ic] 118) :: (go, .cells (rwV N (A ++ ⟨b, c, l, r⟩ :: C) ++ ro).toArray 26) :: (rwB A ++ (b, .cells (NmE.flat (wrS l f N) ++ r).toArray 44) :: (rwB C ++ (u ++ [])))) := by
  have hll : l.length = N := hlen ⟨b, c, l, r⟩ (by simp)
  refine ⟨go, oc, ro, A ++ ⟨b, c, wrS l f N, r⟩ :: C, ia, ic, u, ?_, by rw [← hl]; simp, hoc, fun q hq => ?_, fun i q hq k hk => ?_, hO, hok⟩
  · rw [rw_one, List.append_assoc, List.cons_append]
    have e : rwV N (A ++ ⟨b, c, l, r⟩ :: C) = rwV N (A ++ ⟨b, c, wrS l f N, r⟩ :: C) := by unfold rwV; rw [List.map_append, List.map_append, List.map_cons, List.map_cons]; rfl
    rw [e]
  · rcases List.mem_append.1 hq with h | h
    · exact hlen q (List.mem_append_left _ h)
    · rcases List.mem_cons.1 h with rfl | h
      · exact (wrS_len l f N).trans hll
      · exact hlen q (List.mem_append_right _ (List.mem_cons_of_mem _ h))
  · have hiN : i < N := by
      rcases Nat.lt_or_ge i (A ++ ⟨b, c, wrS l f N, r⟩ :: C).length with h | h
      · rw [← hl]; simpa using h
      · rw [List.getElem?_eq_none h] at hq; cases hq
    rcases ap_one hq with ⟨e1, e2⟩ | ⟨e1, e2⟩
    · subst e2 e1
      show nm (wrS l f N) k = _
      rw [wrS_nm Ox, if_pos hk, hf k hk, hA]
    · rw [hval i q (e2 _) k hk, hz i k Ox hiN hk]
theorem WS.wrote2 {p : Nat} {A C : List RW} {b c b1 c1 : Nat} {l l1 : List Nm} {r r1 : List Value} {f g : Nat → Nm} {z' : Zt} (hA : A.length = p) (hl : (A ++ ⟨b, c, l, r⟩ :: ⟨b1, c1, l1, r1⟩ :: C).length = N) (hoc : N ≤ oc) (hlen : ∀ q ∈ A ++ ⟨b, c, l, r⟩ :: ⟨b1, c1, l1, r1⟩ :: C, q.l.length = N)
    (hval : ∀ i q, (A ++ ⟨b, c, l, r⟩ :: ⟨b1, c1, l1, r1⟩ :: C)[i]? = some q → ∀ k, k < N → nm q.l k = z i k) (hO : OwnT u (.slice ia L.length ic) L) (hok : ∀ i k, i < N → k < N → (z' i k).Ok) (hf : ∀ k, k < N → f k = z' p k) (hg : ∀ k, k < N → g k = z' (p + 1) k) (hz : ∀ i k, i ≠ p → i ≠ p + 1 → i < N → k < N → z' i k = z i k) :
    WS N gw z' L ((gw, .cells #[.slice (some ⟨go, 0, none⟩) N oc, .slice ia L.length ic] 118) :: (go, .cells (rwV N (A ++ ⟨b, c, l, r⟩ :: ⟨b1, c1, l1, r1⟩ :: C) ++ ro).toArray 26) :: (rwB A ++ (b, .cells (NmE.flat (wrS l f N) ++ r).toArray 44) :: (b1, .cells (NmE.flat (wrS l1 g N) ++ r1).toArray 44) :: (rwB C ++ (u ++ [])))) := by
  have hll : l.length = N := hlen ⟨b, c, l, r⟩ (by simp)
  have hll1 : l1.length = N := hlen ⟨b1, c1, l1, r1⟩ (by simp)
  refine ⟨go, oc, ro, A ++ ⟨b, c, wrS l f N, r⟩ :: ⟨b1, c1, wrS l1 g N, r1⟩ :: C, ia, ic, u, ?_, by rw [← hl]; simp, hoc, fun q hq => ?_, fun i q hq k hk => ?_, hO, hok⟩
  · rw [rw_two, List.append_assoc, List.cons_append, List.cons_append]
    have e : rwV N (A ++ ⟨b, c, l, r⟩ :: ⟨b1, c1, l1, r1⟩ :: C) = rwV N (A ++ ⟨b, c, wrS l f N, r⟩ :: ⟨b1, c1, wrS l1 g N, r1⟩ :: C) := by
      unfold rwV; rw [List.map_append, List.map_append, List.map_cons, List.map_cons, List.map_cons, List.map_cons]; rfl
    rw [e]
  · rcases List.mem_append.1 hq with h | h
    · exact hlen q (List.mem_append_left _ h)
    · rcases List.mem_cons.1 h with rfl | h
      · exact (wrS_len l f N).trans hll
      · rcases List.mem_cons.1 h with rfl | h
        · exact (wrS_len l1 g N).trans hll1
        · exact hlen q (List.mem_append_right _ (List.mem_cons_of_mem _ (List.mem_cons_of_mem _ h)))
  · have hiN : i < N := by
      rcases Nat.lt_or_ge i (A ++ ⟨b, c, wrS l f N, r⟩ :: ⟨b1, c1, wrS l1 g N, r1⟩ :: C).length with h | h
      · rw [← hl]; simpa using h
      · rw [List.getElem?_eq_none h] at hq; cases hq
    rcases ap_two hq with ⟨e1, e2⟩ | ⟨e1, e2⟩ | ⟨e1, e2, e3⟩
    · subst e2 e1
      show nm (wrS l f N) k = _
      rw [wrS_nm Ox, if_pos hk, hf k hk, hA]
    · subst e2 e1
      show nm (wrS l1 g N) k = _
      rw [wrS_nm Ox, if_pos hk, hg k hk, hA]
    · rw [hval i q (e3 _ _) k hk, hz i k Ox Ox hiN hk]
end
theorem amHalve_ok (z : Nm) (n : Int) (hz : z.Ok) (h0 : 0 ≤ n) (h1 : n ≤ 100) (w : World) : Calls Tryz.prog 152 #[nmV z, .int .i64 n] w fun e w' => e = .returned (numV (z.halve n)) ∧ Below w.heap.size w w' := by
 obtain ⟨hk0, hk1⟩ := (⟨hz.k0, hz.k1⟩ : 0 ≤ z.k ∧ z.k ≤ 40)
 go_enter Tryz.func152, Tryz.ntmps152
 refine wk_start ?_
 refine wk_seq ?_
 refine Wr [1, 1, 0] ?_
 refine Rgn fun g1 => ?_
 simp only [qz]
 refine Rgn fun g2 => ?_
 refine Zx ?_
 refine Zr ?_
 refine Wr [0, 1, 0, 0] ?_
 refine rf_loadR (n := 5) rfl rfl rfl UU44 rfl Kx (fun w hw => Kn.hd0 (Kn.tl hw)) rfl rfl (Nq ?_)
 apply rg_pure Rx Kx
 case hargs => exact Ax
 case h => exact fun w hw => by have := amvalid_any z w; rw [okB_yes hz] at this; exact this
 case hz => exact Nz
 refine Zx ?_
 refine Zr ?_
 refine Wx [0, 0, 0, 0, 0, 0, 0] ?_
 refine rfb_lss rfl rfl rfl rfl ?_
 intro x h1
 obtain rfl : x = false := by (refine h1.symm.trans ?_; exact decide_eq_false Ox)
 clear h1
 refine Zx ?_
 apply rg_soft_g
 case hg => rfl
 case hy => (intro w hw; exact Gy)
 simp only [qz]
 refine rfb_gtr rfl rfl rfl rfl ?_
 intro x h2
 obtain rfl : x = false := by (refine h2.symm.trans ?_; exact decide_eq_false Ox)
 clear h2
 refine Zx ?_
 refine Zr ?_
 refine Wr [0, 0, 0, 0, 0, 0, 0, 1, 0, 0, 1, 0] ?_
 refine Fd 3 0 UU44 ?_
 refine rf_loadR (n := 4) rfl rfl rfl UU42 rfl Kx (fun w hw => Kn.hd0 (Kn.tl hw)) rfl rfl (Nq ?_)
 refine Fd 0 4 UU44 ?_
 refine rf_load rfl rfl rfl UU3 rfl (fun w hw => (Kn.hd0 (Kn.tl hw)).at rfl) (Zx ?_)
 refine rf_add rfl rfl rfl rfl (wrap_ok Ox Ox) (Nq ?_)
 refine rf_build (cs := fun a => #[cellAt (a.eval (.tmp 20)) 0, cellAt (a.eval (.tmp 20)) 1, cellAt (a.eval (.tmp 20)) 2, cellAt (a.eval (.tmp 20)) 3, a.eval (.tmp 24)]) rfl rfl Kx (Nq ?_)
 apply rg_num Rx Kx
 case hargs => exact Ax
 case h => exact fun w hw => result_any ⟨z.a, z.b, z.c, z.d, z.k + n⟩ (by have := Nm.fit_mono hz.fit (show (1000000000 : Int) ≤ 4611686018427387903 by omega); exact ⟨this.a0, this.a1, this.b0, this.b1, this.c0, this.c1, this.d0, this.d1⟩) (by have := hz.k1; dsimp only; omega) w
 case hz => exact Nz
 case hc => exact (fun c h => mk_err h)
 ·intro hr3
  refine Zx ?_; refine rf_storeR (n := 5) rfl rfl Kx rfl rfl (UpdR.here _ _ _ Nl) Nz (Nw ?_); refine Zx ?_; refine Zr ?_; refine ek_ret (fun w hw => ⟨rfl, _, run_results2 rfl rfl (Kn.hd0 hw) UU44 rfl Kx, ?_⟩); (try simp only [qz])
  exact ⟨by rw [show z.halve n = _ from hr3]; rfl, hw.below⟩
 intro z3 hr3
 refine Zx ?_
 refine rf_storeR (n := 5) rfl rfl Kx rfl rfl (UpdR.here _ _ _ Nl) Nz (Nw ?_)
 refine Zx ?_
 refine Zr ?_
 refine ek_ret (fun w hw => ⟨rfl, _, run_results2 rfl rfl (Kn.hd0 hw) UU44 rfl Kx, ?_⟩)
 (try simp only [qz])
 exact ⟨by rw [show z.halve n = _ from hr3]; rfl, hw.below⟩
theorem errI_mt : ∀ r : NR, numV r = .tuple #[nmV (mtR r), .int .i64 (match r with | .ok _ => 0 | .error c => c)]
  | .ok _ => rfl
  | .error _ => rfl
def errI (r : NR) : Int := match r with
  | .ok _ => 0
  | .error c => c
theorem amAdd_mt (x y : Nm) (hx : x.Ok) (hy : y.Ok) (w : World) : Calls Tryz.prog 60 #[nmV x, nmV y] w fun e w' => e = .returned (.tuple #[nmV (mtR (x.add y)), .int .i64 (errI (x.add y))]) ∧ Below w.heap.size w w' :=
  (amAdd_ok x y hx hy w).mono fun e w' ⟨h1, h2⟩ => ⟨h1.trans (by rw [errI_mt]; rfl), h2⟩
theorem amHalve_mt (z : Nm) (hz : z.Ok) (w : World) : Calls Tryz.prog 152 #[nmV z, .int .i64 1] w fun e w' => e = .returned (.tuple #[nmV (mtR (z.halve 1)), .int .i64 (errI (z.halve 1))]) ∧ Below w.heap.size w w' :=
  (amHalve_ok z 1 hz Ox Ox w).mono fun e w' ⟨h1, h2⟩ => ⟨h1.trans (by rw [errI_mt]; rfl), h2⟩
theorem amTurn2 (z : Nm) (hz : z.Ok) (w : World) : Calls Tryz.prog 98 #[nmV z, .int .i64 2] w fun e w' => e = .returned (.tuple #[nmV z.rot.rot, .int .i64 0]) ∧ Below w.heap.size w w' := amTurn_ok z 2 hz w
theorem amTurnM (z : Nm) (m : Nat) (hm : m < 8) (hz : z.Ok) (w : World) : Calls Tryz.prog 98 #[nmV z, .int .i64 (m : Int)] w fun e w' => e = .returned (.tuple #[nmV (turnM m z), .int .i64 0]) ∧ Below w.heap.size w w' := by
 have h := amTurn_ok z (m : Int) hz w
 have e : Nm.turn ((m : Int) % 8).toNat z = turnM m z := by
  rw [show ((m : Int) % 8).toNat = m by omega]; clear h hm hz
  induction m with
  | zero => rfl
  | succ m ih => show (Nm.turn m z).rot = (turnM m z).rot; rw [ih]
 rw [e] at h
 exact h
theorem mtR_ok {x : Nm} (h0 : 0 ≤ x.k) : (mtR x.mk').Ok := by
 cases h : x.mk' with
 | ok v => exact (mk_ok h0 h).1
 | error c => exact zero_ok
theorem cX_ok {x y : Nm} (hx : x.Ok) (hy : y.Ok) : (mtR (x.add y.rot.rot)).Ok ∧ (cX x y).Ok := by
 have h1 : (mtR (x.add y.rot.rot)).Ok := mtR_ok (addR_k hx.k0)
 exact ⟨h1, mtR_ok (by show 0 ≤ (mtR (x.add y.rot.rot)).k + 1; have := h1.k0; omega)⟩
theorem cY_ok {x y : Nm} (hx : x.Ok) (hy : y.Ok) : (mtR (x.rot.rot.add y)).Ok ∧ (cY x y).Ok := by
 have h1 : (mtR (x.rot.rot.add y)).Ok := mtR_ok (addR_k (show 0 ≤ x.k from hx.k0))
 exact ⟨h1, mtR_ok (by show 0 ≤ (mtR (x.rot.rot.add y)).k + 1; have := h1.k0; omega)⟩
theorem wcross_any (N p gw : Nat) (z : Zt) (L : List It) (s : List Blk) (hS : WS N gw z L s) (hN : N ≤ 6) (hL : L.length ≤ 100000) (hp : p + 1 < N) (w : World) (hK : Kn w (s.map (·.1)) s w) : Calls Tryz.prog 137 #[.pointer (some ⟨gw, 0, none⟩), .int .i64 (p : Int)] w fun e w' => e = .returned (.tuple #[]) ∧ ∃ s', Kn w (s.map (·.1)) s' w' ∧ WS N gw (crZ p z) (L ++ [cross p]) s' := by
 obtain ⟨go, oc, ro, rs, ia, ic, u, rfl, hrl, hoc, hlen, hval, hO, hok⟩ := hS
 obtain ⟨A, b, c, l, r, b1, c1, l1, r1, C, rfl, hA⟩ := split2 (p := p) (rs := rs) Ox
 have hpl : p + 1 < (A ++ ⟨b, c, l, r⟩ :: ⟨b1, c1, l1, r1⟩ :: C).length := by omega
 go_enter Tryz.func137, Tryz.ntmps137
 refine wk_startF hK ?_
 refine wk_seq ?_
 refine wk_draws_m (hz1 := (sc _ (sk _ (Sa (Sa sn _) _)))) [(0, 0), (1, 0), (2, 0), (3, 0), (4, 0), (5, 3), (6, 3), (7, 3), (8, 0), (9, 3), (10, 3), (11, 0), (12, 0), (13, 0), (14, 0), (15, 0), (16, 0), (17, 0), (18, 0), (19, 3), (20, 3), (21, 3), (22, 0), (23, 3), (24, 3), (25, 0), (26, 0), (27, 2), (28, 0), (29, 1)] 27 Kx Kx (fun c d v a w h => by cases d <;> exact h) ?_
 simp only [List.map_cons, List.map_nil, List.getD_cons_zero, List.getD_cons_succ]
 refine Zx ?_
 refine Zk ?_
 refine Fd 0 0 UU118 ?_
 refine rf_load rfl rfl rfl UU116 rfl (fun w hw => (Kn.hd0 hw).at rfl) (Zx ?_)
 refine rg_moveP ?_
 simp only [qz]
 apply rg_softP
 case hy => (intro w hw; exact Gy)
 simp only [qz]
 refine Fd 0 0 UU118 ?_
 refine rf_load rfl rfl rfl UU116 rfl (fun w hw => (Kn.hd0 hw).at rfl) (Nq ?_)
 refine rg_moveP ?_
 simp only [qz]
 refine rf_add rfl rfl rfl rfl (wrap_ok Ox Ox) (Zx ?_)
 refine Zk ?_
 refine Fd 0 0 UU118 ?_
 refine rf_load rfl rfl rfl UU116 rfl (fun w hw => (Kn.hd0 hw).at rfl) (Zx ?_)
 refine rf_add rfl rfl rfl rfl (wrap_ok Ox Ox) (Nq ?_)
 refine rf_indexS (n := p + 1) (sz := 1) (j := p + 1) rfl rfl rfl rfl UU116 Kx Ox Ox Ox (Nq ?_)
 refine rf_load (v := .slice (some ⟨b1, 0, none⟩) N c1) rfl rfl rfl UU26 rfl (fun w hw => Kn.outer (Kn.tl hw) (at_twoP hA)) (Nq ?_)
 refine rg_moveP ?_
 simp only [qz]
 apply rg_softP
 case hy => (intro w hw; exact Gy)
 simp only [qz]
 refine Fd 0 0 UU118 ?_
 refine rf_load rfl rfl rfl UU116 rfl (fun w hw => (Kn.hd0 hw).at rfl) (Nq ?_)
 refine rg_moveP ?_
 simp only [qz]
 refine rf_indexS (n := p) (sz := 1) (j := p) rfl rfl rfl rfl UU116 Kx Ox Ox Ox (Nq ?_)
 refine rf_load (v := .slice (some ⟨b, 0, none⟩) N c) rfl rfl rfl UU26 rfl (fun w hw => Kn.outer (Kn.tl hw) (at_oneP hA)) (Nq ?_)
 refine rf_indexS (n := p) (sz := 1) (j := p) rfl rfl rfl rfl UU116 Kx Ox Ox Ox (Nq ?_)
 have hs1 := go_sz (N := N) (ro := ro) (i := p) (rs := A ++ ⟨b, c, l, r⟩ :: ⟨b1, c1, l1, r1⟩ :: C) Ox (.slice (some ⟨b1, 0, none⟩) N c1)
 refine rf_storeM rfl rfl Kx rfl rfl (UpdR.there _ (UpdR.here _ _ _ hs1)) (sc _ (sk _ (Sa (Sa sn _) _))) (Nq ?_)
 refine rf_indexS (n := p + 1) (sz := 1) (j := p + 1) rfl rfl rfl rfl UU116 Kx Ox Ox Ox (Nq ?_)
 have hs2 := go_sz2 (N := N) (ro := ro) (i := p + 1) (j := p) (rs := A ++ ⟨b, c, l, r⟩ :: ⟨b1, c1, l1, r1⟩ :: C) Ox (.slice (some ⟨b, 0, none⟩) N c) (.slice (some ⟨b1, 0, none⟩) N c1)
 refine rf_store rfl rfl Kx rfl rfl (UpdR.there _ (UpdR.here _ _ _ hs2)) (fun _ h => by cases h; exact (sc _ (sk _ (Sa (Sa sn _) _)))) (Nq ?_)
 rw [cross_set hA]
 refine rg_nil (ek_next ?_)
 refine Wx [0, 0, 0, 0, 0, 0, 0, 0, 1, 1, 0, 0, 1] ?_
 refine Zk ?_
 refine Fd 0 1 UU118 ?_
 refine rf_load rfl rfl rfl UU22 rfl (fun w hw => (Kn.hd0 hw).at rfl) (Zx ?_)
 refine rf_add rfl rfl rfl rfl (wrap_ok Ox Ox) (Nq ?_)
 refine rf_build (cs := fun a => #[a.eval (.const (.int .i64 3)), a.eval (.tmp 38), .int .i64 0, .string ⟨#[]⟩]) rfl rfl Kx (Nq ?_)
 refine rg_newS (cs := ?_) (ty := ?_) (n := 1) (c := 1) Rx (fun w => ?_) Nz (fun g1 => ?_); rotate_left 2
 focus (go_simp; rfl)
 simp only [qz]
 refine rg_appendT (xs := L) (x := cross p) Rx rfl hO rfl Ox ((((((((((List.Perm.refl _).append_left _).trans (List.perm_append_comm_assoc (rwB (A ++ ⟨b, c, l, r⟩ :: ⟨b1, c1, l1, r1⟩ :: C)) u _)).cons _).trans (List.perm_middle (l₁ := u)).symm).cons _).trans (List.perm_middle (l₁ := u)).symm).cons _).trans (List.perm_middle (l₁ := u)).symm).trans ((List.Perm.refl _).append_left _)) (fun w hw => Kn.hd0 hw) Nz (fun uQ vQ hOQ => ?_)
 obtain ⟨aQ, cQ, rfl, -⟩ := Own.val hOQ
 simp only [qz]
 refine Zk ?_
 refine Fd 0 1 UU118 ?_
 refine rf_store rfl rfl Kx rfl rfl (UpdR.app _ (UpdR.there _ (UpdR.here _ _ _ Nl))) Nz (Nq ?_)
 refine rg_nil ?_
 refine ek_perm ((((((List.Perm.refl _).cons _).trans (List.Perm.swap _ _ _)).append_left _).trans (List.perm_middle (l₁ := uQ))).trans (((((((List.Perm.refl _).cons _).trans (List.Perm.swap _ _ _)).append_left _).trans (List.perm_middle (l₁ := uQ))).trans (((((((List.Perm.refl _).cons _).trans (List.perm_middle (l₁ := (rwB (A ++ ⟨b, c, l, r⟩ :: ⟨b1, c1, l1, r1⟩ :: C)))).symm).append_left _).trans (List.perm_append_comm_assoc uQ (rwB (A ++ ⟨b, c, l, r⟩ :: ⟨b1, c1, l1, r1⟩ :: C)) _)).trans ((List.Perm.refl _).append_left _)).cons _)).cons _)) ?_
 refine ek_sub (sc _ (sc _ (Sa (Sa (sk _ sn) _) _))) ?_
 refine ek_norm (fun w hw => ⟨rfl, _, res_0 rfl, ?_⟩)
 (try simp only [qz])
 have hW := WS.crossed (gw := gw) (go := go) (oc := oc) (ro := ro) (z := z) (L := L ++ [cross p]) (ia := aQ) (ic := cQ) (u := uQ) hA hrl hp hoc hlen hval hOQ hok
 exact ⟨(by first | rfl | trivial), _, hw.perm (((rw_swap.append_right _).cons _).cons _), hW⟩
theorem wphase_any (N p gw : Nat) (z : Zt) (L : List It) (s : List Blk) (hS : WS N gw z L s) (hN : N ≤ 6) (hL : L.length ≤ 100000) (hp : p < N) (n : Int) (m : Nat) (hm : n % 8 = (m : Int)) (w : World) (hK : Kn w (s.map (·.1)) s w) : Calls Tryz.prog 114 #[.pointer (some ⟨gw, 0, none⟩), .int .i64 (p : Int), .int .i64 n] w fun e w' => e = .returned (.tuple #[]) ∧ ∃ s', Kn w (s.map (·.1)) s' w' ∧ WS N gw (phZ p m z) (if m = 0 then L else L ++ [phsI ((p : Int) + 1) m]) s' := by
 obtain ⟨go, oc, ro, rs, ia, ic, u, rfl, hrl, hoc, hlen, hval, hO, hok⟩ := hS
 obtain ⟨A, b, c, l, r, C, rfl, hA⟩ := split1 (p := p) (rs := rs) Ox
 have hll : l.length = N := hlen ⟨b, c, l, r⟩ (by simp)
 rw [rw_one, List.append_assoc, List.cons_append] at hK ⊢
 go_enter Tryz.func114, Tryz.ntmps114
 refine wk_startF hK ?_
 refine wk_seq (wk_seq ?_)
 refine Wx [0, 0, 0] ?_
 refine rf_and (r := (m : Int)) rfl rfl rfl rfl ((and7 n).trans hm) (Zx ?_)
 refine Zr ?_
 refine Wx [0, 0] ?_
 refine rfb_eql rfl rfl rfl rfl ?_
 rintro (_ | _) h1 <;> try simp only [qd, ne_eq] at h1
 ·simp only [qz]
  refine Zr ?_; refine Wx [0, 0, 0, 0, 0, 0, 0, 0, 0] ?_; refine Zk ?_; refine Fd 0 0 UU118 ?_; refine rf_load rfl rfl rfl UU116 rfl (fun w hw => (Kn.hd0 hw).at rfl) (Zx ?_); refine rf_indexS (n := p) (sz := 1) (j := p) rfl rfl rfl rfl UU116 Kx Ox Ox Ox (Nq ?_); refine rf_load (v := .slice (some ⟨b, 0, none⟩) N c) rfl rfl rfl UU26 rfl (fun w hw => Kn.outer (Kn.tl hw) (at_oneP hA)) (Nq ?_)
  refine rf_len rfl rfl rfl UU26 (Zx ?_); refine Zr ?_; refine wk_loopF [6, 7, 20, 21, 22, 23, 24, 25, 26, 27, 28, 29, 30, 31, 32, 33, 34, 35, 36, 37, 38, 39, 40] (fun mz f s => ∃ (k : Nat), f 20 = .int .i64 k ∧ s = ((gw, .cells #[.slice (some ⟨go, 0, none⟩) N oc, .slice ia L.length ic] 118) :: ((go, .cells (rwV N (A ++ ⟨b, c, l, r⟩ :: C) ++ ro).toArray 26) :: (rwB A ++ ((b, .cells (NmE.flat (wrS l (fun k => turnM m (z p k)) k) ++ r).toArray 44) :: (rwB C ++ (u ++ [])))))) ∧ mz = N - k ∧ k ≤ N) ((fun (k : Nat) => N - k) (0)) ?_ Kx ?_
  ·exact ⟨0, rfl, (by rw [wrS_zero]), rfl, by omega⟩
  rintro mz f1 s ⟨k, hs1_20, rfl, hn, hc1⟩
  simp only [Act.putF, List.foldl_cons, List.foldl_nil, hs1_20, Act.put, Act.eval, qW, Nat.reduceAdd, Bool.not_true, Bool.not_false]; clear hs1_20; refine wk_seq ?_; refine Wr [0] ?_; refine rfb_lss rfl rfl rfl rfl ?_
  rintro (_ | _) h2 <;> try simp only [qd, ne_eq] at h2
  ·simp only [qz]
   refine Zr ?_; refine Wx [0, 0, 0, 0, 0, 0, 0, 0, 0, 1, 1, 0, 0, 1] ?_; refine Zk ?_; refine Fd 0 1 UU118 ?_; refine rf_load rfl rfl rfl UU22 rfl (fun w hw => (Kn.hd0 hw).at rfl) (Zx ?_); refine rf_add rfl rfl rfl rfl (wrap_ok Ox Ox) (Zx ?_); refine rf_build (cs := fun a => #[a.eval (.const (.int .i64 1)), a.eval (.tmp 47), a.eval (.tmp 48), .string ⟨#[]⟩]) rfl rfl Kx (Nq ?_)
   refine rg_newS (cs := ?_) (ty := ?_) (n := 1) (c := 1) Rx (fun w => ?_) Nz (fun g1 => ?_); rotate_left 2
   focus (go_simp; rfl)
   simp only [qz]; refine rg_appendT (xs := L) (x := phsI ((p : Int) + 1) m) Rx rfl hO rfl Ox ((((((((((((((List.Perm.refl _).append_left _).trans (List.perm_append_comm_assoc (rwB C) u _)).cons _).trans (List.perm_middle (l₁ := u)).symm).append_left _).trans (List.perm_append_comm_assoc (rwB A) u _)).cons _).trans (List.perm_middle (l₁ := u)).symm).cons _).trans (List.perm_middle (l₁ := u)).symm).cons _).trans (List.perm_middle (l₁ := u)).symm).trans ((List.Perm.refl _).append_left _)) (fun w hw => Kn.hd0 hw) Nz (fun uQ vQ hOQ => ?_)
   obtain ⟨aQ, cQ, rfl, -⟩ := Own.val hOQ
   simp only [qz]; refine Zk ?_; refine Fd 0 1 UU118 ?_; refine rf_store rfl rfl Kx rfl rfl (UpdR.app _ (UpdR.there _ (UpdR.here _ _ _ Nl))) Nz (Nq ?_); refine rg_nil ?_; refine ek_perm ((((((List.Perm.refl _).cons _).trans (List.Perm.swap _ _ _)).append_left _).trans (List.perm_middle (l₁ := uQ))).trans (((((((List.Perm.refl _).cons _).trans (List.Perm.swap _ _ _)).append_left _).trans (List.perm_middle (l₁ := uQ))).trans (((((((List.Perm.refl _).cons _).trans (List.perm_middle (l₁ := (rwB A))).symm).append_left _).trans (List.perm_append_comm_assoc uQ (rwB A) _)).trans (((((((List.Perm.refl _).cons _).trans (List.Perm.swap _ _ _)).append_left _).trans (List.perm_middle (l₁ := uQ))).trans (((((((List.Perm.refl _).cons _).trans (List.perm_middle (l₁ := (rwB C))).symm).append_left _).trans (List.perm_append_comm_assoc uQ (rwB C) _)).trans ((List.Perm.refl _).append_left _)).cons _)).append_left _)).cons _)).cons _)) ?_
   refine ek_sub (sc _ (sc _ (Sa (sc _ (Sa (Sa (sk _ sn) _) _)) _))) ?_; refine ek_norm (fun w hw => ⟨rfl, _, res_0 rfl, ?_⟩); (try simp only [qz])
   obtain rfl : k = N := by omega
   rw [if_neg Ox]
   have hW := WS.wrote (gw := gw) (go := go) (oc := oc) (ro := ro) (z := z) (z' := phZ p m z) (L := L ++ [phsI ((p : Int) + 1) m]) (ia := aQ) (ic := cQ) (u := uQ) (f := (fun k => turnM m (z p k))) hA hrl hoc hlen hval hOQ (fun i k' hi hk' => by unfold phZ; split; exact turnM_ok (hok i k' hi hk') m; exact hok i k' hi hk') (fun k' hk' => (if_pos rfl).symm) (fun i k' hi _ _ => if_neg hi)
   exact ⟨(by first | rfl | trivial), _, hw, hW⟩
  simp only [qz]; refine Zr ?_
  have hkN : k < N := by omega
  have hkl : k < l.length := by rw [hll]; exact hkN
  have hzk : nm (wrS l (fun k => turnM m (z p k)) k) k = z p k := by rw [wrS_nm hkl, if_neg Ox]; exact hval p ⟨b, c, l, r⟩ (at_oneP hA) k hkN
  have hok1 := hok p k Ox hkN
  refine Wx [0, 0, 0, 1, 0, 1] ?_; refine rf_indexS (n := k) (sz := 5) (j := 0 + k * 5) rfl rfl rfl rfl UU26 Kx Ox Ox rfl (Nq ?_); refine rf_loadC (n := 5) (vs := [.int .i64 (z p k).a, .int .i64 (z p k).b, .int .i64 (z p k).c, .int .i64 (z p k).d, .int .i64 (z p k).k]) rfl rfl rfl UU44 rfl Kx rfl (fun w hw => atN_range (by have := nm_hd (Kn.hd0 (Kn.tlU (Kn.tl (Kn.tl hw)))) (k := k) (by rw [wrS_len]; omega); rw [hzk] at this; exact this)) (Nq ?_)
  refine Rgn fun g2 => ?_
  refine Zx ?_; refine rf_storeR (n := 5) rfl rfl Kx rfl rfl (UpdR.here _ _ _ Nl) Nz (Nw ?_); refine rg_nil (ek_next ?_); refine wk_draws_m (hz1 := (sc _ (sc _ (sc _ (Sa (sk _ (Sa (Sa sn _) _)) _))))) [(0, 0), (1, 0), (2, 0), (3, 0), (4, 0), (5, 0), (6, 0), (7, 0), (8, 0), (9, 0), (10, 1), (11, 0), (12, 0), (13, 1), (14, 0), (15, 2)] 15 Kx Kx (fun c d v a w h => by cases d <;> exact h) ?_; simp only [List.map_cons, List.map_nil, List.getD_cons_zero, List.getD_cons_succ]
  refine Zx ?_; refine Zk ?_; refine Fd 0 0 UU118 ?_; refine rf_load rfl rfl rfl UU116 rfl (fun w hw => (Kn.hd0 (Kn.tl hw)).at rfl) (Zx ?_); refine rf_indexS (n := p) (sz := 1) (j := p) rfl rfl rfl rfl UU116 Kx Ox Ox Ox (Nq ?_); refine rf_load (v := .slice (some ⟨b, 0, none⟩) N c) rfl rfl rfl UU26 rfl (fun w hw => Kn.outer (Kn.tl (Kn.tl hw)) (at_oneP hA)) (Zx ?_)
  refine rf_loadR (n := 5) rfl rfl rfl UU44 rfl Kx (fun w hw => Kn.hd0 hw) rfl rfl (Zx ?_); apply rg_pure Rx Kx
  case hargs => exact Ax
  case h => exact fun w hw => amTurnM (z p k) m Ox hok1 w
  case hz => exact (fun _ h => by cases h; exact (sc _ (sc _ (sc _ (Sa (sc _ (Sa (Sa sn _) _)) _)))))
  refine Zx ?_; apply rg_pure Rx Kx
  case hargs => exact Ax
  case h => exact fun w hw => must_any (turnM m (z p k)) 0 w
  case hz => exact (fun _ h => by cases h; exact (sc _ (sc _ (sc _ (Sa (sc _ (Sa (Sa sn _) _)) _)))))
  simp only [qz]; refine rf_indexS (n := k) (sz := 5) (j := 0 + k * 5) rfl rfl rfl rfl UU26 Kx Ox Ox rfl (Nq ?_)
  have hszb := nm_szM (wrS l (fun k => turnM m (z p k)) k) k (turnM m (z p k)) r (by rw [wrS_len]; exact hkl)
  refine rf_storeRM (n := 5) (vs := nmC (turnM m (z p k))) rfl rfl Kx rfl rfl (UpdR.there _ (UpdR.there _ (UpdR.there _ (UpdR.app _ (UpdR.here _ _ _ hszb))))) (sc _ (sc _ (sc _ (Sa (sk _ (Sa (Sa sn _) _)) _)))) ?_; rw [nm_flM (wrS l (fun k => turnM m (z p k)) k) k (turnM m (z p k)) r (by rw [wrS_len]; exact hkl), wrS_set (f := (fun k => turnM m (z p k))) hkl]; simp only [qz]; refine Zr ?_; refine Wr [0, 0] ?_
  refine rf_add rfl rfl rfl rfl (wrap_ok Ox Ox) (Zx ?_); refine rg_nil ?_; refine ek_sub (sk _ (sc _ (sc _ (Sa (sc _ (Sa (Sa sn _) _)) _)))) ?_; refine ek_roundF (N - (k + 1)) Ox Kx ?_
  exact ⟨k + 1, rfl, by rfl, by rfl, by omega⟩
 simp only [qz]
 refine Zr ?_
 refine ek_ret (fun w hw => ⟨rfl, _, res_0 rfl, ?_⟩)
 (try simp only [qz])
 obtain rfl : m = 0 := by omega
 rw [if_pos rfl]
 refine ⟨(by first | rfl | trivial), _, hw, go, oc, ro, _, ia, ic, u, (by rw [rw_one, List.append_assoc, List.cons_append]), hrl, hoc, hlen, fun i q hq k hk => (hval i q hq k hk).trans (by unfold phZ; split <;> rfl), hO, fun i k hi hk => by unfold phZ; split; exact hok i k hi hk; exact hok i k hi hk⟩
theorem wcouple_any (N p gw : Nat) (z : Zt) (L : List It) (s : List Blk) (hS : WS N gw z L s) (hN : N ≤ 6) (hL : L.length ≤ 100000) (hp : p + 1 < N) (w : World) (hK : Kn w (s.map (·.1)) s w) : Calls Tryz.prog 136 #[.pointer (some ⟨gw, 0, none⟩), .int .i64 (p : Int)] w fun e w' => e = .returned (.tuple #[]) ∧ ∃ s', Kn w (s.map (·.1)) s' w' ∧ WS N gw (cpZ p z) (L ++ [cplI ((p : Int) + 1)]) s' := by
 obtain ⟨go, oc, ro, rs, ia, ic, u, rfl, hrl, hoc, hlen, hval, hO, hok⟩ := hS
 obtain ⟨A, b, c, l, r, b1, c1, l1, r1, C, rfl, hA⟩ := split2 (p := p) (rs := rs) Ox
 have hll : l.length = N := hlen ⟨b, c, l, r⟩ (by simp)
 have hll1 : l1.length = N := hlen ⟨b1, c1, l1, r1⟩ (by simp)
 rw [rw_two, List.append_assoc, List.cons_append, List.cons_append] at hK ⊢
 go_enter Tryz.func136, Tryz.ntmps136
 refine wk_startF hK ?_
 refine wk_seq (wk_seq ?_)
 refine Wx [0, 0, 0, 0, 0, 0, 0, 0, 0] ?_
 refine Zk ?_
 refine Fd 0 0 UU118 ?_
 refine rf_load rfl rfl rfl UU116 rfl (fun w hw => (Kn.hd0 hw).at rfl) (Zx ?_)
 refine rf_indexS (n := p) (sz := 1) (j := p) rfl rfl rfl rfl UU116 Kx Ox Ox Ox (Nq ?_)
 refine rf_load (v := .slice (some ⟨b, 0, none⟩) N c) rfl rfl rfl UU26 rfl (fun w hw => Kn.outer (Kn.tl hw) (at_oneP hA)) (Nq ?_)
 refine rf_len rfl rfl rfl UU26 (Zx ?_)
 refine Zr ?_
 refine wk_loopF [4, 5, 6, 15, 16, 17, 18, 19, 20, 21, 22, 23, 24, 25, 26, 27, 28, 29, 30, 31, 32, 33, 34, 35, 36, 37, 38, 39, 40, 41, 42, 43, 44, 45, 46, 47, 48, 49, 50, 51, 52, 53, 54, 55, 56, 57, 58, 59, 60, 61, 62, 63, 64, 65, 66, 67, 68, 69, 70, 71, 72, 73, 74, 75, 76, 77, 78] (fun mz f s => ∃ (k : Nat), f 15 = .int .i64 k ∧ s = ((gw, .cells #[.slice (some ⟨go, 0, none⟩) N oc, .slice ia L.length ic] 118) :: ((go, .cells (rwV N (A ++ ⟨b, c, l, r⟩ :: ⟨b1, c1, l1, r1⟩ :: C) ++ ro).toArray 26) :: (rwB A ++ ((b, .cells (NmE.flat (wrS l (fun k => cX (z p k) (z (p + 1) k)) k) ++ r).toArray 44) :: ((b1, .cells (NmE.flat (wrS l1 (fun k => cY (z p k) (z (p + 1) k)) k) ++ r1).toArray 44) :: (rwB C ++ (u ++ []))))))) ∧ mz = N - k ∧ k ≤ N) ((fun (k : Nat) => N - k) (0)) ?_ Kx ?_
 ·exact ⟨0, rfl, (by rw [wrS_zero, wrS_zero]), rfl, by omega⟩
 rintro mz f1 s ⟨k, hs1_15, rfl, hn, hc1⟩
 simp only [Act.putF, List.foldl_cons, List.foldl_nil, hs1_15, Act.put, Act.eval, qW, Nat.reduceAdd, Bool.not_true, Bool.not_false]
 clear hs1_15
 refine wk_seq ?_
 refine Wr [0] ?_
 refine rfb_lss rfl rfl rfl rfl ?_
 rintro (_ | _) h1 <;> try simp only [qd, ne_eq] at h1
 ·simp only [qz]
  refine Zr ?_; refine Wx [0, 0, 0, 0, 0, 0, 0, 0, 1, 1, 0, 0, 1] ?_; refine Zk ?_; refine Fd 0 1 UU118 ?_; refine rf_load rfl rfl rfl UU22 rfl (fun w hw => (Kn.hd0 hw).at rfl) (Zx ?_); refine rf_add rfl rfl rfl rfl (wrap_ok Ox Ox) (Nq ?_); refine rf_build (cs := fun a => #[a.eval (.const (.int .i64 2)), a.eval (.tmp 85), .int .i64 0, .string ⟨#[]⟩]) rfl rfl Kx (Nq ?_)
  refine rg_newS (cs := ?_) (ty := ?_) (n := 1) (c := 1) Rx (fun w => ?_) Nz (fun g1 => ?_); rotate_left 2
  focus (go_simp; rfl)
  simp only [qz]; refine rg_appendT (xs := L) (x := cplI ((p : Int) + 1)) Rx rfl hO rfl Ox ((((((((((((((((List.Perm.refl _).append_left _).trans (List.perm_append_comm_assoc (rwB C) u _)).cons _).trans (List.perm_middle (l₁ := u)).symm).cons _).trans (List.perm_middle (l₁ := u)).symm).append_left _).trans (List.perm_append_comm_assoc (rwB A) u _)).cons _).trans (List.perm_middle (l₁ := u)).symm).cons _).trans (List.perm_middle (l₁ := u)).symm).cons _).trans (List.perm_middle (l₁ := u)).symm).trans ((List.Perm.refl _).append_left _)) (fun w hw => Kn.hd0 hw) Nz (fun uQ vQ hOQ => ?_)
  obtain ⟨aQ, cQ, rfl, -⟩ := Own.val hOQ
  simp only [qz]; refine Zk ?_; refine Fd 0 1 UU118 ?_; refine rf_store rfl rfl Kx rfl rfl (UpdR.app _ (UpdR.there _ (UpdR.here _ _ _ Nl))) Nz (Nq ?_); refine rg_nil ?_; refine ek_perm ((((((List.Perm.refl _).cons _).trans (List.Perm.swap _ _ _)).append_left _).trans (List.perm_middle (l₁ := uQ))).trans (((((((List.Perm.refl _).cons _).trans (List.Perm.swap _ _ _)).append_left _).trans (List.perm_middle (l₁ := uQ))).trans (((((((List.Perm.refl _).cons _).trans (List.perm_middle (l₁ := (rwB A))).symm).append_left _).trans (List.perm_append_comm_assoc uQ (rwB A) _)).trans (((((((List.Perm.refl _).cons _).trans (List.Perm.swap _ _ _)).append_left _).trans (List.perm_middle (l₁ := uQ))).trans (((((((List.Perm.refl _).cons _).trans (List.Perm.swap _ _ _)).append_left _).trans (List.perm_middle (l₁ := uQ))).trans (((((((List.Perm.refl _).cons _).trans (List.perm_middle (l₁ := (rwB C))).symm).append_left _).trans (List.perm_append_comm_assoc uQ (rwB C) _)).trans ((List.Perm.refl _).append_left _)).cons _)).cons _)).append_left _)).cons _)).cons _)) ?_
  refine ek_sub (sc _ (sc _ (Sa (sc _ (sc _ (Sa (Sa (sk _ sn) _) _))) _))) ?_; refine ek_norm (fun w hw => ⟨rfl, _, res_0 rfl, ?_⟩); (try simp only [qz])
  obtain rfl : k = N := by omega
  have hW := WS.wrote2 (gw := gw) (go := go) (oc := oc) (ro := ro) (z := z) (z' := cpZ p z) (L := L ++ [cplI ((p : Int) + 1)]) (ia := aQ) (ic := cQ) (u := uQ) (f := (fun k => cX (z p k) (z (p + 1) k))) (g := (fun k => cY (z p k) (z (p + 1) k))) hA hrl hoc hlen hval hOQ (fun i k' hi hk' => by unfold cpZ; split; exact (cX_ok (hok p k' Ox hk') (hok (p + 1) k' hp hk')).2; split; exact (cY_ok (hok p k' Ox hk') (hok (p + 1) k' hp hk')).2; exact hok i k' hi hk') (fun k' hk' => (if_pos rfl).symm) (fun k' hk' => by unfold cpZ; rw [if_neg Ox, if_pos rfl]) (fun i k' h1 h2 _ _ => by unfold cpZ; rw [if_neg h1, if_neg h2])
  exact ⟨(by first | rfl | trivial), _, hw, hW⟩
 simp only [qz]
 refine Zr ?_
 have hkN : k < N := by omega
 have hkl : k < l.length := by rw [hll]; exact hkN
 have hkl1 : k < l1.length := by rw [hll1]; exact hkN
 have hzk : nm (wrS l (fun k => cX (z p k) (z (p + 1) k)) k) k = z p k := by rw [wrS_nm hkl, if_neg Ox]; exact hval p ⟨b, c, l, r⟩ (at_oneP hA) k hkN
 have hzk1 : nm (wrS l1 (fun k => cY (z p k) (z (p + 1) k)) k) k = z (p + 1) k := by rw [wrS_nm hkl1, if_neg Ox]; exact hval (p + 1) ⟨b1, c1, l1, r1⟩ (at_twoP hA) k hkN
 have hok1 := hok p k Ox hkN
 have hok2 := hok (p + 1) k hp hkN
 have hcx := cX_ok hok1 hok2
 have hcy := cY_ok hok1 hok2
 refine Wx [0, 0, 0, 1, 0, 1] ?_
 refine rf_indexS (n := k) (sz := 5) (j := 0 + k * 5) rfl rfl rfl rfl UU26 Kx Ox Ox rfl (Nq ?_)
 refine rf_loadC (n := 5) (vs := [.int .i64 (z p k).a, .int .i64 (z p k).b, .int .i64 (z p k).c, .int .i64 (z p k).d, .int .i64 (z p k).k]) rfl rfl rfl UU44 rfl Kx rfl (fun w hw => atN_range (by have := nm_hd (Kn.hd0 (Kn.tlU (Kn.tl (Kn.tl hw)))) (k := k) (by rw [wrS_len]; omega); rw [hzk] at this; exact this)) (Nq ?_)
 refine Rgn fun g2 => ?_
 refine Zx ?_
 refine rf_storeR (n := 5) rfl rfl Kx rfl rfl (UpdR.here _ _ _ Nl) Nz (Nw ?_)
 refine Zr ?_
 refine Wx [0, 0, 0, 0, 0, 0, 0, 0, 0, 0, 0, 1, 1] ?_
 refine Zk ?_
 refine Fd 0 0 UU118 ?_
 refine rf_load rfl rfl rfl UU116 rfl (fun w hw => (Kn.hd0 (Kn.tl hw)).at rfl) (Zx ?_)
 refine rf_add rfl rfl rfl rfl (wrap_ok Ox Ox) (Nq ?_)
 refine rf_indexS (n := p + 1) (sz := 1) (j := p + 1) rfl rfl rfl rfl UU116 Kx Ox Ox Ox (Nq ?_)
 refine rf_load (v := .slice (some ⟨b1, 0, none⟩) N c1) rfl rfl rfl UU26 rfl (fun w hw => Kn.outer (Kn.tl (Kn.tl hw)) (at_twoP hA)) (Zx ?_)
 refine rf_indexS (n := k) (sz := 5) (j := 0 + k * 5) rfl rfl rfl rfl UU26 Kx Ox Ox rfl (Nq ?_)
 refine rf_loadC (n := 5) (vs := [.int .i64 (z (p + 1) k).a, .int .i64 (z (p + 1) k).b, .int .i64 (z (p + 1) k).c, .int .i64 (z (p + 1) k).d, .int .i64 (z (p + 1) k).k]) rfl rfl rfl UU44 rfl Kx rfl (fun w hw => atN_range (by have := nm_hd (Kn.hd0 (Kn.tl (Kn.tlU (Kn.tl (Kn.tl (Kn.tl hw)))))) (k := k) (by rw [wrS_len]; omega); rw [hzk1] at this; exact this)) (Nq ?_)
 refine Rgn fun g3 => ?_
 simp only [qz]
 refine rf_storeR (n := 5) rfl rfl Kx rfl rfl (UpdR.here _ _ _ Nl) Nz (Nw ?_)
 refine Zr ?_
 refine wk_draws_m (hz1 := (sc _ (sc _ (sc _ (sc _ (Sa (sk _ (sc _ (Sa (Sa sn _) _))) _)))))) [(0, 0), (1, 0), (2, 0), (3, 0), (4, 0), (5, 0), (6, 0), (7, 0), (8, 0), (9, 0), (10, 1), (11, 0), (12, 0), (13, 1), (14, 1), (15, 0), (16, 0), (17, 1), (18, 1), (19, 0), (20, 0), (21, 1), (22, 0), (23, 2)] 23 Kx Kx (fun c d v a w h => by cases d <;> exact h) ?_
 simp only [List.map_cons, List.map_nil, List.getD_cons_zero, List.getD_cons_succ]
 refine Zx ?_
 refine Zk ?_
 refine Fd 0 0 UU118 ?_
 refine rf_load rfl rfl rfl UU116 rfl (fun w hw => (Kn.hd0 (Kn.tl (Kn.tl hw))).at rfl) (Zx ?_)
 refine rf_indexS (n := p) (sz := 1) (j := p) rfl rfl rfl rfl UU116 Kx Ox Ox Ox (Nq ?_)
 refine rf_load (v := .slice (some ⟨b, 0, none⟩) N c) rfl rfl rfl UU26 rfl (fun w hw => Kn.outer (Kn.tl (Kn.tl (Kn.tl hw))) (at_oneP hA)) (Zx ?_)
 refine rf_loadR (n := 5) rfl rfl rfl UU44 rfl Kx (fun w hw => Kn.hd0 (Kn.tl hw)) rfl rfl (Nq ?_)
 refine rf_loadR (n := 5) rfl rfl rfl UU44 rfl Kx (fun w hw => Kn.hd0 hw) rfl rfl (Nq ?_)
 apply rg_pure Rx Kx
 case hargs => exact Ax
 case h => exact fun w hw => amTurn2 (z (p + 1) k) hok2 w
 case hz => exact (fun _ h => by cases h; exact (sc _ (sc _ (sc _ (sc _ (Sa (sc _ (sc _ (Sa (Sa sn _) _))) _))))))
 refine Zx ?_
 apply rg_pure Rx Kx
 case hargs => exact Ax
 case h => exact fun w hw => must_any (z (p + 1) k).rot.rot 0 w
 case hz => exact (fun _ h => by cases h; exact (sc _ (sc _ (sc _ (sc _ (Sa (sc _ (sc _ (Sa (Sa sn _) _))) _))))))
 simp only [qz]
 apply rg_pure Rx Kx
 case hargs => exact Ax
 case h => exact fun w hw => amAdd_mt (z p k) (z (p + 1) k).rot.rot hok1 (rot_ok (rot_ok hok2)) w
 case hz => exact (fun _ h => by cases h; exact (sc _ (sc _ (sc _ (sc _ (Sa (sc _ (sc _ (Sa (Sa sn _) _))) _))))))
 refine Zx ?_
 apply rg_pure Rx Kx
 case hargs => exact Ax
 case h => exact fun w hw => must_any (mtR ((z p k).add (z (p + 1) k).rot.rot)) (errI ((z p k).add (z (p + 1) k).rot.rot)) w
 case hz => exact (fun _ h => by cases h; exact (sc _ (sc _ (sc _ (sc _ (Sa (sc _ (sc _ (Sa (Sa sn _) _))) _))))))
 simp only [qz]
 apply rg_pure Rx Kx
 case hargs => exact Ax
 case h => exact fun w hw => amHalve_mt (mtR ((z p k).add (z (p + 1) k).rot.rot)) hcx.1 w
 case hz => exact (fun _ h => by cases h; exact (sc _ (sc _ (sc _ (sc _ (Sa (sc _ (sc _ (Sa (Sa sn _) _))) _))))))
 refine Zx ?_
 apply rg_pure Rx Kx
 case hargs => exact Ax
 case h => exact fun w hw => must_any (cX (z p k) (z (p + 1) k)) (errI ((mtR ((z p k).add (z (p + 1) k).rot.rot)).halve 1)) w
 case hz => exact (fun _ h => by cases h; exact (sc _ (sc _ (sc _ (sc _ (Sa (sc _ (sc _ (Sa (Sa sn _) _))) _))))))
 simp only [qz]
 refine rf_indexS (n := k) (sz := 5) (j := 0 + k * 5) rfl rfl rfl rfl UU26 Kx Ox Ox rfl (Nq ?_)
 have hszb := nm_szM (wrS l (fun k => cX (z p k) (z (p + 1) k)) k) k (cX (z p k) (z (p + 1) k)) r (by rw [wrS_len]; exact hkl)
 refine rf_storeRM (n := 5) (vs := nmC (cX (z p k) (z (p + 1) k))) rfl rfl Kx rfl rfl (UpdR.there _ (UpdR.there _ (UpdR.there _ (UpdR.there _ (UpdR.app _ (UpdR.here _ _ _ hszb)))))) (sc _ (sc _ (sc _ (sc _ (Sa (sk _ (sc _ (Sa (Sa sn _) _))) _))))) ?_
 rw [nm_flM (wrS l (fun k => cX (z p k) (z (p + 1) k)) k) k (cX (z p k) (z (p + 1) k)) r (by rw [wrS_len]; exact hkl), wrS_set (f := (fun k => cX (z p k) (z (p + 1) k))) hkl]
 simp only [qz]
 refine rg_nil (ek_next ?_)
 refine wk_draws_m (hz1 := (sc _ (sc _ (sc _ (sc _ (Sa (sc _ (sk _ (Sa (Sa sn _) _))) _)))))) [(0, 0), (1, 0), (2, 0), (3, 0), (4, 0), (5, 0), (6, 0), (7, 0), (8, 0), (9, 0), (14, 0), (10, 1), (11, 0), (12, 0), (13, 1), (15, 1), (16, 0), (17, 0), (18, 1), (19, 1), (20, 0), (21, 0), (22, 1), (23, 0), (24, 2)] 24 Kx Kx (fun c d v a w h => by cases d <;> exact h) ?_
 simp only [List.map_cons, List.map_nil, List.getD_cons_zero, List.getD_cons_succ]
 refine Zx ?_
 refine Zk ?_
 refine Fd 0 0 UU118 ?_
 refine rf_load rfl rfl rfl UU116 rfl (fun w hw => (Kn.hd0 (Kn.tl (Kn.tl hw))).at rfl) (Zx ?_)
 refine rf_add rfl rfl rfl rfl (wrap_ok Ox Ox) (Nq ?_)
 refine rf_indexS (n := p + 1) (sz := 1) (j := p + 1) rfl rfl rfl rfl UU116 Kx Ox Ox Ox (Nq ?_)
 refine rf_load (v := .slice (some ⟨b1, 0, none⟩) N c1) rfl rfl rfl UU26 rfl (fun w hw => Kn.outer (Kn.tl (Kn.tl (Kn.tl hw))) (at_twoP hA)) (Zx ?_)
 refine rf_loadR (n := 5) rfl rfl rfl UU44 rfl Kx (fun w hw => Kn.hd0 (Kn.tl hw)) rfl rfl (Nq ?_)
 refine rf_loadR (n := 5) rfl rfl rfl UU44 rfl Kx (fun w hw => Kn.hd0 hw) rfl rfl (Nq ?_)
 apply rg_pure Rx Kx
 case hargs => exact Ax
 case h => exact fun w hw => amTurn2 (z p k) hok1 w
 case hz => exact (fun _ h => by cases h; exact (sc _ (sc _ (sc _ (sc _ (Sa (sc _ (sc _ (Sa (Sa sn _) _))) _))))))
 refine Zx ?_
 apply rg_pure Rx Kx
 case hargs => exact Ax
 case h => exact fun w hw => must_any (z p k).rot.rot 0 w
 case hz => exact (fun _ h => by cases h; exact (sc _ (sc _ (sc _ (sc _ (Sa (sc _ (sc _ (Sa (Sa sn _) _))) _))))))
 simp only [qz]
 apply rg_pure Rx Kx
 case hargs => exact Ax
 case h => exact fun w hw => amAdd_mt (z p k).rot.rot (z (p + 1) k) (rot_ok (rot_ok hok1)) hok2 w
 case hz => exact (fun _ h => by cases h; exact (sc _ (sc _ (sc _ (sc _ (Sa (sc _ (sc _ (Sa (Sa sn _) _))) _))))))
 refine Zx ?_
 apply rg_pure Rx Kx
 case hargs => exact Ax
 case h => exact fun w hw => must_any (mtR ((z p k).rot.rot.add (z (p + 1) k))) (errI ((z p k).rot.rot.add (z (p + 1) k))) w
 case hz => exact (fun _ h => by cases h; exact (sc _ (sc _ (sc _ (sc _ (Sa (sc _ (sc _ (Sa (Sa sn _) _))) _))))))
 simp only [qz]
 apply rg_pure Rx Kx
 case hargs => exact Ax
 case h => exact fun w hw => amHalve_mt (mtR ((z p k).rot.rot.add (z (p + 1) k))) hcy.1 w
 case hz => exact (fun _ h => by cases h; exact (sc _ (sc _ (sc _ (sc _ (Sa (sc _ (sc _ (Sa (Sa sn _) _))) _))))))
 refine Zx ?_
 apply rg_pure Rx Kx
 case hargs => exact Ax
 case h => exact fun w hw => must_any (cY (z p k) (z (p + 1) k)) (errI ((mtR ((z p k).rot.rot.add (z (p + 1) k))).halve 1)) w
 case hz => exact (fun _ h => by cases h; exact (sc _ (sc _ (sc _ (sc _ (Sa (sc _ (sc _ (Sa (Sa sn _) _))) _))))))
 simp only [qz]
 refine rf_indexS (n := k) (sz := 5) (j := 0 + k * 5) rfl rfl rfl rfl UU26 Kx Ox Ox rfl (Nq ?_)
 have hszb1 := nm_szM (wrS l1 (fun k => cY (z p k) (z (p + 1) k)) k) k (cY (z p k) (z (p + 1) k)) r1 (by rw [wrS_len]; exact hkl1)
 refine rf_storeRM (n := 5) (vs := nmC (cY (z p k) (z (p + 1) k))) rfl rfl Kx rfl rfl (UpdR.there _ (UpdR.there _ (UpdR.there _ (UpdR.there _ (UpdR.app _ (UpdR.there _ (UpdR.here _ _ _ hszb1))))))) (sc _ (sc _ (sc _ (sc _ (Sa (sc _ (sk _ (Sa (Sa sn _) _))) _))))) ?_
 rw [nm_flM (wrS l1 (fun k => cY (z p k) (z (p + 1) k)) k) k (cY (z p k) (z (p + 1) k)) r1 (by rw [wrS_len]; exact hkl1), wrS_set (f := (fun k => cY (z p k) (z (p + 1) k))) hkl1]
 simp only [qz]
 refine Zr ?_
 refine Wr [0, 0] ?_
 refine rf_add rfl rfl rfl rfl (wrap_ok Ox Ox) (Zx ?_)
 refine rg_nil ?_
 refine ek_sub (sk _ (sk _ (sc _ (sc _ (Sa (sc _ (sc _ (Sa (Sa sn _) _))) _))))) ?_
 refine ek_roundF (N - (k + 1)) Ox Kx ?_
 exact ⟨k + 1, rfl, by rfl, by rfl, by omega⟩
def expZ (z : Zt) (col : Nat) : Nat → Int
  | 0 => 0
  | j + 1 => if expZ z col j < (z (col + j) col).k then (z (col + j) col).k else expZ z col j
theorem expZ_is {z : Zt} {col : Nat} : ∀ n, 0 ≤ expZ z col n ∧ (∀ i, col ≤ i → i < col + n → (z i col).k ≤ expZ z col n) ∧ (0 < expZ z col n → ∃ i, col ≤ i ∧ i < col + n ∧ (z i col).k = expZ z col n)
  | 0 => ⟨Int.le_refl _, fun i h1 h2 => absurd h2 Ox, fun h => absurd (show (0 : Int) < 0 from h) (by decide)⟩
  | n + 1 => by
    obtain ⟨h0, h1, h2⟩ := expZ_is (z := z) (col := col) n
    rw [expZ]
    split
    · rename_i hlt
      refine ⟨by omega, fun i hi hin => ?_, fun _ => ⟨col + n, by omega, by omega, rfl⟩⟩
      rcases (by omega : i = col + n ∨ i < col + n) with rfl | hlt'
      · exact Int.le_refl _
      · have := h1 i hi hlt'; omega
    · rename_i hge
      refine ⟨h0, fun i hi hin => ?_, fun hp => ?_⟩
      · rcases (by omega : i = col + n ∨ i < col + n) with rfl | hlt'
        · omega
        · exact h1 i hi hlt'
      · obtain ⟨i, a1, a2, a3⟩ := h2 hp
        exact ⟨i, a1, by omega, a3⟩
theorem expZ_exp {N col : Nat} {z : Zt} (hc : col ≤ N) : IsExp N col z (expZ z col (N - col)) := by
 have h := expZ_is (z := z) (col := col) (N - col)
 rw [show col + (N - col) = N by omega] at h
 exact h
def bsZ (b : Nat) (z : Zt) : Nat → Zt
  | 0 => z
  | j + 1 => crZ (b - 1 - j) (bsZ b z j)
def bsL (b : Nat) : Nat → List It
  | 0 => []
  | j + 1 => bsL b j ++ [cross (b - 1 - j)]
theorem bsL_len (b : Nat) : ∀ j, (bsL b j).length = j
  | 0 => rfl
  | j + 1 => by rw [bsL, List.length_append, bsL_len b j]; rfl
theorem wexpo_any (N col gw : Nat) (z : Zt) (L : List It) (s : List Blk) (hS : WS N gw z L s) (hN : N ≤ 6) (hL : L.length ≤ 100000) (hc : col < N) (w : World) (hK : Kn w (s.map (·.1)) s w) : Calls Tryz.prog 110 #[.pointer (some ⟨gw, 0, none⟩), .int .i64 (col : Int)] w fun e w' => e = .returned (.int .i64 (expZ z col (N - col))) ∧ Below w.heap.size w w' := by
 obtain ⟨go, oc, ro, rs, ia, ic, u, hse, hrl, hoc, hlen, hval, hO, hok⟩ := hS.open_
 go_enter Tryz.func110, Tryz.ntmps110
 refine wk_startF (Kn.to hse hK.nil') ?_
 refine wk_seq ?_
 refine Wm [0] ?_
 refine Zr ?_
 refine Wm [0] ?_
 refine Zr ?_
 refine Wm [0, 0, 0, 0, 0, 0, 0, 0] ?_
 refine Zk ?_
 refine Fd 0 0 UU118 ?_
 refine rf_load rfl rfl rfl UU116 rfl (fun w hw => (Kn.hd0 hw).at rfl) (Zm ?_)
 refine rf_sliceFrom (lo := col) (sz := 1) rfl rfl rfl rfl UU116 Kx Ox Ox ?_
 rw [if_neg (show ¬ oc = col by omega)]
 simp only [qz]
 refine rf_len rfl rfl rfl UU116 (Zm ?_)
 refine Zr ?_
 refine wk_loopF [5, 7, 15, 16, 17, 18, 19, 20, 21, 22, 23, 24, 25, 26] (fun mz f s => ∃ (j : Nat) (k : Int), f 5 = .int .i64 k ∧ f 15 = .int .i64 j ∧ s = ((gw, .cells #[.slice (some ⟨go, 0, none⟩) N oc, .slice ia L.length ic] 118) :: ((go, .cells (rwV N (rs) ++ ro).toArray 26) :: (rwB rs ++ (u ++ [])))) ∧ mz = (N - col) - j ∧ j ≤ N - col ∧ Hid (expZ z col j = k)) ((fun (j : Nat) (k : Int) => (N - col) - j) (0) (0)) ?_ Kx ?_
 ·exact ⟨0, 0, rfl, rfl, rfl, rfl, by omega, Lib.hid rfl⟩
 rintro mz f1 s ⟨j, k, hs1_5, hs1_15, rfl, hn, hd1, hd2⟩
 simp only [Act.putF, List.foldl_cons, List.foldl_nil, hs1_5, hs1_15, Act.put, Act.eval, qW, Nat.reduceAdd, Bool.not_true, Bool.not_false]
 clear hs1_5 hs1_15
 have hk := hd2
 clear hd2
 refine wk_seq ?_
 refine Wr [0] ?_
 refine rfb_lss rfl rfl rfl rfl ?_
 rintro (_ | _) h1 <;> try simp only [qd, ne_eq] at h1
 ·simp only [qz]
  refine Zr ?_; refine Wm [0, 0] ?_; refine Zr ?_
  refine Er fun w hw => ?_
  (try simp only [qz])
  obtain rfl : j = N - col := by omega
  exact ⟨by rw [hk.out], hK.same (Kn.of_nil (hw.to hse.symm))⟩
 simp only [qz]
 refine Zr ?_
 have hcj : col + j < rs.length := by omega
 obtain ⟨⟨b, c, l, r⟩, hx⟩ : ∃ x, rs[col + j]? = some x := ⟨rs[col + j], List.getElem?_eq_getElem hcj⟩
 have hll : l.length = N := hlen ⟨b, c, l, r⟩ (List.mem_of_getElem? hx)
 have hzk : nm l col = z (col + j) col := hval _ _ hx col hc
 refine Wr [0, 0, 0] ?_
 refine rf_indexS (n := j) (sz := 1) (j := col + j) rfl rfl rfl rfl UU116 Kx Ox Ox Ox (Nq ?_)
 refine rf_load (v := .slice (some ⟨b, 0, none⟩) N c) rfl rfl rfl UU26 rfl (fun w hw => Kn.outer (Kn.tl hw) (hx)) (Zm ?_)
 refine rg_nil (ek_next ?_)
 refine Wm [0, 0, 0, 0, 0, 0, 0, 0] ?_
 refine rf_indexS (n := col) (sz := 5) (j := 0 + col * 5) rfl rfl rfl rfl UU26 Kx Ox Ox rfl (Nq ?_)
 refine rf_field (n := 0) (j := 0 + col * 5 + 4) rfl rfl rfl UU44 rfl Kx rfl (Nq ?_)
 refine rf_load (v := .int .i64 (z (col + j) col).k) rfl rfl rfl UU3 rfl (fun w hw => by have := Kn.row (Kn.tl (Kn.tl hw)) hx (k := col) (by rw [hll]; exact hc); rw [hzk] at this; exact this.c4) (Nq ?_)
 refine Zk ?_
 refine Zr ?_
 refine Wr [0, 0] ?_
 refine rf_add rfl rfl rfl rfl (wrap_ok Ox Ox) (Zm ?_)
 refine rg_nil ?_
 refine ek_roundF ((N - col) - (j + 1)) Ox Kx ?_
 exact ⟨j + 1, _, rfl, rfl, by rfl, by rfl, by omega, (Lib.hid (by rw [expZ, hk.out]))⟩
theorem wbeside_any (N b t gw : Nat) (z : Zt) (L : List It) (s : List Blk) (hS : WS N gw z L s) (hN : N ≤ 6) (hL : L.length + 10 ≤ 100000) (ht : t ≤ b) (hb : b < N) (w : World) (hK : Kn w (s.map (·.1)) s w) : Calls Tryz.prog 112 #[.pointer (some ⟨gw, 0, none⟩), .int .i64 (b : Int), .int .i64 (t : Int)] w fun e w' => e = .returned (.tuple #[]) ∧ ∃ s', Kn w (s.map (·.1)) s' w' ∧ WS N gw (bsZ b z (b - t)) (L ++ bsL b (b - t)) s' := by
 go_enter Tryz.func112, Tryz.ntmps112
 refine wk_startF hK.nil' ?_
 refine wk_block ?_
 refine wk_loopF [1, 6, 7, 8, 9, 10, 11, 12, 13, 14] (fun mz f s => ∃ (j : Nat) (uV : List Blk), f 1 = .int .i64 ((b : Int) - j) ∧ s = (uV ++ []) ∧ mz = (b - t) - j ∧ j ≤ b - t ∧ WS N gw (bsZ b z j) (L ++ bsL b j) uV) ((fun (j : Nat) (uV : List Blk) => (b - t) - j) (0) (s)) ?_ Kx ?_
 ·exact ⟨0, s, rfl, rfl, rfl, by omega, (by rw [show L ++ bsL b 0 = L from List.append_nil L]; exact hS)⟩
 rintro mz f1 s ⟨j, uV, hs1_1, rfl, hn, hd1, hd2⟩
 simp only [Act.putF, List.foldl_cons, List.foldl_nil, hs1_1, Act.put, Act.eval, qW, Nat.reduceAdd, Bool.not_true, Bool.not_false]
 clear hs1_1
 refine wk_seq (wk_seq ?_)
 refine Wm [0, 0, 0] ?_
 refine rfb_gtr rfl rfl rfl rfl ?_
 rintro (_ | _) h1 <;> try simp only [qd, ne_eq] at h1
 ·simp only [qz]
  refine rg_nil (ek_next (wk_cond_f rfl (wk_exit (ek_then_exit (ek_then_exit (ek_block_exit ?_)))))); refine ek_norm (fun w hw => ⟨rfl, _, res_0 rfl, ?_⟩); (try simp only [qz])
  obtain rfl : j = b - t := by omega
  exact ⟨(by first | rfl | trivial), _, hw.of_nil, hd2⟩
 simp only [qz]
 refine Zr ?_
 refine Wm [0, 0, 0, 1] ?_
 refine rf_sub (r := ((b - 1 - j : Nat) : Int)) rfl rfl rfl rfl (wrap_eqB Ox Ox Ox) (Nq ?_)
 refine rg_eff (T := fun uX => WS N gw (crZ (b - 1 - j) (bsZ b z j)) (L ++ bsL b j ++ [cross (b - 1 - j)]) uX) (vb := uV) (rest := []) Rx Kx (by simp only [qm, qs, Act.eval]; try rfl) (List.Perm.refl _) (fun w hw => wcross_any N (b - 1 - j) gw (bsZ b z j) (L ++ bsL b j) uV hd2 hN (by rw [List.length_append, bsL_len]; omega) Ox w hw) (fun uX hTuX => ?_)
 simp only [qz]
 refine Zr ?_
 refine Wm [0, 0, 0] ?_
 refine rf_sub (r := (b : Int) - ((j + 1 : Nat) : Int)) rfl rfl rfl rfl (wrap_eqB Ox Ox Ox) (Zm ?_)
 refine rg_nil ?_
 refine ek_roundF ((b - t) - (j + 1)) Ox Kx ?_
 exact ⟨j + 1, uX, rfl, by rfl, by rfl, by omega, (by rw [bsZ, bsL, ← List.append_assoc]; exact hTuX)⟩
end Go.Proofs.YthjjkajjpejcdaaGreat
