/- Plain: the values of exact amplitudes; sums; a matrix that is unitary by rows is so by columns. -/
import Derived.Test.YtccbinnlnkpplaaNmPl
namespace Go.Proofs.Ytccbinnlnkpplaa
set_option linter.all false

/-- a + b w + c w^2 + d w^3. -/
structure Q4 where
  a : Rat
  b : Rat
  c : Rat
  d : Rat
namespace Q4
theorem ext' {x y : Q4} (h1 : x.a = y.a) (h2 : x.b = y.b) (h3 : x.c = y.c) (h4 : x.d = y.d) : x = y := by cases x; cases y; simp_all
def zero : Q4 := ⟨0, 0, 0, 0⟩
def one : Q4 := ⟨1, 0, 0, 0⟩
def add (x y : Q4) : Q4 := ⟨x.a + y.a, x.b + y.b, x.c + y.c, x.d + y.d⟩
def neg (x : Q4) : Q4 := ⟨-x.a, -x.b, -x.c, -x.d⟩
def mul (x y : Q4) : Q4 := ⟨x.a * y.a - x.b * y.d - x.c * y.c - x.d * y.b, x.a * y.b + x.b * y.a - x.c * y.d - x.d * y.c, x.a * y.c + x.b * y.b + x.c * y.a - x.d * y.d, x.a * y.d + x.b * y.c + x.c * y.b + x.d * y.a⟩
def conj (x : Q4) : Q4 := ⟨x.a, -x.d, -x.c, -x.b⟩
instance : Zero Q4 := ⟨zero⟩
instance : One Q4 := ⟨one⟩
instance : Add Q4 := ⟨add⟩
instance : Mul Q4 := ⟨mul⟩
instance : Neg Q4 := ⟨neg⟩
instance : Sub Q4 := ⟨fun x y => add x (neg y)⟩
theorem za : (0 : Q4).a = 0 := rfl
theorem zb : (0 : Q4).b = 0 := rfl
theorem zc : (0 : Q4).c = 0 := rfl
theorem zd : (0 : Q4).d = 0 := rfl
theorem oa : (1 : Q4).a = 1 := rfl
theorem ob : (1 : Q4).b = 0 := rfl
theorem oc : (1 : Q4).c = 0 := rfl
theorem od : (1 : Q4).d = 0 := rfl
variable (x y z : Q4)
theorem aa : (x + y).a = x.a + y.a := rfl
theorem ab : (x + y).b = x.b + y.b := rfl
theorem ac : (x + y).c = x.c + y.c := rfl
theorem ad : (x + y).d = x.d + y.d := rfl
theorem na : (-x).a = -x.a := rfl
theorem nb : (-x).b = -x.b := rfl
theorem nc : (-x).c = -x.c := rfl
theorem nd : (-x).d = -x.d := rfl
theorem sa : (x - y).a = x.a + -y.a := rfl
theorem sb : (x - y).b = x.b + -y.b := rfl
theorem sc : (x - y).c = x.c + -y.c := rfl
theorem sd : (x - y).d = x.d + -y.d := rfl
theorem ma : (x * y).a = x.a * y.a - x.b * y.d - x.c * y.c - x.d * y.b := rfl
theorem mb : (x * y).b = x.a * y.b + x.b * y.a - x.c * y.d - x.d * y.c := rfl
theorem mc : (x * y).c = x.a * y.c + x.b * y.b + x.c * y.a - x.d * y.d := rfl
theorem md : (x * y).d = x.a * y.d + x.b * y.c + x.c * y.b + x.d * y.a := rfl
theorem ca : (conj x).a = x.a := rfl
theorem cb : (conj x).b = -x.d := rfl
theorem cc : (conj x).c = -x.c := rfl
theorem cd : (conj x).d = -x.b := rfl
theorem add_comm : x + y = y + x := by apply ext' <;> simp only [aa, ab, ac, ad] <;> grind
theorem add_assoc : x + y + z = x + (y + z) := by apply ext' <;> simp only [aa, ab, ac, ad] <;> grind
theorem add_zero : x + 0 = x := by apply ext' <;> simp only [aa, ab, ac, ad, za, zb, zc, zd] <;> grind
theorem zero_add : 0 + x = x := by rw [add_comm, add_zero]
theorem add_neg : x + -x = 0 := by apply ext' <;> simp only [aa, ab, ac, ad, na, nb, nc, nd, za, zb, zc, zd] <;> grind
theorem sub_def : x - y = x + -y := rfl
theorem mul_comm : x * y = y * x := by apply ext' <;> simp only [ma, mb, mc, md] <;> grind
theorem mul_assoc : x * y * z = x * (y * z) := by apply ext' <;> simp only [ma, mb, mc, md] <;> grind
theorem mul_one : x * 1 = x := by apply ext' <;> simp only [ma, mb, mc, md, oa, ob, oc, od] <;> grind
theorem one_mul : 1 * x = x := by rw [mul_comm, mul_one]
theorem mul_zero : x * 0 = 0 := by apply ext' <;> simp only [ma, mb, mc, md, za, zb, zc, zd] <;> grind
theorem zero_mul : 0 * x = 0 := by rw [mul_comm, mul_zero]
theorem mul_add : x * (y + z) = x * y + x * z := by apply ext' <;> simp only [ma, mb, mc, md, aa, ab, ac, ad] <;> grind
theorem add_mul : (x + y) * z = x * z + y * z := by rw [mul_comm, mul_add, mul_comm z x, mul_comm z y]
theorem mul_neg : x * -y = -(x * y) := by apply ext' <;> simp only [ma, mb, mc, md, na, nb, nc, nd] <;> grind
theorem neg_mul : -x * y = -(x * y) := by rw [mul_comm, mul_neg, mul_comm]
theorem neg_add : -(x + y) = -x + -y := by apply ext' <;> simp only [aa, ab, ac, ad, na, nb, nc, nd] <;> grind
theorem neg_zero : -(0 : Q4) = 0 := by apply ext' <;> rfl
theorem conj_add : conj (x + y) = conj x + conj y := by apply ext' <;> simp only [aa, ab, ac, ad, ca, cb, cc, cd] <;> grind
theorem conj_mul : conj (x * y) = conj x * conj y := by apply ext' <;> simp only [ma, mb, mc, md, ca, cb, cc, cd] <;> grind
theorem conj_neg : conj (-x) = -conj x := by apply ext' <;> simp only [na, nb, nc, nd, ca, cb, cc, cd]
theorem conj_conj : conj (conj x) = x := by apply ext' <;> simp only [ca, cb, cc, cd] <;> grind
theorem conj_zero : conj 0 = 0 := by apply ext' <;> rfl
theorem conj_one : conj 1 = 1 := by apply ext' <;> rfl
theorem sub_zero_eq {x y : Q4} (h : x - y = 0) : x = y := by
  have e : x - y + y = x := by apply ext' <;> simp only [aa, ab, ac, ad, sa, sb, sc, sd] <;> grind
  rw [← e, h, zero_add]
theorem sub_self : x - x = 0 := add_neg x
theorem norm_a : (x * conj x).a = x.a * x.a + x.b * x.b + x.c * x.c + x.d * x.d := by simp only [ma, ca, cb, cc, cd]; grind
theorem sq0 (r : Rat) : 0 ≤ r * r := by
  rcases Rat.le_total (a:=0) (b:=r) with h | h
  · exact Rat.mul_nonneg h h
  · have := Rat.mul_nonneg (a := -r) (b := -r) (by grind) (by grind)
    grind
theorem norm_nonneg : 0 ≤ (x * conj x).a := by
  rw [norm_a]
  have := sq0 x.a; have := sq0 x.b; have := sq0 x.c; have := sq0 x.d
  grind
theorem norm_zero {x : Q4} (h : (x * conj x).a = 0) : x = 0 := by
  rw [norm_a] at h
  have h1 := sq0 x.a; have h2 := sq0 x.b; have h3 := sq0 x.c; have h4 := sq0 x.d
  have z : ∀ r : Rat, r * r = 0 → r = 0 := fun r h => by grind
  exact ext' (z _ (by grind)) (z _ (by grind)) (z _ (by grind)) (z _ (by grind))

/-- Divided by r. -/
def dh (x : Q4) : Q4 := ⟨(x.b - x.d) / 2, (x.a + x.c) / 2, (x.b + x.d) / 2, (x.c - x.a) / 2⟩
def dn : Nat → Q4 → Q4
  | 0, x => x
  | n + 1, x => dn n (dh x)
theorem dh_inj {x y : Q4} (h : dh x = dh y) : x = y := by
  have h1 : (dh x).a = (dh y).a := by rw [h]
  have h2 : (dh x).b = (dh y).b := by rw [h]
  have h3 : (dh x).c = (dh y).c := by rw [h]
  have h4 : (dh x).d = (dh y).d := by rw [h]
  simp only [dh] at h1 h2 h3 h4
  apply ext' <;> grind
theorem dn_inj : ∀ (n : Nat) {x y : Q4}, dn n x = dn n y → x = y
  | 0, _, _, h => h
  | n + 1, _, _, h => dh_inj (dn_inj n h)
theorem dh_add : dh (x + y) = dh x + dh y := by apply ext' <;> simp only [dh, aa, ab, ac, ad] <;> grind
theorem dn_add : ∀ (n : Nat) (x y : Q4), dn n (x + y) = dn n x + dn n y
  | 0, _, _ => rfl
  | n + 1, x, y => by simp only [dn]; rw [dh_add, dn_add n]
theorem dh_mul : dh (x * y) = dh x * y := by apply ext' <;> simp only [dh, ma, mb, mc, md] <;> grind
theorem dn_mul : ∀ (n : Nat) (x y : Q4), dn n (x * y) = dn n x * y
  | 0, _, _ => rfl
  | n + 1, x, y => by simp only [dn]; rw [dh_mul, dn_mul n]
theorem dn_dn : ∀ (m n : Nat) (x : Q4), dn m (dn n x) = dn (n + m) x
  | m, 0, x => by rw [Nat.zero_add]; rfl
  | m, n + 1, x => by
    rw [show n + 1 + m = (n + m) + 1 by omega]
    exact dn_dn m n (dh x)
theorem dn_mul2 (m n : Nat) (x y : Q4) : dn (m + n) (x * y) = dn m x * dn n y := by
  rw [← dn_dn, dn_mul, mul_comm, dn_mul, mul_comm]
theorem dh_conj : dh (conj x) = conj (dh x) := by apply ext' <;> simp only [dh, ca, cb, cc, cd] <;> grind
theorem dn_conj : ∀ (n : Nat) (x : Q4), dn n (conj x) = conj (dn n x)
  | 0, _ => rfl
  | n + 1, x => by simp only [dn]; rw [dh_conj, dn_conj n]
theorem dh_neg : dh (-x) = -dh x := by apply ext' <;> simp only [dh, na, nb, nc, nd] <;> grind
theorem dn_neg : ∀ (n : Nat) (x : Q4), dn n (-x) = -dn n x
  | 0, _ => rfl
  | n + 1, x => by simp only [dn]; rw [dh_neg, dn_neg n]
end Q4
def Nm.co (z : Nm) : Q4 := ⟨(z.a : Rat), (z.b : Rat), (z.c : Rat), (z.d : Rat)⟩
/-- The value of a number. -/
def Nm.val (z : Nm) : Q4 := Q4.dn z.k.toNat z.co
theorem co_tr (z : Nm) : Q4.dh z.tr.co = z.co := by
  apply Q4.ext' <;> simp only [Q4.dh, Nm.co, Nm.tr, Rat.intCast_add, Rat.intCast_sub] <;> grind
theorem val_tr {z : Nm} (h : 0 ≤ z.k) : z.tr.val = z.val := by
  unfold Nm.val
  have : z.tr.k.toNat = z.k.toNat + 1 := by simp only [Nm.tr]; omega
  rw [this]
  show Q4.dn z.k.toNat (Q4.dh z.tr.co) = _
  rw [co_tr]
theorem val_up : ∀ (n : Nat) {z : Nm}, 0 ≤ z.k → (Nm.up n z).val = z.val
  | 0, _, _ => rfl
  | n + 1, z, h => by
    have := val_up n (z := z.tr) (by simp only [Nm.tr]; omega)
    show (Nm.up n z.tr).val = _
    rw [this, val_tr h]
theorem val_eqv {x y : Nm} (hx : 0 ≤ x.k) (hy : 0 ≤ y.k) (h : Eqv x y) : x.val = y.val := by
  obtain ⟨i, j, h⟩ := h
  rw [← val_up i hx, h, val_up j hy]
theorem co_inj {x y : Nm} (hk : x.k = y.k) (h : x.co = y.co) : x = y := by
  have h1 : (x.a : Rat) = y.a := by show x.co.a = y.co.a; rw [h]
  have h2 : (x.b : Rat) = y.b := by show x.co.b = y.co.b; rw [h]
  have h3 : (x.c : Rat) = y.c := by show x.co.c = y.co.c; rw [h]
  have h4 : (x.d : Rat) = y.d := by show x.co.d = y.co.d; rw [h]
  obtain ⟨a, b, c, d, k⟩ := x
  obtain ⟨a', b', c', d', k'⟩ := y
  dsimp only at *
  rw [Rat.intCast_inj.1 h1, Rat.intCast_inj.1 h2, Rat.intCast_inj.1 h3, Rat.intCast_inj.1 h4, hk]
theorem eqv_val {x y : Nm} (hx : 0 ≤ x.k) (hy : 0 ≤ y.k) (h : x.val = y.val) : Eqv x y := by
  refine ⟨(y.k).toNat, (x.k).toNat, ?_⟩
  have hk : (Nm.up (y.k).toNat x).k = (Nm.up (x.k).toNat y).k := by rw [Nm.up_k, Nm.up_k]; omega
  refine co_inj hk ?_
  have h1 := val_up (y.k).toNat hx
  have h2 := val_up (x.k).toNat hy
  rw [h, ← h2] at h1
  unfold Nm.val at h1
  rw [hk] at h1
  exact Q4.dn_inj _ h1
theorem val_ok {x y : Nm} (hx : x.Ok) (hy : y.Ok) (h : x.val = y.val) : x = y := form_unique hx.nf hy.nf hx.k0 hy.k0 (eqv_val hx.k0 hy.k0 h)
theorem to_up {x : Nm} {m : Int} (h : 0 ≤ x.k) : (x.to m).val = x.val := val_up _ h
theorem val_addR {x y : Nm} (hx : 0 ≤ x.k) (hy : 0 ≤ y.k) : (x.addR y).val = x.val + y.val := by
  have h1 := to_up (x := x) (m := max x.k y.k) hx
  have h2 := to_up (x := y) (m := max x.k y.k) hy
  have k1 := Nm.to_k (z := x) (m := max x.k y.k) (by omega)
  have k2 := Nm.to_k (z := y) (m := max x.k y.k) (by omega)
  rw [← h1, ← h2]
  unfold Nm.val
  rw [k1, k2, ← Q4.dn_add]
  unfold Nm.addR
  dsimp only
  congr 1
  apply Q4.ext' <;> simp only [Nm.co, Q4.aa, Q4.ab, Q4.ac, Q4.ad, Rat.intCast_add]
theorem val_mulR {x y : Nm} (hx : 0 ≤ x.k) (hy : 0 ≤ y.k) : (x.mulR y).val = x.val * y.val := by
  unfold Nm.val
  have : (x.mulR y).k.toNat = x.k.toNat + y.k.toNat := by simp only [Nm.mulR]; omega
  rw [this, ← Q4.dn_mul2]
  congr 1
  apply Q4.ext' <;> simp only [Nm.co, Nm.mulR, Q4.ma, Q4.mb, Q4.mc, Q4.md, Rat.intCast_add, Rat.intCast_sub, Rat.intCast_mul]
theorem val_conj (x : Nm) : x.conj.val = Q4.conj x.val := by
  have e : x.conj.co = Q4.conj x.co := by apply Q4.ext' <;> simp only [Nm.co, Nm.conj, Q4.ca, Q4.cb, Q4.cc, Q4.cd, Rat.intCast_neg]
  unfold Nm.val
  rw [← Q4.dn_conj, e]
  rfl
theorem val_neg (x : Nm) : x.neg.val = -x.val := by
  have e : x.neg.co = -x.co := by apply Q4.ext' <;> simp only [Nm.co, Nm.neg, Q4.na, Q4.nb, Q4.nc, Q4.nd, Rat.intCast_neg]
  unfold Nm.val
  rw [← Q4.dn_neg, e]
  rfl
theorem val_zero : Nm.zero.val = 0 := rfl
theorem val_one : Nm.one.val = 1 := rfl

/-- A sum. -/
def sumQ : Nat → (Nat → Q4) → Q4
  | 0, _ => 0
  | n + 1, f => sumQ n f + f n
theorem sumQ_congr : ∀ {n : Nat} {f g : Nat → Q4}, (∀ i, i < n → f i = g i) → sumQ n f = sumQ n g
  | 0, _, _, _ => rfl
  | n + 1, f, g, h => by simp only [sumQ]; rw [sumQ_congr fun i hi => h i (by omega), h n (by omega)]
theorem sumQ_add (n : Nat) (f g : Nat → Q4) : sumQ n (fun i => f i + g i) = sumQ n f + sumQ n g := by
  induction n with
  | zero => exact (Q4.add_zero 0).symm
  | succ n ih => simp only [sumQ]; rw [ih, Q4.add_assoc, Q4.add_assoc, ← Q4.add_assoc (sumQ n g), Q4.add_comm (sumQ n g) (f n), Q4.add_assoc]
theorem sumQ_zero (n : Nat) : sumQ n (fun _ => 0) = 0 := by
  induction n with
  | zero => rfl
  | succ n ih => simp only [sumQ]; rw [ih, Q4.add_zero]
theorem sumQ_neg (n : Nat) (f : Nat → Q4) : sumQ n (fun i => -f i) = -sumQ n f := by
  induction n with
  | zero => exact Q4.neg_zero.symm
  | succ n ih => simp only [sumQ]; rw [ih, Q4.neg_add]
theorem sumQ_mul (n : Nat) (x : Q4) (f : Nat → Q4) : sumQ n (fun i => x * f i) = x * sumQ n f := by
  induction n with
  | zero => exact (Q4.mul_zero x).symm
  | succ n ih => simp only [sumQ]; rw [ih, Q4.mul_add]
theorem sumQ_mulr (n : Nat) (x : Q4) (f : Nat → Q4) : sumQ n (fun i => f i * x) = sumQ n f * x := by
  rw [Q4.mul_comm, ← sumQ_mul]
  exact sumQ_congr fun i _ => Q4.mul_comm _ _
theorem sumQ_conj (n : Nat) (f : Nat → Q4) : Q4.conj (sumQ n f) = sumQ n fun i => Q4.conj (f i) := by
  induction n with
  | zero => exact Q4.conj_zero
  | succ n ih => simp only [sumQ]; rw [Q4.conj_add, ih]
theorem sumQ_swap (m n : Nat) (f : Nat → Nat → Q4) : sumQ m (fun i => sumQ n (fun j => f i j)) = sumQ n (fun j => sumQ m (fun i => f i j)) := by
  induction m with
  | zero => exact (sumQ_zero n).symm
  | succ m ih => simp only [sumQ]; rw [ih, ← sumQ_add]
def dl (i j : Nat) : Q4 := if i = j then 1 else 0
theorem sumQ_dl {n j : Nat} (f : Nat → Q4) (h : j < n) : sumQ n (fun i => dl j i * f i) = f j := by
  induction n with
  | zero => omega
  | succ n ih =>
    simp only [sumQ]
    by_cases e : j = n
    · subst e
      have : sumQ j (fun i => dl j i * f i) = sumQ j (fun _ => 0) := sumQ_congr fun i hi => by unfold dl; rw [if_neg (by omega), Q4.zero_mul]
      rw [this, sumQ_zero, Q4.zero_add]
      unfold dl
      rw [if_pos rfl, Q4.one_mul]
    · rw [ih (by omega)]
      unfold dl
      rw [if_neg e, Q4.zero_mul, Q4.add_zero]
theorem dl_comm (i j : Nat) : dl i j = dl j i := by unfold dl; split <;> split <;> simp_all
theorem dl_conj (i j : Nat) : Q4.conj (dl i j) = dl i j := by unfold dl; split; exact Q4.conj_one; exact Q4.conj_zero
theorem sumQ_dlr {n j : Nat} (f : Nat → Q4) (h : j < n) : sumQ n (fun i => f i * dl i j) = f j := by
  rw [← sumQ_dl f h]
  exact sumQ_congr fun i _ => by rw [Q4.mul_comm, dl_comm]
theorem sumQ_a_nonneg : ∀ {n : Nat} {f : Nat → Q4}, (∀ i, i < n → 0 ≤ (f i).a) → 0 ≤ (sumQ n f).a
  | 0, _, _ => by show (0 : Rat) ≤ 0; grind
  | n + 1, f, h => by
    simp only [sumQ, Q4.aa]
    have := sumQ_a_nonneg (n := n) fun i hi => h i (by omega)
    have := h n (by omega)
    grind
theorem sumQ_a_zero : ∀ {n : Nat} {f : Nat → Q4}, (∀ i, i < n → 0 ≤ (f i).a) → (sumQ n f).a = 0 → ∀ i, i < n → (f i).a = 0
  | 0, _, _, _, i, hi => by omega
  | n + 1, f, h, h0, i, hi => by
    simp only [sumQ, Q4.aa] at h0
    have h1 := sumQ_a_nonneg (n := n) fun i hi => h i (by omega)
    have h2 := h n (by omega)
    by_cases e : i = n
    · subst e; grind
    · have h3 : (sumQ n f).a = 0 := by grind
      exact sumQ_a_zero (n := n) (fun i hi => h i (by omega)) h3 i (by omega)

/-- The rows are unit vectors that are orthogonal to each other. -/
def UnR (n : Nat) (m : Nat → Nat → Q4) : Prop := ∀ i j, i < n → j < n → sumQ n (fun k => m i k * Q4.conj (m j k)) = dl i j
def UnC (n : Nat) (m : Nat → Nat → Q4) : Prop := ∀ i j, i < n → j < n → sumQ n (fun k => Q4.conj (m k i) * m k j) = dl i j
theorem unC_of_unR {n : Nat} {m : Nat → Nat → Q4} (h : UnR n m) : UnC n m := by
  let p : Nat → Nat → Q4 := fun i j => sumQ n (fun k => Q4.conj (m k i) * m k j)
  have hpc : ∀ i j, Q4.conj (p i j) = p j i := fun i j => by
    show Q4.conj (sumQ n _) = sumQ n _
    rw [sumQ_conj]
    exact sumQ_congr fun k _ => by rw [Q4.conj_mul, Q4.conj_conj, Q4.mul_comm]
  have hpp : ∀ i j, i < n → j < n → sumQ n (fun k => p i k * p k j) = p i j := fun i j hi hj => by
    have e1 : sumQ n (fun k => p i k * p k j) = sumQ n fun k => sumQ n fun a => sumQ n fun b => (Q4.conj (m a i) * m a k) * (Q4.conj (m b k) * m b j) := sumQ_congr fun k _ => by
      show sumQ n _ * p k j = _
      rw [← sumQ_mulr]
      exact sumQ_congr fun a _ => by rw [← sumQ_mul]
    rw [e1, sumQ_swap]
    have e2 : ∀ a, a < n → sumQ n (fun k => sumQ n fun b => (Q4.conj (m a i) * m a k) * (Q4.conj (m b k) * m b j)) = Q4.conj (m a i) * m a j := fun a ha => by
      rw [sumQ_swap]
      have e3 : ∀ b, b < n → sumQ n (fun k => (Q4.conj (m a i) * m a k) * (Q4.conj (m b k) * m b j)) = dl a b * (Q4.conj (m a i) * m b j) := fun b hb => by
        rw [← h a b ha hb, ← sumQ_mulr]
        exact sumQ_congr fun k _ => by
          rw [Q4.mul_assoc, Q4.mul_comm (Q4.conj (m a i)), ← Q4.mul_assoc (m a k), Q4.mul_assoc (m a k * Q4.conj (m b k)), Q4.mul_comm (m b j)]
      rw [sumQ_congr e3, sumQ_dl (fun b => Q4.conj (m a i) * m b j) ha]
    rw [sumQ_congr e2]
  have htr : sumQ n (fun i => dl i i - p i i) = 0 := by
    have e1 : sumQ n (fun i => p i i) = sumQ n fun i => dl i i := by
      show sumQ n (fun i => sumQ n fun k => Q4.conj (m k i) * m k i) = _
      rw [sumQ_swap]
      exact sumQ_congr fun k hk => by
        rw [← h k k hk hk]
        exact sumQ_congr fun i _ => Q4.mul_comm _ _
    have e2 : sumQ n (fun i => dl i i - p i i) = sumQ n (fun i => dl i i) + -sumQ n (fun i => p i i) := by rw [← sumQ_neg, ← sumQ_add]; rfl
    rw [e2, e1, Q4.add_neg]
  have hx : ∀ i, i < n → sumQ n (fun j => (dl i j - p i j) * Q4.conj (dl i j - p i j)) = dl i i - p i i := fun i hi => by
    have e1 : ∀ j, j < n → (dl i j - p i j) * Q4.conj (dl i j - p i j) = (dl i j * dl j i + -(dl i j * p j i)) + (-(p i j * dl j i) + p i j * p j i) := fun j _ => by
      rw [Q4.sub_def, Q4.conj_add, Q4.conj_neg, hpc, dl_conj, dl_comm i j, Q4.mul_add, Q4.add_mul, Q4.add_mul, Q4.mul_neg, Q4.mul_neg, Q4.neg_mul, Q4.neg_mul, Q4.add_assoc, Q4.add_assoc]
      congr 1
      rw [← Q4.add_assoc, ← Q4.add_assoc, Q4.add_comm (-(p i j * dl j i))]
      congr 1
      apply Q4.ext' <;> simp only [Q4.na, Q4.nb, Q4.nc, Q4.nd] <;> grind
    rw [sumQ_congr e1, sumQ_add, sumQ_add, sumQ_add, sumQ_neg, sumQ_neg, sumQ_dl (fun j => dl j i) hi, sumQ_dl (fun j => p j i) hi, sumQ_dlr (fun j => p i j) hi, hpp i i hi hi, Q4.add_comm (-p i i) (p i i), Q4.add_neg, Q4.add_zero]
    rfl
  have hz : ∀ i, i < n → (dl i i - p i i).a = 0 := sumQ_a_zero (fun i hi => by rw [← hx i hi]; exact sumQ_a_nonneg fun j _ => Q4.norm_nonneg _) (by rw [htr]; rfl)
  intro i j hi hj
  have h1 : (sumQ n (fun j => (dl i j - p i j) * Q4.conj (dl i j - p i j))).a = 0 := by rw [hx i hi]; exact hz i hi
  have h2 := sumQ_a_zero (fun j _ => Q4.norm_nonneg _) h1 j hj
  exact (Q4.sub_zero_eq (Q4.norm_zero h2)).symm
theorem unR_of_unC {n : Nat} {m : Nat → Nat → Q4} (h : UnC n m) : UnR n m := by
  have h1 : UnR n (fun i k => Q4.conj (m k i)) := fun i j hi hj => by
    rw [← h i j hi hj]
    exact sumQ_congr fun k _ => by rw [Q4.conj_conj]
  have h2 := unC_of_unR h1
  intro i j hi hj
  rw [← h2 i j hi hj]
  exact sumQ_congr fun k _ => by rw [Q4.conj_conj]
theorem unR_iff {n : Nat} {m : Nat → Nat → Q4} : UnR n m ↔ UnC n m := ⟨unC_of_unR, unR_of_unC⟩
end Go.Proofs.Ytccbinnlnkpplaa
