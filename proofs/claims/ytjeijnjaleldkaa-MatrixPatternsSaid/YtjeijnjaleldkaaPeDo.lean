/- Plain: the permanent as the document forms it, its value and its size. -/
import Derived.Test.YtjeijnjaleldkaaPePl
import Derived.Test.YtjeijnjaleldkaaSg
namespace Go.Proofs.Ytjeijnjaleldkaa
set_option linter.all false

def sumN : Nat → (Nat → Nm) → Nm
  | 0, _ => Nm.zero
  | m + 1, f => (sumN m f).addR (f m)
/-- The permanent of a list of n rows, by its first row. -/
def pR : Nat → List (List Nm) → Nm
  | 0, _ => Nm.one
  | n + 1, l => sumN (n + 1) fun k => (nm (l.headD []) k).mulR (pR n (l.tail.map fun s => s.eraseIdx k))
theorem sumN_k (f : Nat → Nm) : ∀ m, (∀ k, k < m → 0 ≤ (f k).k) → 0 ≤ (sumN m f).k
  | 0, _ => by show (0 : Int) ≤ 0; omega
  | m + 1, h => addR_k (sumN_k f m fun k hk => h k (by omega))
theorem sumN_val (f : Nat → Nm) : ∀ m, (∀ k, k < m → 0 ≤ (f k).k) → (sumN m f).val = sumQ m fun k => (f k).val
  | 0, _ => val_zero
  | m + 1, h => by
    show ((sumN m f).addR (f m)).val = sumQ m _ + _
    rw [val_addR (sumN_k f m fun k hk => h k (by omega)) (h m (by omega)), sumN_val f m fun k hk => h k (by omega)]
section
variable {α β : Type}
theorem erase_map (f : α → β) : ∀ (l : List α) (k : Nat), (l.map f).eraseIdx k = (l.eraseIdx k).map f
  | [], _ => rfl
  | _ :: _, 0 => rfl
  | x :: t, k + 1 => by
    show f x :: (t.map f).eraseIdx k = f x :: (t.eraseIdx k).map f
    rw [erase_map f t k]
theorem erase_len : ∀ (l : List α) (k : Nat), k < l.length → (l.eraseIdx k).length + 1 = l.length
  | [], _, h => by simp at h
  | _ :: _, 0, _ => rfl
  | x :: t, k + 1, h => by
    show (t.eraseIdx k).length + 1 + 1 = t.length + 1
    rw [erase_len t k (by simpa using h)]
theorem erase_mem : ∀ {l : List α} {k : Nat} {y : α}, y ∈ l.eraseIdx k → y ∈ l
  | x :: t, 0, y, h => by simpa using Or.inr h
  | x :: t, k + 1, y, h => by
    rcases List.mem_cons.1 (show y ∈ x :: t.eraseIdx k from h) with rfl | h
    · simp
    · simp [erase_mem h]
theorem nm_map (a : α → Nm) : ∀ (l : List α) (k : Nat) (h : k < l.length), nm (l.map a) k = a l[k]
  | [], _, h => by simp at h
  | x :: t, 0, _ => rfl
  | x :: t, k + 1, h => nm_map a t k (by simpa using h)
/-- The table of a function of rows and columns. -/
def tbl (a : α → β → Nm) (R : List α) (C : List β) : List (List Nm) := R.map fun r => C.map (a r)
theorem tbl_erase (a : α → β → Nm) (R : List α) (C : List β) (k : Nat) : ((tbl a R C).map fun s => s.eraseIdx k) = tbl a R (C.eraseIdx k) := by
  unfold tbl
  rw [List.map_map]
  exact List.map_congr_left fun r _ => erase_map (a r) C k
theorem pR_k (a : α → β → Nm) (h : ∀ r x, 0 ≤ (a r x).k) : ∀ (n : Nat) (R : List α) (C : List β), R.length = n → C.length = n → 0 ≤ (pR n (tbl a R C)).k
  | 0, _, _, _, _ => by show (0 : Int) ≤ 0; omega
  | n + 1, [], _, hR, _ => by simp at hR
  | n + 1, r :: R, C, hR, hC => sumN_k _ _ fun k hk => by
    show 0 ≤ ((nm (C.map (a r)) k).mulR (pR n ((tbl a R C).map fun s => s.eraseIdx k))).k
    rw [tbl_erase, nm_map (a r) C k (by omega)]
    have := erase_len C k (by omega)
    exact mulR_k (h _ _) (pR_k a h n R _ (by simpa using hR) (by omega))
theorem pR_val (a : α → β → Nm) (h : ∀ r x, 0 ≤ (a r x).k) : ∀ (n : Nat) (R : List α) (C : List β), R.length = n → C.length = n → (pR n (tbl a R C)).val = pm (fun r x => (a r x).val) R C
  | 0, R, C, hR, _ => by
    obtain rfl : R = [] := List.length_eq_zero_iff.1 hR
    exact val_one
  | n + 1, [], _, hR, _ => by simp at hR
  | n + 1, r :: R, C, hR, hC => by
    have hR' : R.length = n := by simpa using hR
    have e : ∀ k, k < n + 1 → ∃ hk : k < C.length, (nm ((tbl a (r :: R) C).headD []) k).mulR (pR n ((tbl a (r :: R) C).tail.map fun s => s.eraseIdx k)) = (a r C[k]).mulR (pR n (tbl a R (C.eraseIdx k))) := fun k hk => ⟨by omega, by
      show (nm (C.map (a r)) k).mulR (pR n ((tbl a R C).map fun s => s.eraseIdx k)) = _
      rw [tbl_erase, nm_map (a r) C k (by omega)]⟩
    have hk0 : ∀ k, k < n + 1 → (C.eraseIdx k).length = n := fun k hk => by have := erase_len C k (by omega); omega
    show (sumN (n + 1) _).val = pk C fun x q => (a r x).val * pm (fun r x => (a r x).val) R q
    rw [sumN_val _ _ fun k hk => by obtain ⟨_, e⟩ := e k hk; rw [e]; exact mulR_k (h _ _) (pR_k a h n R _ hR' (hk0 k hk))]
    cases C with
    | nil => simp at hC
    | cons x0 C0 =>
      rw [pk_idx x0, hC]
      refine sumQ_congr fun k hk => ?_
      obtain ⟨hk1, e⟩ := e k hk
      rw [e, val_mulR (h _ _) (pR_k a h n R _ hR' (hk0 k hk)), pR_val a h n R _ hR' (hk0 k hk), List.getD_eq_getElem?_getD, List.getElem?_eq_getElem hk1]
      rfl
end

/-! ### Size -/
def Nm.pl (x y : Nm) : Nm := ⟨x.a + y.a, x.b + y.b, x.c + y.c, x.d + y.d, x.k⟩
theorem tr_pl (x y : Nm) : (x.pl y).tr = x.tr.pl y.tr := by
  simp only [Nm.pl, Nm.tr]
  congr 1 <;> omega
theorem up_pl : ∀ (n : Nat) (x y : Nm), Nm.up n (x.pl y) = (Nm.up n x).pl (Nm.up n y)
  | 0, _, _ => rfl
  | n + 1, x, y => by
    show Nm.up n (x.pl y).tr = _
    rw [tr_pl, up_pl n]
    rfl
theorem up_to {x : Nm} {m K : Int} (h : x.k ≤ m) (h' : m ≤ K) : Nm.up (K - m).toNat (x.to m) = x.to K := by
  unfold Nm.to
  rw [Nm.up_add]
  congr 1
  omega
theorem pl_comm' (x y : Nm) (h : x.k = y.k) : x.pl y = y.pl x := by
  unfold Nm.pl
  rw [h, Int.add_comm x.a, Int.add_comm x.b, Int.add_comm x.c, Int.add_comm x.d]
theorem addR_to {x y : Nm} {K : Int} (hx : x.k ≤ K) (hy : y.k ≤ K) : (x.addR y).k ≤ K ∧ (x.addR y).to K = (x.to K).pl (y.to K) := by
  rcases Int.lt_or_le x.k y.k with h | h
  · have e : x.addR y = (x.to y.k).pl y := by
      rw [addR_lt h]
      unfold Nm.pl
      rw [Nm.to_k (by omega)]
    have ek : (x.addR y).k = y.k := by rw [addR_lt h]
    refine ⟨by omega, ?_⟩
    show Nm.up (K - (x.addR y).k).toNat (x.addR y) = _
    rw [ek, e, up_pl, up_to (by omega) hy]
    rfl
  · have e : x.addR y = x.pl (y.to x.k) := by
      rw [addR_ge h]
      unfold Nm.pl
      rw [Int.add_comm x.a, Int.add_comm x.b, Int.add_comm x.c, Int.add_comm x.d]
    have ek : (x.addR y).k = x.k := by rw [addR_ge h]
    refine ⟨by omega, ?_⟩
    show Nm.up (K - (x.addR y).k).toNat (x.addR y) = _
    rw [ek, e, up_pl, up_to h hx]
    rfl
theorem tr_down {B : Int} {z : Nm} (h : z.tr.Fit B) : z.Fit B := by
  obtain ⟨a0, a1, b0, b1, c0, c1, d0, d1⟩ := h
  simp only [Nm.tr] at *
  exact ⟨by omega, by omega, by omega, by omega, by omega, by omega, by omega, by omega⟩
theorem up_down {B : Int} : ∀ (n : Nat) {z : Nm}, (Nm.up n z).Fit B → z.Fit B
  | 0, _, h => h
  | n + 1, z, h => tr_down (up_down n (z := z.tr) h)
theorem pl_fit {A B : Int} {x y : Nm} (hx : x.Fit A) (hy : y.Fit B) : (x.pl y).Fit (A + B) := by
  obtain ⟨a0, a1, b0, b1, c0, c1, d0, d1⟩ := hx
  obtain ⟨a0', a1', b0', b1', c0', c1', d0', d1'⟩ := hy
  exact ⟨by simp only [Nm.pl]; omega, by simp only [Nm.pl]; omega, by simp only [Nm.pl]; omega, by simp only [Nm.pl]; omega, by simp only [Nm.pl]; omega, by simp only [Nm.pl]; omega, by simp only [Nm.pl]; omega, by simp only [Nm.pl]; omega⟩
theorem mul_bd {x y A B : Int} (hx : -A ≤ x) (hx' : x ≤ A) (hy : -B ≤ y) (hy' : y ≤ B) : -(A * B) ≤ x * y ∧ x * y ≤ A * B := by
  have h1 : x.natAbs ≤ A.toNat := by omega
  have h2 : y.natAbs ≤ B.toNat := by omega
  have h3 := Nat.mul_le_mul h1 h2
  rw [← Int.natAbs_mul] at h3
  have h4 : ((A.toNat * B.toNat : Nat) : Int) = A * B := by
    rw [Int.natCast_mul, Int.toNat_of_nonneg (by omega), Int.toNat_of_nonneg (by omega)]
  omega
theorem mulR_fitG {A B : Int} {x y : Nm} (hx : x.Fit A) (hy : y.Fit B) : (x.mulR y).Fit (4 * (A * B)) := by
  obtain ⟨a0, a1, b0, b1, c0, c1, d0, d1⟩ := hx
  obtain ⟨a0', a1', b0', b1', c0', c1', d0', d1'⟩ := hy
  have p1 := mul_bd a0 a1 a0' a1'; have p2 := mul_bd a0 a1 b0' b1'; have p3 := mul_bd a0 a1 c0' c1'; have p4 := mul_bd a0 a1 d0' d1'
  have q1 := mul_bd b0 b1 a0' a1'; have q2 := mul_bd b0 b1 b0' b1'; have q3 := mul_bd b0 b1 c0' c1'; have q4 := mul_bd b0 b1 d0' d1'
  have r1 := mul_bd c0 c1 a0' a1'; have r2 := mul_bd c0 c1 b0' b1'; have r3 := mul_bd c0 c1 c0' c1'; have r4 := mul_bd c0 c1 d0' d1'
  have s1 := mul_bd d0 d1 a0' a1'; have s2 := mul_bd d0 d1 b0' b1'; have s3 := mul_bd d0 d1 c0' c1'; have s4 := mul_bd d0 d1 d0' d1'
  generalize A * B = M at *
  unfold Nm.mulR
  exact ⟨by dsimp only; omega, by dsimp only; omega, by dsimp only; omega, by dsimp only; omega, by dsimp only; omega, by dsimp only; omega, by dsimp only; omega, by dsimp only; omega⟩
theorem mulR_tl (x y : Nm) : x.tr.mulR y = (x.mulR y).tr := by
  unfold Nm.mulR Nm.tr
  congr 1 <;> grind
theorem mulR_tr (x y : Nm) : x.mulR y.tr = (x.mulR y).tr := by
  unfold Nm.mulR Nm.tr
  congr 1 <;> grind
theorem mulR_ul : ∀ (n : Nat) (x y : Nm), (Nm.up n x).mulR y = Nm.up n (x.mulR y)
  | 0, _, _ => rfl
  | n + 1, x, y => by
    show (Nm.up n x.tr).mulR y = Nm.up n (x.mulR y).tr
    rw [mulR_ul n, mulR_tl]
theorem mulR_ur : ∀ (n : Nat) (x y : Nm), x.mulR (Nm.up n y) = Nm.up n (x.mulR y)
  | 0, _, _ => rfl
  | n + 1, x, y => by
    show x.mulR (Nm.up n y.tr) = Nm.up n (x.mulR y).tr
    rw [mulR_ur n, mulR_tr]
theorem mulR_to {x y : Nm} {m n : Int} (hx : x.k ≤ m) (hy : y.k ≤ n) : (x.to m).mulR (y.to n) = (x.mulR y).to (m + n) := by
  have e : (x.mulR y).k = x.k + y.k := rfl
  unfold Nm.to
  rw [mulR_ul, mulR_ur, Nm.up_add, e]
  congr 1
  omega
def Bc : Nat → Int
  | 0 => 1
  | n + 1 => 36028797018963968 * Bc n
theorem Bc_pos : ∀ n, 1 ≤ Bc n
  | 0 => by show (1 : Int) ≤ 1; omega
  | n + 1 => by have := Bc_pos n; show 1 ≤ 36028797018963968 * Bc n; omega
theorem Bc_mono {m n : Nat} (h : m ≤ n) : Bc m ≤ Bc n := by
  induction h with
  | refl => exact Int.le_refl _
  | step _ ih => rename_i k _; have := Bc_pos k; show _ ≤ 36028797018963968 * Bc k; omega
/-- Bounded as the product of n numbers. -/
structure Bd (n : Nat) (M : Int) (z : Nm) : Prop where
  k0 : 0 ≤ z.k
  k1 : z.k ≤ 40 * n
  fit : (z.to (40 * n)).Fit M
theorem Bd.self {n : Nat} {M : Int} {z : Nm} (h : Bd n M z) : z.Fit M := up_down _ h.fit
theorem Bd.mul {n : Nat} {M : Int} {x z : Nm} (hx : x.Ok) (h : Bd n M z) : Bd (n + 1) (4503599627370496 * M) (x.mulR z) := by
  have hf : (x.to 40).Fit 1048576000000000 := by unfold Nm.to; exact Nm.up40_fit hx.fit (by have := hx.k0; omega)
  have h0 := hx.k0; have h1 := hx.k1; have h2 := h.k0; have h3 := h.k1
  have ek : (x.mulR z).k = x.k + z.k := rfl
  have e := mulR_to hx.k1 h.k1
  have e2 : (40 : Int) + 40 * n = 40 * ((n + 1 : Nat) : Int) := by simp only [Int.natCast_add]; omega
  rw [e2] at e
  have hM : 0 ≤ M := by have := h.fit.a0; have := h.fit.a1; omega
  refine ⟨by omega, by omega, ?_⟩
  rw [← e]
  exact Nm.fit_mono (mulR_fitG hf h.fit) (by omega)
theorem sumN_bd {n : Nat} {M : Int} (f : Nat → Nm) (hM : 0 ≤ M) : ∀ m, (∀ k, k < m → Bd n M (f k)) → Bd n (m * M) (sumN m f)
  | 0, _ => by
    have e : ∀ j, ((Nm.up j Nm.zero).a = 0 ∧ (Nm.up j Nm.zero).b = 0) ∧ (Nm.up j Nm.zero).c = 0 ∧ (Nm.up j Nm.zero).d = 0 := by
      intro j
      induction j with
      | zero => exact ⟨⟨rfl, rfl⟩, rfl, rfl⟩
      | succ j ih =>
        rw [Nm.up, Nm.up_tr]
        simp only [Nm.tr]
        omega
    have e := e (40 * (n : Int) - Nm.zero.k).toNat
    refine ⟨by show (0 : Int) ≤ 0; omega, by show (0 : Int) ≤ 40 * n; omega, ?_⟩
    unfold Nm.to
    show Nm.Fit ((0 : Nat) * M) (Nm.up (40 * (n : Int) - Nm.zero.k).toNat Nm.zero)
    exact ⟨by omega, by omega, by omega, by omega, by omega, by omega, by omega, by omega⟩
  | m + 1, h => by
    have ih := sumN_bd f hM m fun k hk => h k (by omega)
    have h1 := h m (by omega)
    have e := addR_to ih.k1 h1.k1
    refine ⟨addR_k ih.k0, e.1, ?_⟩
    show (((sumN m f).addR (f m)).to _).Fit _
    rw [e.2]
    refine Nm.fit_mono (pl_fit ih.fit h1.fit) ?_
    rw [Int.natCast_add, Int.add_mul]
    omega
theorem one_bd : Bd 0 (Bc 0) Nm.one := ⟨by decide, by decide, ⟨by decide, by decide, by decide, by decide, by decide, by decide, by decide, by decide⟩⟩
theorem Bd.mono {n : Nat} {M M' : Int} {z : Nm} (h : Bd n M z) (hM : M ≤ M') : Bd n M' z := ⟨h.k0, h.k1, Nm.fit_mono h.fit hM⟩
/-- Every row has n valid numbers. -/
def Sq (n : Nat) (l : List (List Nm)) : Prop := ∀ s ∈ l, s.length = n ∧ ∀ z ∈ s, z.Ok
theorem Sq.erase {n k : Nat} {l : List (List Nm)} (h : Sq (n + 1) l) (hk : k < n + 1) : Sq n (l.map fun s => s.eraseIdx k) := by
  intro s hs
  obtain ⟨t, ht, rfl⟩ := List.mem_map.1 hs
  obtain ⟨h1, h2⟩ := h t ht
  have := erase_len t k (by omega)
  exact ⟨by omega, fun z hz => h2 z (erase_mem hz)⟩
theorem Sq.tail {n : Nat} {l : List (List Nm)} (h : Sq n l) : Sq n l.tail := fun s hs => h s (List.mem_of_mem_tail hs)
theorem pR_bd : ∀ (n : Nat) (l : List (List Nm)), n ≤ 7 → l.length = n → Sq n l → Bd n (Bc n) (pR n l)
  | 0, _, _, _, _ => one_bd
  | n + 1, [], _, h, _ => by simp at h
  | n + 1, r :: l, hn, h, hS => by
    obtain ⟨h1, h2⟩ := hS r (by simp)
    have hb := Bc_pos n
    have key : ∀ k, k < n + 1 → Bd (n + 1) (4503599627370496 * Bc n) ((nm r k).mulR (pR n (l.map fun s => s.eraseIdx k))) := fun k hk =>
      Bd.mul (h2 _ (NmE.at_mem (by omega))) (pR_bd n _ (by omega) (by simpa using h) (Sq.erase (hS.tail) hk))
    have := sumN_bd _ (by omega) (n + 1) key
    refine this.mono ?_
    show ((n + 1 : Nat) : Int) * (4503599627370496 * Bc n) ≤ 36028797018963968 * Bc n
    have e := Int.mul_le_mul_of_nonneg_right (show ((n + 1 : Nat) : Int) ≤ 8 by omega) (show 0 ≤ 4503599627370496 * Bc n by omega)
    omega
theorem Bc_5 : Bc 5 = 60708402882054033466233184588234965832575213720379360039119137804340758912662765568 := by decide
theorem sumN_congr {f g : Nat → Nm} : ∀ m, (∀ k, k < m → f k = g k) → sumN m f = sumN m g
  | 0, _ => rfl
  | m + 1, h => by
    show (sumN m f).addR (f m) = (sumN m g).addR (g m)
    rw [sumN_congr m fun k hk => h k (by omega), h m (by omega)]
end Go.Proofs.Ytjeijnjaleldkaa
