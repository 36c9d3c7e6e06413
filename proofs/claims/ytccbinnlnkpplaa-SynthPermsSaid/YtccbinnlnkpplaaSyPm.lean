/- Inverses of permutations: they are permutations, undo them and have as many inversions. -/
import Derived.Test.YtccbinnlnkpplaaSy6
namespace Go.Proofs.Ytccbinnlnkpplaa
set_option linter.all false
open Go.RowKit

/-! ### Sums -/
def Sm : Nat → (Nat → Nat) → Nat
  | 0, _ => 0
  | n + 1, f => Sm n f + f n
theorem Sm_congr : ∀ {n : Nat} {f g : Nat → Nat}, (∀ i, i < n → f i = g i) → Sm n f = Sm n g
  | 0, _, _, _ => rfl
  | n + 1, f, g, h => by simp only [Sm]; rw [Sm_congr (fun i hi => h i (by omega)), h n (by omega)]
theorem Sm_add (f g : Nat → Nat) : ∀ n, Sm n (fun i => f i + g i) = Sm n f + Sm n g
  | 0 => rfl
  | n + 1 => by simp only [Sm]; rw [Sm_add f g n]; omega
theorem Sm_zero : ∀ n, Sm n (fun _ => 0) = 0
  | 0 => rfl
  | n + 1 => by simp only [Sm]; rw [Sm_zero n]
theorem Sm_swap (f : Nat → Nat → Nat) (m : Nat) : ∀ n, Sm n (fun i => Sm m (fun j => f i j)) = Sm m (fun j => Sm n (fun i => f i j))
  | 0 => by simp only [Sm]; exact (Sm_zero m).symm
  | n + 1 => by simp only [Sm]; rw [Sm_swap f m n, Sm_add]
theorem Sm_upd {f g : Nat → Nat} {k : Nat} (h : ∀ i, i ≠ k → f i = g i) : ∀ n, k < n → Sm n f + g k = Sm n g + f k
  | 0, hk => by omega
  | n + 1, hk => by
    simp only [Sm]
    by_cases e : k = n
    · subst e
      rw [Sm_congr (fun i hi => h i (by omega) : ∀ i, i < k → f i = g i)]
      omega
    · have := Sm_upd h n (by omega)
      rw [h n (fun e' => e e'.symm)]
      omega
theorem Sm_perm : ∀ (n : Nat) (p : Nat → Nat), (∀ i, i < n → p i < n) → (∀ i j, i < n → j < n → p i = p j → i = j) →
    (∀ h : Nat → Nat, Sm n (fun i => h (p i)) = Sm n h) ∧ ∀ a, a < n → ∃ i, i < n ∧ p i = a
  | 0, _, _, _ => ⟨fun _ => rfl, fun a ha => by omega⟩
  | n + 1, p, hlt, hinj => by
    by_cases hn : p n = n
    · have hlt' : ∀ i, i < n → p i < n := fun i hi => by
        have h1 := hlt i (by omega)
        have h2 : p i ≠ n := fun e => by have := hinj i n (by omega) (by omega) (by omega); omega
        omega
      obtain ⟨ih1, ih2⟩ := Sm_perm n p hlt' (fun i j hi hj => hinj i j (by omega) (by omega))
      refine ⟨fun h => by simp only [Sm]; rw [ih1 h, hn], fun a ha => ?_⟩
      by_cases e : a = n
      · exact ⟨n, by omega, by omega⟩
      · obtain ⟨i, hi, hp⟩ := ih2 a (by omega)
        exact ⟨i, by omega, hp⟩
    · have hm : p n < n := by have := hlt n (by omega); omega
      have hi0 : ∃ k, k < n ∧ p k = n := by
        refine Classical.byContradiction fun hno => ?_
        have hlt' : ∀ i, i < n → p i < n := fun i hi => by
          have h1 := hlt i (by omega)
          have h2 : p i ≠ n := fun e => hno ⟨i, hi, e⟩
          omega
        obtain ⟨_, ih2⟩ := Sm_perm n p hlt' (fun i j hi hj => hinj i j (by omega) (by omega))
        obtain ⟨i, hi, hp⟩ := ih2 (p n) hm
        have := hinj i n (by omega) (by omega) hp
        omega
      obtain ⟨k, hk, hpk⟩ := hi0
      have hlt' : ∀ i, i < n → (fun i => if i = k then p n else p i) i < n := fun i hi => by
        by_cases e : i = k
        · simp only [e, if_true]; exact hm
        · simp only [e, if_false]
          have h1 := hlt i (by omega)
          have h2 : p i ≠ n := fun e' => e (hinj i k (by omega) (by omega) (by omega))
          omega
      have hinj' : ∀ i j, i < n → j < n → (fun i => if i = k then p n else p i) i = (fun i => if i = k then p n else p i) j → i = j := fun i j hi hj e => by
        by_cases e1 : i = k <;> by_cases e2 : j = k
        · omega
        · simp only [e1, e2, if_true, if_false] at e; have := hinj n j (by omega) (by omega) e; omega
        · simp only [e1, e2, if_true, if_false] at e; have := hinj i n (by omega) (by omega) e; omega
        · simp only [e1, e2, if_false] at e; exact hinj i j (by omega) (by omega) e
      obtain ⟨ih1, ih2⟩ := Sm_perm n _ hlt' hinj'
      refine ⟨fun h => ?_, fun a ha => ?_⟩
      · have h1 := ih1 h
        have h2 := Sm_upd (f := fun i => h (p i)) (g := fun i => h (if i = k then p n else p i)) (k := k) (fun i hi => by simp only [hi, if_false]) n hk
        simp only [if_true, hpk] at h2
        simp only [Sm]
        omega
      · by_cases e : a = n
        · exact ⟨k, by omega, by omega⟩
        · obtain ⟨i, hi, hp⟩ := ih2 a (by omega)
          by_cases e1 : i = k
          · simp only [e1, if_true] at hp; exact ⟨n, by omega, hp⟩
          · simp only [e1, if_false] at hp; exact ⟨i, by omega, hp⟩

/-! ### A permutation as a function -/
def pf (xs : List Int) (i : Nat) : Nat := (ix xs i).toNat
theorem Perm.pf_lt {xs : List Int} (h : Perm xs) {i : Nat} (hi : i < xs.length) : pf xs i < xs.length := by
  have := (h.2.2 i hi).1; unfold pf; omega
theorem Perm.ix_pf {xs : List Int} (h : Perm xs) {i : Nat} (hi : i < xs.length) : ix xs i = (pf xs i : Int) := by
  have := (h.2.2 i hi).1; unfold pf; omega
theorem Perm.inj {xs : List Int} (h : Perm xs) {i j : Nat} (hi : i < xs.length) (hj : j < xs.length) (e : pf xs i = pf xs j) : i = j := by
  have h1 := h.ix_pf hi
  have h2 := h.ix_pf hj
  rcases Nat.lt_trichotomy i j with h3 | h3 | h3
  · exact absurd (by rw [h1, h2, e]) ((h.2.2 j hj).2 i h3)
  · exact h3
  · exact absurd (by rw [h1, h2, e]) ((h.2.2 i hi).2 j h3)
theorem Perm.sm {xs : List Int} (h : Perm xs) (g : Nat → Nat) : Sm xs.length (fun i => g (pf xs i)) = Sm xs.length g :=
  (Sm_perm _ _ (fun i hi => h.pf_lt hi) (fun i j hi hj e => h.inj hi hj e)).1 g
theorem Perm.hit {xs : List Int} (h : Perm xs) {a : Nat} (ha : a < xs.length) : ∃ i, i < xs.length ∧ pf xs i = a :=
  (Sm_perm _ _ (fun i hi => h.pf_lt hi) (fun i j hi hj e => h.inj hi hj e)).2 a ha

theorem invTo_at {xs : List Int} (h : Perm xs) : ∀ k, k ≤ xs.length → ∀ j, j < k → ix (invTo xs k) (pf xs j) = j
  | 0, _, j, hj => by omega
  | k + 1, hk, j, hj => by
    simp only [invTo]
    show ix ((invTo xs k).set (pf xs k) (k : Int)) (pf xs j) = j
    rw [ix_set _ (by rw [invTo_len]; exact h.pf_lt (by omega))]
    by_cases e : j = k
    · subst e; rw [if_pos rfl]
    · rw [if_neg (fun e' => e (h.inj (by omega) (by omega) e')), invTo_at h k (by omega) j (by omega)]
theorem invL_len (xs : List Int) : (invL xs).length = xs.length := invTo_len xs _
theorem invL_at {xs : List Int} (h : Perm xs) {j : Nat} (hj : j < xs.length) : ix (invL xs) (pf xs j) = j := invTo_at h _ (Nat.le_refl _) j hj
theorem Perm.inv {xs : List Int} (h : Perm xs) : Perm (invL xs) := by
  refine ⟨by rw [invL_len]; exact h.1, by rw [invL_len]; exact h.2.1, ?_⟩
  rw [invL_len]
  intro a ha
  obtain ⟨i, hi, rfl⟩ := h.hit ha
  rw [invL_at h hi, invL_len]
  refine ⟨⟨by omega, by omega⟩, fun b hb e => ?_⟩
  have hbl : b < xs.length := by omega
  obtain ⟨j, hj, rfl⟩ := h.hit hbl
  rw [invL_at h hj] at e
  have : j = i := by omega
  subst this
  omega

/-! ### Inversions as a sum -/
def one (b : Bool) : Nat := if b then 1 else 0
theorem filter_sum (x : Int) : ∀ (l : List Int), (l.filter fun y => decide (x < y)).length = Sm l.length (fun i => one (decide (x < ix l i))) := by
  intro l
  have key : ∀ k, k ≤ l.length → ((l.take k).filter fun y => decide (x < y)).length = Sm k (fun i => one (decide (x < ix l i))) := by
    intro k
    induction k with
    | zero => intro _; simp [Sm]
    | succ k ih =>
      intro hk
      have hk' : k < l.length := by omega
      rw [List.take_succ_eq_append_getElem hk', List.filter_append, List.length_append, ih (by omega)]
      simp only [Sm]
      rw [ix_get _ _ hk']
      by_cases hx : x < l[k] <;> simp [one, hx, List.filter_cons]
  have := key l.length (Nat.le_refl _)
  rwa [List.take_length] at this
theorem ix_take (l : List Int) {i k : Nat} (hi : i < k) (hk : k ≤ l.length) : ix (l.take k) i = ix l i := by
  have h1 : i < (l.take k).length := by rw [List.length_take]; omega
  have h2 : i < l.length := by omega
  rw [ix_get _ _ h1, ix_get _ _ h2, List.getElem_take]
theorem invs_sum (l : List Int) : invs l = Sm l.length (fun j => Sm j (fun i => one (decide (ix l j < ix l i)))) := by
  have key : ∀ k, k ≤ l.length → invs (l.take k) = Sm k (fun j => Sm j (fun i => one (decide (ix l j < ix l i)))) := by
    intro k
    induction k with
    | zero => intro _; simp [Sm, invs]
    | succ k ih =>
      intro hk
      have hk' : k < l.length := by omega
      rw [List.take_succ_eq_append_getElem hk', invs_snoc, ih (by omega), filter_sum]
      simp only [Sm, List.length_take, Nat.min_eq_left (Nat.le_of_lt hk')]
      rw [ix_get _ _ hk']
      refine congrArg _ (Sm_congr fun i hi => ?_)
      rw [ix_take l hi (by omega)]
  have := key l.length (Nat.le_refl _)
  rwa [List.take_length] at this
theorem Sm_below {f : Nat → Nat} {j : Nat} : ∀ {n : Nat}, j ≤ n → Sm j f = Sm n (fun i => if i < j then f i else 0)
  | 0, h => by obtain rfl : j = 0 := by omega
               rfl
  | n + 1, h => by
    simp only [Sm]
    by_cases e : j = n + 1
    · subst e
      rw [if_pos (by omega)]
      simp only [Sm]
      rw [Sm_congr (fun i hi => by rw [if_pos (by omega)] : ∀ i, i < n → (if i < n + 1 then f i else 0) = f i)]
    · rw [Sm_below (n := n) (by omega), if_neg (by omega)]; rfl
theorem invs_square (l : List Int) : invs l = Sm l.length (fun j => Sm l.length (fun i => one (decide (i < j) && decide (ix l j < ix l i)))) := by
  rw [invs_sum]
  refine Sm_congr fun j hj => ?_
  rw [Sm_below (Nat.le_of_lt hj)]
  refine Sm_congr fun i _ => ?_
  by_cases h : i < j <;> simp [one, h]
theorem invs_inv {xs : List Int} (h : Perm xs) : invs (invL xs) = invs xs := by
  rw [invs_square, invs_square, invL_len]
  rw [← h.sm (fun j => Sm xs.length (fun i => one (decide (i < j) && decide (ix (invL xs) j < ix (invL xs) i))))]
  have e1 : ∀ j, j < xs.length → Sm xs.length (fun i => one (decide (i < pf xs j) && decide (ix (invL xs) (pf xs j) < ix (invL xs) i))) =
      Sm xs.length (fun i => one (decide (pf xs i < pf xs j) && decide (j < i))) := by
    intro j hj
    rw [← h.sm (fun i => one (decide (i < pf xs j) && decide (ix (invL xs) (pf xs j) < ix (invL xs) i)))]
    refine Sm_congr fun i hi => ?_
    rw [invL_at h hj, invL_at h hi]
    congr 2
    exact decide_eq_decide.2 (by omega)
  rw [Sm_congr e1, Sm_swap (fun j i => one (decide (pf xs i < pf xs j) && decide (j < i)))]
  refine Sm_congr fun i hi => Sm_congr fun j hj => ?_
  rw [h.ix_pf hi, h.ix_pf hj, Bool.and_comm]
  congr 2
  exact decide_eq_decide.2 (by omega)
theorem compL_len (xs ys : List Int) : (compL xs ys).length = ys.length := compTo_len xs ys _
theorem compTo_at (xs ys : List Int) : ∀ k j, j < k → ix (compTo xs ys k) j = ix xs (ix ys j).toNat
  | 0, j, hj => by omega
  | k + 1, j, hj => by
    simp only [compTo]
    rw [ix_app, compTo_len]
    by_cases e : j = k
    · rw [if_pos e, e]
    · rw [if_neg e, compTo_at xs ys k j (by omega)]
theorem comp_inv {xs : List Int} (h : Perm xs) {i : Nat} (hi : i < xs.length) : ix (compL (invL xs) xs) i = i := by
  unfold compL
  rw [compTo_at _ _ _ _ hi]
  exact invL_at h hi
end Go.Proofs.Ytccbinnlnkpplaa
