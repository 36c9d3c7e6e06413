/- The cycles of a permutation: where each light comes round, in both orders of counting. -/
import Derived.Test.YtccbinnlnkpplaaSyPm
namespace Go.Proofs.Ytccbinnlnkpplaa
set_option linter.all false
open Go.RowKit

def itr (xs : List Int) (k : Nat) : Nat → Nat
  | 0 => k
  | t + 1 => pf xs (itr xs k t)
theorem itr_lt {xs : List Int} (hp : Perm xs) {k : Nat} (hk : k < xs.length) : ∀ t, itr xs k t < xs.length
  | 0 => hk
  | t + 1 => hp.pf_lt (itr_lt hp hk t)
theorem itr_add (xs : List Int) (k a : Nat) : ∀ b, itr xs k (a + b) = itr xs (itr xs k a) b
  | 0 => rfl
  | b + 1 => by show pf xs (itr xs k (a + b)) = pf xs (itr xs (itr xs k a) b); rw [itr_add xs k a b]
theorem itr_cancel {xs : List Int} (hp : Perm xs) {k j : Nat} (hk : k < xs.length) (hj : j < xs.length) : ∀ t, itr xs k t = itr xs j t → k = j
  | 0, e => e
  | t + 1, e => itr_cancel hp hk hj t (hp.inj (itr_lt hp hk t) (itr_lt hp hj t) e)
theorem pigeon {n : Nat} {f : Nat → Nat} (h : ∀ i, i ≤ n → f i < n) : ∃ i j, i < j ∧ j ≤ n ∧ f i = f j := by
  refine Classical.byContradiction fun hno => ?_
  have hinj : ∀ i j, i < n + 1 → j < n + 1 → f i = f j → i = j := fun i j hi hj e => by
    rcases Nat.lt_trichotomy i j with h1 | h1 | h1
    · exact absurd ⟨i, j, h1, by omega, e⟩ hno
    · exact h1
    · exact absurd ⟨j, i, h1, by omega, e.symm⟩ hno
  obtain ⟨i, hi, e⟩ := (Sm_perm (n + 1) f (fun i hi => by have := h i (by omega); omega) hinj).2 n (by omega)
  have := h i (by omega)
  omega
theorem exists_least {P : Nat → Prop} : ∀ n, P n → ∃ m, m ≤ n ∧ P m ∧ ∀ j, j < m → ¬ P j := by
  intro n
  induction n using Nat.strongRecOn with
  | _ n ih =>
    intro h
    by_cases hh : ∃ j, j < n ∧ P j
    · obtain ⟨j, hj, hP⟩ := hh
      obtain ⟨m, h1, h2⟩ := ih j hj hP
      exact ⟨m, by omega, h2⟩
    · exact ⟨n, Nat.le_refl _, h, fun j hj hP => hh ⟨j, hj, hP⟩⟩
def IsCyc (xs : List Int) (k n : Nat) : Prop := 1 ≤ n ∧ itr xs k n = k ∧ ∀ t, 1 ≤ t → t < n → itr xs k t ≠ k
theorem IsCyc.unique {xs : List Int} {k n m : Nat} (h1 : IsCyc xs k n) (h2 : IsCyc xs k m) : n = m := by
  rcases Nat.lt_trichotomy n m with h | h | h
  · exact absurd h1.2.1 (h2.2.2 n h1.1 h)
  · exact h
  · exact absurd h2.2.1 (h1.2.2 m h2.1 h)
theorem has_cyc {xs : List Int} (hp : Perm xs) {k : Nat} (hk : k < xs.length) : ∃ n, n ≤ xs.length ∧ IsCyc xs k n := by
  obtain ⟨i, j, hij, hj, e⟩ := pigeon (n := xs.length) (f := itr xs k) fun i _ => itr_lt hp hk i
  have e2 : itr xs k (j - i) = k := by
    have : itr xs k ((j - i) + i) = itr xs (itr xs k (j - i)) i := itr_add xs k _ _
    rw [show j - i + i = j by omega, ← e] at this
    exact (itr_cancel hp hk (itr_lt hp hk _) i this).symm
  obtain ⟨m, h1, ⟨h2, h3⟩, h4⟩ := exists_least (P := fun t => 1 ≤ t ∧ itr xs k t = k) (j - i) ⟨by omega, e2⟩
  exact ⟨m, by omega, h2, h3, fun t ht hlt e => h4 t hlt ⟨ht, e⟩⟩
open Classical in
noncomputable def cyc (xs : List Int) (k : Nat) : Nat := if h : ∃ n, IsCyc xs k n then Classical.choose h else 0
theorem cyc_spec {xs : List Int} (hp : Perm xs) {k : Nat} (hk : k < xs.length) : IsCyc xs k (cyc xs k) := by
  obtain ⟨n, _, h⟩ := has_cyc hp hk
  unfold cyc
  rw [dif_pos ⟨n, h⟩]
  exact Classical.choose_spec (p := fun n => IsCyc xs k n) ⟨n, h⟩
theorem cyc_le {xs : List Int} (hp : Perm xs) {k : Nat} (hk : k < xs.length) : cyc xs k ≤ xs.length := by
  obtain ⟨n, hn, h⟩ := has_cyc hp hk
  rw [(cyc_spec hp hk).unique h]; exact hn
theorem itr_mul {xs : List Int} {k c : Nat} (h : itr xs k c = k) : ∀ q, itr xs k (c * q) = k
  | 0 => rfl
  | q + 1 => by rw [Nat.mul_succ, itr_add, itr_mul h q, h]
theorem itr_mod {xs : List Int} (hp : Perm xs) {k : Nat} (hk : k < xs.length) (t : Nat) : itr xs k t = itr xs k (t % cyc xs k) := by
  have h := (cyc_spec hp hk).2.1
  conv => lhs; rw [← Nat.div_add_mod t (cyc xs k)]
  rw [itr_add, itr_mul h]
theorem itr_back {xs : List Int} (hp : Perm xs) {k : Nat} (hk : k < xs.length) (t : Nat) : ∃ s, itr xs (itr xs k t) s = k := by
  have h := cyc_spec hp hk
  refine ⟨cyc xs k * (t + 1) - t, ?_⟩
  rw [← itr_add, show t + (cyc xs k * (t + 1) - t) = cyc xs k * (t + 1) by (have : 1 * (t + 1) ≤ cyc xs k * (t + 1) := Nat.mul_le_mul_right _ h.1; omega)]
  exact itr_mul h.2.1 _
def Least (xs : List Int) (k : Nat) : Prop := ∀ t, k ≤ itr xs k t
open Classical in
/-- How many steps the light of k takes that no earlier light took. -/
noncomputable def bnd (xs : List Int) (k : Nat) : Nat := if Least xs k then cyc xs k else 0
theorem least_iff {xs : List Int} (hp : Perm xs) {k : Nat} (hk : k < xs.length) : Least xs k ↔ ∀ t, 1 ≤ t → t < cyc xs k → k < itr xs k t := by
  have hc := cyc_spec hp hk
  constructor
  · intro h t h1 h2
    have := h t
    have := hc.2.2 t h1 h2
    omega
  · intro h t
    rw [itr_mod hp hk t]
    rcases Nat.eq_zero_or_pos (t % cyc xs k) with h0 | h0
    · rw [h0]; exact Nat.le_refl _
    · exact Nat.le_of_lt (h _ h0 (Nat.mod_lt _ hc.1))
/-- Seen: by an earlier light, or by this one in its first n steps. -/
def Sn (xs : List Int) (k n j : Nat) : Prop := (∃ i, i < k ∧ ∃ t, itr xs i t = j) ∨ ∃ i, i < n ∧ itr xs k i = j
theorem Sn.step {xs : List Int} {k n j : Nat} : Sn xs k (n + 1) j ↔ j = itr xs k n ∨ Sn xs k n j := by
  constructor
  · rintro (h | ⟨i, hi, e⟩)
    · exact .inr (.inl h)
    · by_cases e2 : i = n
      · subst e2; exact .inl e.symm
      · exact .inr (.inr ⟨i, by omega, e⟩)
  · rintro (h | h | ⟨i, hi, e⟩)
    · exact .inr ⟨n, by omega, h.symm⟩
    · exact .inl h
    · exact .inr ⟨i, by omega, e⟩
theorem early_iff {xs : List Int} (hp : Perm xs) {k : Nat} (hk : k < xs.length) : (∃ i, i < k ∧ ∃ t, itr xs i t = k) ↔ ¬ Least xs k := by
  constructor
  · rintro ⟨i, hi, t, e⟩ hl
    obtain ⟨s, hs⟩ := itr_back hp (k := i) (by omega) t
    rw [e] at hs
    have := hl s
    omega
  · intro hl
    refine Classical.byContradiction fun hno => hl fun t => ?_
    refine Nat.le_of_not_lt fun hlt => hno ⟨itr xs k t, hlt, itr_back hp hk t⟩
/-- The light stops where it has taken all its steps. -/
theorem Sn.stop {xs : List Int} (hp : Perm xs) {k n : Nat} (hk : k < xs.length) (hn : n ≤ bnd xs k) : Sn xs k n (itr xs k n) ↔ n = bnd xs k := by
  by_cases hl : Least xs k
  · have hb : bnd xs k = cyc xs k := by unfold bnd; rw [if_pos hl]
    have hc := cyc_spec hp hk
    rw [hb] at hn ⊢
    constructor
    · intro h
      refine Classical.byContradiction fun hne => ?_
      rcases h with ⟨i, hi, t, e⟩ | ⟨i, hi, e⟩
      · obtain ⟨s, hs⟩ := itr_back hp hk n
        refine (early_iff hp hk).1 ⟨i, hi, t + s, ?_⟩ hl
        rw [itr_add, e, hs]
      · have h1 : itr xs k ((n - i) + i) = itr xs (itr xs k (n - i)) i := itr_add xs k _ _
        rw [show n - i + i = n by omega, ← e] at h1
        have h2 := itr_cancel hp hk (itr_lt hp hk _) i h1
        exact hc.2.2 (n - i) (by omega) (by omega) h2.symm
    · intro h
      subst h
      exact .inr ⟨0, hc.1, hc.2.1.symm⟩
  · have hb : bnd xs k = 0 := by unfold bnd; rw [if_neg hl]
    rw [hb] at hn ⊢
    obtain rfl : n = 0 := by omega
    exact ⟨fun _ => rfl, fun _ => .inl ((early_iff hp hk).2 hl)⟩
theorem Sn.next {xs : List Int} (hp : Perm xs) {k : Nat} (hk : k < xs.length) (j : Nat) : Sn xs (k + 1) 0 j ↔ Sn xs k (bnd xs k) j := by
  constructor
  · rintro (⟨i, hi, t, e⟩ | ⟨i, hi, _⟩)
    · by_cases e2 : i = k
      · subst e2
        by_cases hl : Least xs i
        · refine .inr ⟨t % cyc xs i, ?_, by rw [← itr_mod hp hk]; exact e⟩
          unfold bnd; rw [if_pos hl]; exact Nat.mod_lt _ (cyc_spec hp hk).1
        · obtain ⟨i', hi', t', e'⟩ := (early_iff hp hk).2 hl
          exact .inl ⟨i', hi', t' + t, by rw [itr_add, e', e]⟩
      · exact .inl ⟨i, by omega, t, e⟩
    · omega
  · rintro (⟨i, hi, t, e⟩ | ⟨i, _, e⟩)
    · exact .inl ⟨i, by omega, t, e⟩
    · exact .inl ⟨k, by omega, i, e⟩

/-! ### The two lists -/
noncomputable def outC (xs : List Int) : Nat → List Int
  | 0 => []
  | k + 1 => outC xs k ++ (if 0 < bnd xs k then [(bnd xs k : Int)] else [])
noncomputable def rIn (xs : List Int) (l : Nat) : Nat → List Int
  | 0 => []
  | k + 1 => rIn xs l k ++ (if bnd xs k = l then [(l : Int)] else [])
noncomputable def rL (xs : List Int) : Nat → List Int
  | 0 => []
  | m + 1 => rL xs m ++ rIn xs (m + 1) xs.length
theorem outC_len (xs : List Int) : ∀ k, (outC xs k).length ≤ k
  | 0 => Nat.le_refl _
  | k + 1 => by
    have := outC_len xs k
    simp only [outC, List.length_append]
    split <;> simp <;> omega
theorem rIn_len (xs : List Int) (l : Nat) : ∀ k, (rIn xs l k).length ≤ k
  | 0 => Nat.le_refl _
  | k + 1 => by
    have := rIn_len xs l k
    simp only [rIn, List.length_append]
    split <;> simp <;> omega
theorem rIn_mem (xs : List Int) (l : Nat) : ∀ k, ∀ x ∈ rIn xs l k, x = (l : Int)
  | 0, x, hx => by simp [rIn] at hx
  | k + 1, x, hx => by
    simp only [rIn, List.mem_append] at hx
    rcases hx with hx | hx
    · exact rIn_mem xs l k x hx
    · split at hx
      · simpa using hx
      · simp at hx
theorem rL_mem (xs : List Int) : ∀ m, ∀ x ∈ rL xs m, x ≤ (m : Int)
  | 0, x, hx => by simp [rL] at hx
  | m + 1, x, hx => by
    simp only [rL, List.mem_append] at hx
    rcases hx with hx | hx
    · have := rL_mem xs m x hx; omega
    · have := rIn_mem xs (m + 1) _ x hx; omega
theorem rL_sorted (xs : List Int) : ∀ m, (rL xs m).Pairwise (fun a b => a ≤ b)
  | 0 => List.Pairwise.nil
  | m + 1 => by
    simp only [rL]
    refine List.pairwise_append.2 ⟨rL_sorted xs m, ?_, fun a ha b hb => ?_⟩
    · have h := rIn_mem xs (m + 1) xs.length
      generalize rIn xs (m + 1) xs.length = l at h
      induction l with
      | nil => exact List.Pairwise.nil
      | cons x l ih =>
        refine List.Pairwise.cons (fun y hy => ?_) (ih fun z hz => h z (by simp [hz]))
        rw [h x (by simp), h y (by simp [hy])]; exact Int.le_refl _
    · have h1 := rL_mem xs m a ha
      have h2 := rIn_mem xs (m + 1) _ b hb
      omega
theorem rIn_count (xs : List Int) {l : Nat} (hl : 1 ≤ l) (c : Int) : ∀ k, List.count c (rIn xs l k) = if c = (l : Int) then List.count c (outC xs k) else 0
  | 0 => by simp [rIn, outC]
  | k + 1 => by
    simp only [rIn, outC, List.count_append, rIn_count xs hl c k]
    by_cases h1 : bnd xs k = l
    · rw [if_pos h1, if_pos (by omega : 0 < bnd xs k), h1]
      by_cases hc : c = (l : Int)
      · rw [if_pos hc, if_pos hc]
      · rw [if_neg hc, if_neg hc, List.count_eq_zero.2 (by simpa using hc)]
    · rw [if_neg h1]
      by_cases hc : c = (l : Int)
      · rw [if_pos hc, if_pos hc]
        split
        · have h2 : List.count c [(bnd xs k : Int)] = 0 := List.count_eq_zero.2 (by simp only [List.mem_singleton]; omega)
          rw [h2]; simp
        · rfl
      · rw [if_neg hc, if_neg hc]; simp
theorem rL_count (xs : List Int) (c : Int) : ∀ m, List.count c (rL xs m) = if 1 ≤ c ∧ c ≤ (m : Int) then List.count c (outC xs xs.length) else 0
  | 0 => by rw [if_neg (by omega)]; simp [rL]
  | m + 1 => by
    simp only [rL, List.count_append, rL_count xs c m, rIn_count xs (by omega : 1 ≤ m + 1) c]
    by_cases h1 : c = ((m + 1 : Nat) : Int)
    · rw [if_neg (by omega), if_pos h1, if_pos (by omega)]; omega
    · rw [if_neg h1]
      by_cases h2 : 1 ≤ c ∧ c ≤ (m : Int)
      · rw [if_pos h2, if_pos (by omega)]; rfl
      · rw [if_neg h2, if_neg (by omega)]
theorem outC_mem {xs : List Int} (hp : Perm xs) : ∀ k, k ≤ xs.length → ∀ x ∈ outC xs k, 1 ≤ x ∧ x ≤ xs.length
  | 0, _, x, hx => by simp [outC] at hx
  | k + 1, hk, x, hx => by
    simp only [outC, List.mem_append] at hx
    rcases hx with hx | hx
    · exact outC_mem hp k (by omega) x hx
    · split at hx
      · rename_i h0
        simp only [List.mem_singleton] at hx
        have : bnd xs k ≤ xs.length := by
          unfold bnd; split
          · exact cyc_le hp (by omega)
          · omega
        omega
      · simp at hx
theorem rL_eq {xs : List Int} (hp : Perm xs) : (outC xs xs.length).mergeSort (fun x y => decide (x ≤ y)) = rL xs xs.length := by
  have h1 : (rL xs xs.length).Perm (outC xs xs.length) := by
    rw [List.perm_iff_count]
    intro c
    rw [rL_count]
    split
    · rfl
    · rename_i h
      exact (List.count_eq_zero.2 fun hc => h (outC_mem hp _ (Nat.le_refl _) c hc)).symm
  refine List.Perm.eq_of_pairwise (le := fun a b => a ≤ b) (fun a b _ _ => Int.le_antisymm) ?_ (rL_sorted xs _) ((List.mergeSort_perm _ _).trans h1.symm)
  have := List.pairwise_mergeSort (le := fun x y : Int => decide (x ≤ y)) (fun a b c h1 h2 => by simp at *; omega) (fun a b => by simp; omega) (outC xs xs.length)
  exact this.imp fun h => of_decide_eq_true h
end Go.Proofs.Ytccbinnlnkpplaa
