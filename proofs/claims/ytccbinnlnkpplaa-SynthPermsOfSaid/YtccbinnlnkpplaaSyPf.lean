/- The permutation that crossings make, both ways: exchanged places, and where each light goes. -/
import Derived.Test.YtccbinnlnkpplaaSy14
import Derived.Test.YtccbinnlnkpplaaSyPm
namespace Go.Proofs.Ytccbinnlnkpplaa
set_option linter.all false
open Go.RowKit

/-- 0, 1, .. as far as it is laid. -/
def idTo (m : Nat) : Nat → List Int
  | 0 => List.replicate m 0
  | k + 1 => (idTo m k).set k k
theorem idTo_len (m : Nat) : ∀ k, (idTo m k).length = m
  | 0 => by simp [idTo]
  | k + 1 => by simp [idTo, idTo_len m k]
theorem idTo_at (m : Nat) : ∀ k, k ≤ m → ∀ j, j < k → ix (idTo m k) j = j
  | 0, _, j, hj => by omega
  | k + 1, hk, j, hj => by
    simp only [idTo]
    rw [ix_set _ (by rw [idTo_len]; omega)]
    by_cases e : j = k
    · rw [if_pos e, e]
    · rw [if_neg e, idTo_at m k (by omega) j (by omega)]
/-- Whose light is on which guide behind k items. -/
def atTo (m : Nat) (xs : List It) : Nat → List Int
  | 0 => idTo m m
  | k + 1 => swapAt (atTo m xs k) ((it xs k).at_ - 1).toNat
theorem atTo_len (m : Nat) (xs : List It) : ∀ k, (atTo m xs k).length = m
  | 0 => idTo_len m m
  | k + 1 => by rw [atTo, swapAt_len, atTo_len m xs k]
theorem swapAt_ix {l : List Int} {k : Nat} (h : k + 1 < l.length) (j : Nat) : ix (swapAt l k) j = if j = k then ix l (k + 1) else if j = k + 1 then ix l k else ix l j := by
  rw [← swapAt_set l k h, ix_set _ (by simp; omega)]
  by_cases e1 : j = k + 1
  · rw [if_pos e1, if_neg (by omega), if_pos e1]
  · rw [if_neg e1, ix_set _ (by omega), if_neg e1]
theorem swapAt_Perm {l : List Int} {k : Nat} (h : k + 1 < l.length) (hp : Perm l) : Perm (swapAt l k) := by
  obtain ⟨h1, h2, h3⟩ := hp
  refine ⟨by rw [swapAt_len]; exact h1, by rw [swapAt_len]; exact h2, ?_⟩
  have hne : ∀ i j, i < l.length → j < l.length → i ≠ j → ix l i ≠ ix l j := fun i j hi hj hij => by
    rcases Nat.lt_or_gt_of_ne hij with h | h
    · exact (h3 j hj).2 i h
    · exact fun e => (h3 i hi).2 j h e.symm
  have hr : ∀ i, i < l.length → 0 ≤ ix l i ∧ ix l i < l.length := fun i hi => (h3 i hi).1
  rw [swapAt_len]
  intro i hi
  rw [swapAt_len, swapAt_ix h]
  constructor
  · split
    · exact hr _ h
    · split
      · exact hr _ (by omega)
      · exact hr _ hi
  · intro j hj
    rw [swapAt_ix h]
    split <;> split <;> (try split) <;> (try split) <;> first | omega | exact hne _ _ (by omega) (by omega) (by omega)
theorem swapAt_two {l : List Int} {k : Nat} (h : k + 1 < l.length) : swapAt (swapAt l k) k = l := by
  apply ext_ix (by rw [swapAt_len, swapAt_len])
  intro j hj
  rw [swapAt_ix (by rw [swapAt_len]; exact h), swapAt_ix h (k + 1), swapAt_ix h k, swapAt_ix h j]
  by_cases e1 : j = k
  · subst e1; simp
  · by_cases e2 : j = k + 1
    · subst e2; simp
    · simp [e1, e2]
theorem invs_swap2 {l : List Int} {k : Nat} (h : k + 1 < l.length) (hp : Perm l) : invs (swapAt l k) = invs l + 1 ∨ invs (swapAt l k) + 1 = invs l := by
  have hne : ix l k ≠ ix l (k + 1) := (hp.2.2 (k + 1) h).2 k (by omega)
  rcases Int.lt_or_gt_of_ne hne with h1 | h1
  · left
    have := invs_swap (swapAt l k) k (by rw [swapAt_len]; exact h) (by rw [swapAt_ix h, swapAt_ix h, if_neg (by omega), if_pos rfl, if_pos rfl]; exact h1)
    rw [swapAt_two h] at this
    omega
  · right
    exact invs_swap l k h h1

/-- An item that crosses, right on m guides. -/
def Crs (m : Nat) (i : It) : Prop := 1 ≤ i.at_ ∧ i.at_ + 1 ≤ m
theorem crs_of {m : Nat} {i : It} (h : fitB m i = true) (hk : i.kind = 3) : Crs m i := by
  have h' := of_decide_eq_true h
  have hw : wd i = 2 ∨ wd i = 0 := by unfold wd; rw [if_neg (by omega), if_pos (by omega)]; split <;> simp
  unfold Crs
  omega
theorem id_perm {m : Nat} (h1 : 1 ≤ m) (h2 : m ≤ 64) : Perm (idTo m m) := by
  refine ⟨by rw [idTo_len]; exact h1, by rw [idTo_len]; exact h2, ?_⟩
  rw [idTo_len]
  intro i hi
  rw [idTo_at m m (Nat.le_refl _) i hi, idTo_len]
  refine ⟨⟨by omega, by omega⟩, fun j hj => ?_⟩
  rw [idTo_at m m (Nat.le_refl _) j (by omega)]
  omega
theorem id_invs (m : Nat) : invs (idTo m m) = 0 := by
  refine up_invs _ fun j hj => ?_
  rw [idTo_len] at hj
  rw [idTo_at m m (Nat.le_refl _) j (by omega), idTo_at m m (Nat.le_refl _) (j + 1) (by omega)]
  omega
theorem atTo_perm {m : Nat} (h1 : 1 ≤ m) (h2 : m ≤ 64) {xs : List It} : ∀ k, (∀ j, j < k → Crs m (it xs j)) → Perm (atTo m xs k)
  | 0, _ => id_perm h1 h2
  | k + 1, h => by
    have hc := h k (by omega)
    unfold Crs at hc
    exact swapAt_Perm (by rw [atTo_len]; omega) (atTo_perm h1 h2 k fun j hj => h j (by omega))
theorem atTo_invs {m : Nat} (h1 : 1 ≤ m) (h2 : m ≤ 64) {xs : List It} : ∀ k, (∀ j, j < k → Crs m (it xs j)) → invs (atTo m xs k) ≤ k ∧ (k - invs (atTo m xs k)) % 2 = 0
  | 0, _ => by rw [atTo, id_invs]; omega
  | k + 1, h => by
    have hc := h k (by omega)
    unfold Crs at hc
    obtain ⟨i1, i2⟩ := atTo_invs h1 h2 k fun j hj => h j (by omega)
    have := invs_swap2 (l := atTo m xs k) (k := ((it xs k).at_ - 1).toNat) (by rw [atTo_len]; omega) (atTo_perm h1 h2 k fun j hj => h j (by omega))
    rw [atTo]
    omega

/-- Where the light of guide g is behind k items. -/
def pos (xs : List It) (g : Int) : Nat → Int
  | 0 => g
  | k + 1 => if pos xs g k = (it xs k).at_ then (it xs k).at_ + 1 else if pos xs g k = (it xs k).at_ + 1 then (it xs k).at_ else pos xs g k
def outTo (xs : List It) : Nat → List Int
  | 0 => []
  | k + 1 => outTo xs k ++ [pos xs (k + 1) xs.length - 1]
theorem outTo_len (xs : List It) : ∀ k, (outTo xs k).length = k
  | 0 => rfl
  | k + 1 => by simp [outTo, outTo_len xs k]
theorem outTo_at (xs : List It) : ∀ k j, j < k → ix (outTo xs k) j = pos xs (j + 1) xs.length - 1
  | 0, j, hj => by omega
  | k + 1, j, hj => by
    simp only [outTo]
    rw [ix_app, outTo_len]
    by_cases e : j = k
    · rw [if_pos e, e]
    · rw [if_neg e, outTo_at xs k j (by omega)]
theorem pos_range {m : Nat} {xs : List It} {g : Int} (hg : 1 ≤ g ∧ g ≤ m) : ∀ k, (∀ j, j < k → Crs m (it xs j)) → 1 ≤ pos xs g k ∧ pos xs g k ≤ m
  | 0, _ => hg
  | k + 1, h => by
    have hc := h k (by omega)
    unfold Crs at hc
    have := pos_range hg k fun j hj => h j (by omega)
    simp only [pos]
    split
    · omega
    · split <;> omega
theorem pos_at {m : Nat} {xs : List It} {g : Int} (hg : 1 ≤ g ∧ g ≤ m) : ∀ k, (∀ j, j < k → Crs m (it xs j)) → ix (atTo m xs k) (pos xs g k - 1).toNat = g - 1
  | 0, _ => by
    simp only [atTo, pos]
    rw [idTo_at m m (Nat.le_refl _) _ (by omega)]
    omega
  | k + 1, h => by
    have hc := h k (by omega)
    unfold Crs at hc
    have hr := pos_range (m := m) (xs := xs) hg k fun j hj => h j (by omega)
    have ih := pos_at (m := m) (xs := xs) hg k fun j hj => h j (by omega)
    have hq : pos xs g (k + 1) = if pos xs g k = (it xs k).at_ then (it xs k).at_ + 1 else if pos xs g k = (it xs k).at_ + 1 then (it xs k).at_ else pos xs g k := rfl
    rw [atTo, swapAt_ix (by rw [atTo_len]; omega)]
    by_cases e1 : pos xs g k = (it xs k).at_
    · rw [if_pos e1] at hq
      rw [if_neg (by omega), if_pos (by omega), ← ih, e1]
    · rw [if_neg e1] at hq
      by_cases e2 : pos xs g k = (it xs k).at_ + 1
      · rw [if_pos e2] at hq
        rw [if_pos (by omega), ← ih, e2]
        congr 1; omega
      · rw [if_neg e2] at hq
        rw [if_neg (by omega), if_neg (by omega), hq, ih]
theorem out_inv {m : Nat} (h1 : 1 ≤ m) (h2 : m ≤ 64) {xs : List It} (h : ∀ j, j < xs.length → Crs m (it xs j)) : outTo xs m = invL (atTo m xs xs.length) := by
  have hp := atTo_perm h1 h2 xs.length h
  apply ext_ix (by rw [outTo_len, invL_len, atTo_len])
  intro j hj
  rw [outTo_len] at hj
  rw [outTo_at _ _ _ hj]
  have hr := pos_range (m := m) (xs := xs) (g := (j : Int) + 1) ⟨by omega, by omega⟩ xs.length h
  have hat := pos_at (m := m) (xs := xs) (g := (j : Int) + 1) ⟨by omega, by omega⟩ xs.length h
  have hpf : pf (atTo m xs xs.length) (pos xs (j + 1) xs.length - 1).toNat = j := by unfold pf; omega
  have := invL_at hp (j := (pos xs (j + 1) xs.length - 1).toNat) (by rw [atTo_len]; omega)
  rw [hpf] at this
  omega
end Go.Proofs.Ytccbinnlnkpplaa
