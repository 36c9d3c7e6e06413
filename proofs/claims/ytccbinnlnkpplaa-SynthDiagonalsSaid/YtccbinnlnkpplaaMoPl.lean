/- Plain: matrices that only exchange and turn: what a column says, and all columns one after the other. -/
import Derived.Test.YtccbinnlnkpplaaTuPl
import Derived.Test.YtccbinnlnkpplaaMx1
namespace Go.Proofs.Ytccbinnlnkpplaa
set_option linter.all false

def bx (l : List Bool) (j : Nat) : Bool := l.getD j false
def tI (z : Nm) : Int := match turnIx z with
  | some t => t
  | none => -1
def tK (z : Nm) (n : Nat) : Int := match turnIx z with
  | some t => if t < n then t else -1
  | none => -1
theorem turnIx_lt {z : Nm} {t : Nat} (h : turnIx z = some t) : t < 8 := by
  unfold turnIx at h
  split at h
  · repeat' split at h
    all_goals first | (cases h; decide) | (cases h)
  · cases h
theorem tK_zero (z : Nm) : tK z 0 = -1 := by
  unfold tK; split
  · rw [if_neg (by omega)]
  · rfl
theorem tK_8 (z : Nm) : tK z 8 = tI z := by
  unfold tK tI; split
  · next h => rw [if_pos (turnIx_lt h)]
  · rfl
theorem tK_yes {z : Nm} {n : Nat} (hn : n < 8) (h : z = Nm.turn n Nm.one) : tK z (n + 1) = n := by
  unfold tK
  rw [(turnIx_iff z n hn).2 h]
  exact if_pos (by omega)
theorem tK_no {z : Nm} {n : Nat} (hn : n < 8) (h : z ≠ Nm.turn n Nm.one) : tK z (n + 1) = tK z n := by
  unfold tK; split
  · next t ht =>
    have : t ≠ n := fun e => h ((turnIx_iff z n hn).1 (e ▸ ht))
    by_cases h1 : t < n
    · rw [if_pos h1, if_pos (by omega)]
    · rw [if_neg h1, if_neg (by omega)]
  · rfl
/-- What was seen of a column: the last row that is not 0, its turn, how many. -/
def colT (xs : List Nm) (N k : Nat) : Nat → Nat × Int × Nat
  | 0 => (0, 0, 0)
  | i + 1 => if nm xs (i * N + k) = Nm.zero then colT xs N k i else (i, tI (nm xs (i * N + k)), (colT xs N k i).2.2 + 1)
theorem colT_z {xs : List Nm} {N k i r c : Nat} {t : Int} (h : colT xs N k i = (r, t, c)) (hz : nm xs (i * N + k) = Nm.zero) : colT xs N k (i + 1) = (r, t, c) := by
  rw [colT, if_pos hz, h]
theorem colT_s {xs : List Nm} {N k i r c : Nat} {t : Int} (h : colT xs N k i = (r, t, c)) (hz : nm xs (i * N + k) ≠ Nm.zero) : colT xs N k (i + 1) = (i, tI (nm xs (i * N + k)), c + 1) := by
  rw [colT, if_neg hz, h]
theorem colT_at {xs : List Nm} {N k : Nat} : ∀ {i r c : Nat} {t : Int}, colT xs N k i = (r, t, c) → 1 ≤ c → r < i ∧ nm xs (r * N + k) ≠ Nm.zero ∧ t = tI (nm xs (r * N + k))
  | 0, r, c, t, h, hc => by cases h; omega
  | i + 1, r, c, t, h, hc => by
    by_cases hz : nm xs (i * N + k) = Nm.zero
    · rw [colT, if_pos hz] at h
      obtain ⟨h1, h2⟩ := colT_at h hc
      exact ⟨by omega, h2⟩
    · rw [colT, if_neg hz] at h
      cases h
      exact ⟨by omega, hz, rfl⟩
theorem colT_r {xs : List Nm} {N k : Nat} : ∀ {i r c : Nat} {t : Int}, colT xs N k i = (r, t, c) → r ≤ i ∧ c ≤ i ∧ -1 ≤ t ∧ t ≤ 7
  | 0, r, c, t, h => by cases h; exact ⟨Nat.le_refl _, Nat.le_refl _, by decide, by decide⟩
  | i + 1, r, c, t, h => by
    obtain ⟨⟨r', t', c'⟩, h'⟩ : ∃ x, colT xs N k i = x := ⟨_, rfl⟩
    have ih := colT_r h'
    by_cases hz : nm xs (i * N + k) = Nm.zero
    · rw [colT_z h' hz] at h; cases h; omega
    · rw [colT_s h' hz] at h; cases h
      refine ⟨by omega, by omega, ?_⟩
      unfold tI; split
      · next ht => have := turnIx_lt ht; omega
      · omega
theorem colT_pos {xs : List Nm} {N k j : Nat} (hj : nm xs (j * N + k) ≠ Nm.zero) : ∀ {i r c : Nat} {t : Int}, colT xs N k i = (r, t, c) → j < i → 1 ≤ c ∧ (r ≠ j → 2 ≤ c)
  | 0, r, c, t, h, hi => by omega
  | i + 1, r, c, t, h, hi => by
    obtain ⟨⟨r', t', c'⟩, h'⟩ : ∃ x, colT xs N k i = x := ⟨_, rfl⟩
    by_cases hz : nm xs (i * N + k) = Nm.zero
    · rw [colT_z h' hz] at h; cases h
      refine colT_pos hj h' ?_
      rcases (by omega : j = i ∨ j < i) with rfl | h1
      · exact absurd hz hj
      · exact h1
    · rw [colT_s h' hz] at h; cases h
      rcases (by omega : j = i ∨ j < i) with rfl | h1
      · exact ⟨by omega, fun h => absurd rfl h⟩
      · have := colT_pos hj h' h1
        exact ⟨by omega, fun _ => by omega⟩
/-- A column that has one element alone, a turn, in a row that is not used. -/
def colG (xs : List Nm) (N k : Nat) (ub : List Bool) : Option (Nat × Int) := if (colT xs N k N).2.2 = 1 ∧ 0 ≤ (colT xs N k N).2.1 ∧ bx ub (colT xs N k N).1 = false then some ((colT xs N k N).1, (colT xs N k N).2.1) else none
theorem colG_yes {xs : List Nm} {N k r c : Nat} {t : Int} {ub : List Bool} (h : colT xs N k N = (r, t, c)) (h1 : c = 1) (h2 : 0 ≤ t) (h3 : bx ub r = false) : colG xs N k ub = some (r, t) := by
  unfold colG; rw [h]; exact if_pos ⟨h1, h2, h3⟩
theorem colG_no {xs : List Nm} {N k r c : Nat} {t : Int} {ub : List Bool} (h : colT xs N k N = (r, t, c)) (h1 : c ≠ 1 ∨ t < 0 ∨ bx ub r = true) : colG xs N k ub = none := by
  unfold colG; rw [h]
  refine if_neg fun ⟨a, b, d⟩ => ?_
  dsimp only at a b d
  rcases h1 with h | h | h
  · exact h a
  · omega
  · rw [h] at d; cases d
theorem colG_stop {xs : List Nm} {N k i : Nat} {ub : List Bool} (hi : i < N) (hz : nm xs (i * N + k) ≠ Nm.zero) (h : tI (nm xs (i * N + k)) < 0 ∨ bx ub i = true) : colG xs N k ub = none := by
  obtain ⟨⟨r, t, c⟩, hc⟩ : ∃ x, colT xs N k N = x := ⟨_, rfl⟩
  have hp := colT_pos hz hc hi
  by_cases hr : r = i
  · subst hr
    have ha := colT_at hc hp.1
    refine colG_no hc ?_
    rw [ha.2.2]
    exact .inr h
  · exact colG_no hc (.inl (by have := hp.2 hr; omega))
theorem colG_end {xs : List Nm} {N k r c : Nat} {t : Int} {ub : List Bool} (h : colT xs N k N = (r, t, c)) (hg : ∀ j, j < N → nm xs (j * N + k) ≠ Nm.zero → 0 ≤ tI (nm xs (j * N + k)) ∧ bx ub j = false) (h1 : c = 1) : colG xs N k ub = some (r, t) := by
  have ha := colT_at h (by omega)
  have := hg r ha.1 ha.2.1
  exact colG_yes h h1 (by rw [ha.2.2]; exact this.1) this.2
/-- The rows, the turns and the used rows of the first columns. -/
def monS (xs : List Nm) (N : Nat) : Nat → Option (List Int × List Int × List Bool)
  | 0 => some ([], [], List.replicate N false)
  | k + 1 => match monS xs N k with
    | none => none
    | some (p, t, u) => match colG xs N k u with
      | none => none
      | some (r, s) => some (p ++ [(r : Int)], t ++ [s], u.set r true)
theorem monS_yes {xs : List Nm} {N k r : Nat} {p t : List Int} {u : List Bool} {s : Int} (h : monS xs N k = some (p, t, u)) (hg : colG xs N k u = some (r, s)) : monS xs N (k + 1) = some (p ++ [(r : Int)], t ++ [s], u.set r true) := by
  simp only [monS, h, hg]
theorem monS_no {xs : List Nm} {N k : Nat} {p t : List Int} {u : List Bool} (h : monS xs N k = some (p, t, u)) (hg : colG xs N k u = none) : ∀ m, k < m → monS xs N m = none := by
  intro m hm
  induction m with
  | zero => omega
  | succ m ih =>
    rcases (by omega : k = m ∨ k < m) with rfl | h1
    · simp only [monS, h, hg]
    · simp only [monS, ih h1]
theorem monS_len {xs : List Nm} {N : Nat} : ∀ {k : Nat} {p t : List Int} {u : List Bool}, monS xs N k = some (p, t, u) → p.length = k ∧ t.length = k ∧ u.length = N
  | 0, p, t, u, h => by cases h; simp
  | k + 1, p, t, u, h => by
    simp only [monS] at h
    split at h
    · cases h
    · next p' t' u' h' =>
      split at h
      · cases h
      · cases h
        have := monS_len h'
        simp [this]
/-- The answer: the permutation, the turns, whether it is one, the error. -/
def monP (n : Int) (xs : List Nm) : List Int := if validB n xs then (match monS xs n.toNat n.toNat with | some (p, _, _) => p | none => []) else []
def monU (n : Int) (xs : List Nm) : List Int := if validB n xs then (match monS xs n.toNat n.toNat with | some (_, t, _) => t | none => []) else []
def monB (n : Int) (xs : List Nm) : Bool := validB n xs && (monS xs n.toNat n.toNat).isSome
def monE (n : Int) (xs : List Nm) : Int := if validB n xs then 0 else 20
theorem bx_lt {l : List Bool} {i : Nat} (h : bx l i = true) : i < l.length := by
  rcases Nat.lt_or_ge i l.length with h1 | h1
  · exact h1
  · unfold bx at h; rw [List.getD_eq_getElem?_getD, List.getElem?_eq_none h1] at h; cases h
end Go.Proofs.Ytccbinnlnkpplaa
