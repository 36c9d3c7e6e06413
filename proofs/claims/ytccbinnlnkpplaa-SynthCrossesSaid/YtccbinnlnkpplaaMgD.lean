/- Several texts in one. -/
import Derived.Test.YtccbinnlnkpplaaAm6
import Derived.Test.YtccbinnlnkpplaaMx1
import Derived.Test.YtccbinnlnkpplaaMgC
import Derived.Test.YtccbinnlnkpplaaEq
import Derived.Test.YtccbinnlnkpplaaMgB
import Derived.Test.YtccbinnlnkpplaaMgA
import Derived.Test.YtccbinnlnkpplaaRo
import Derived.Test.YtccbinnlnkpplaaSq
import Derived.Test.YtccbinnlnkpplaaMg
namespace Go.Proofs.Ytccbinnlnkpplaa
set_option linter.all false

/-- The t below 8 for which a number is the t-th power of w. -/
def turnIx (z : Nm) : Option Nat :=
  if z.k = 0 then
    if z = ⟨1, 0, 0, 0, 0⟩ then some 0 else if z = ⟨0, 1, 0, 0, 0⟩ then some 1 else if z = ⟨0, 0, 1, 0, 0⟩ then some 2 else if z = ⟨0, 0, 0, 1, 0⟩ then some 3 else
    if z = ⟨-1, 0, 0, 0, 0⟩ then some 4 else if z = ⟨0, -1, 0, 0, 0⟩ then some 5 else if z = ⟨0, 0, -1, 0, 0⟩ then some 6 else if z = ⟨0, 0, 0, -1, 0⟩ then some 7 else none
  else none
theorem turn_one : Nm.turn 0 Nm.one = ⟨1, 0, 0, 0, 0⟩ ∧ Nm.turn 1 Nm.one = ⟨0, 1, 0, 0, 0⟩ ∧ Nm.turn 2 Nm.one = ⟨0, 0, 1, 0, 0⟩ ∧ Nm.turn 3 Nm.one = ⟨0, 0, 0, 1, 0⟩ ∧ Nm.turn 4 Nm.one = ⟨-1, 0, 0, 0, 0⟩ ∧ Nm.turn 5 Nm.one = ⟨0, -1, 0, 0, 0⟩ ∧ Nm.turn 6 Nm.one = ⟨0, 0, -1, 0, 0⟩ ∧ Nm.turn 7 Nm.one = ⟨0, 0, 0, -1, 0⟩ := by decide
theorem turnIx_iff (z : Nm) (t : Nat) (ht : t < 8) : turnIx z = some t ↔ z = Nm.turn t Nm.one := by
  obtain ⟨h0, h1, h2, h3, h4, h5, h6, h7⟩ := turn_one
  constructor
  · intro h
    unfold turnIx at h
    split at h
    · repeat' split at h
      all_goals first | (cases h; simp_all; done) | (cases h)
    · cases h
  · rintro rfl
    rcases (by omega : t = 0 ∨ t = 1 ∨ t = 2 ∨ t = 3 ∨ t = 4 ∨ t = 5 ∨ t = 6 ∨ t = 7) with rfl | rfl | rfl | rfl | rfl | rfl | rfl | rfl <;> decide
end Go.Proofs.Ytccbinnlnkpplaa
namespace Go.Proofs.Ytccbinnlnkpplaa
set_option linter.all false

def bx (l : List Bool) (j : Nat) : Bool := l.getD j false
def tI (z : Nm) : Int := match turnIx z with
  | some t => t
  | none => -1
def tK (z : Nm) (n : Nat) : Int := match turnIx z with
  | some t => if t < n then t else -1
  | none => -1
theorem turnIx_lt {z : Nm} {t : Nat} (h : turnIx z = some t) : t < 8 := by
  unfold turnIx at h
  split at h
  · repeat' split at h
    all_goals first | (cases h; decide) | (cases h)
  · cases h
theorem tK_zero (z : Nm) : tK z 0 = -1 := by
  unfold tK; split
  · rw [if_neg (by omega)]
  · rfl
theorem tK_8 (z : Nm) : tK z 8 = tI z := by
  unfold tK tI; split
  · next h => rw [if_pos (turnIx_lt h)]
  · rfl
theorem tK_yes {z : Nm} {n : Nat} (hn : n < 8) (h : z = Nm.turn n Nm.one) : tK z (n + 1) = n := by
  unfold tK
  rw [(turnIx_iff z n hn).2 h]
  exact if_pos (by omega)
theorem tK_no {z : Nm} {n : Nat} (hn : n < 8) (h : z ≠ Nm.turn n Nm.one) : tK z (n + 1) = tK z n := by
  unfold tK; split
  · next t ht =>
    have : t ≠ n := fun e => h ((turnIx_iff z n hn).1 (e ▸ ht))
    by_cases h1 : t < n
    · rw [if_pos h1, if_pos (by omega)]
    · rw [if_neg h1, if_neg (by omega)]
  · rfl
/-- What was seen of a column: the last row that is not 0, its turn, how many. -/
def colT (xs : List Nm) (N k : Nat) : Nat → Nat × Int × Nat
  | 0 => (0, 0, 0)
  | i + 1 => if nm xs (i * N + k) = Nm.zero then colT xs N k i else (i, tI (nm xs (i * N + k)), (colT xs N k i).2.2 + 1)
theorem colT_z {xs : List Nm} {N k i r c : Nat} {t : Int} (h : colT xs N k i = (r, t, c)) (hz : nm xs (i * N + k) = Nm.zero) : colT xs N k (i + 1) = (r, t, c) := by
  rw [colT, if_pos hz, h]
theorem colT_s {xs : List Nm} {N k i r c : Nat} {t : Int} (h : colT xs N k i = (r, t, c)) (hz : nm xs (i * N + k) ≠ Nm.zero) : colT xs N k (i + 1) = (i, tI (nm xs (i * N + k)), c + 1) := by
  rw [colT, if_neg hz, h]
theorem colT_at {xs : List Nm} {N k : Nat} : ∀ {i r c : Nat} {t : Int}, colT xs N k i = (r, t, c) → 1 ≤ c → r < i ∧ nm xs (r * N + k) ≠ Nm.zero ∧ t = tI (nm xs (r * N + k))
  | 0, r, c, t, h, hc => by cases h; omega
  | i + 1, r, c, t, h, hc => by
    by_cases hz : nm xs (i * N + k) = Nm.zero
    · rw [colT, if_pos hz] at h
      obtain ⟨h1, h2⟩ := colT_at h hc
      exact ⟨by omega, h2⟩
    · rw [colT, if_neg hz] at h
      cases h
      exact ⟨by omega, hz, rfl⟩
theorem colT_r {xs : List Nm} {N k : Nat} : ∀ {i r c : Nat} {t : Int}, colT xs N k i = (r, t, c) → r ≤ i ∧ c ≤ i ∧ -1 ≤ t ∧ t ≤ 7
  | 0, r, c, t, h => by cases h; exact ⟨Nat.le_refl _, Nat.le_refl _, by decide, by decide⟩
  | i + 1, r, c, t, h => by
    obtain ⟨⟨r', t', c'⟩, h'⟩ : ∃ x, colT xs N k i = x := ⟨_, rfl⟩
    have ih := colT_r h'
    by_cases hz : nm xs (i * N + k) = Nm.zero
    · rw [colT_z h' hz] at h; cases h; omega
    · rw [colT_s h' hz] at h; cases h
      refine ⟨by omega, by omega, ?_⟩
      unfold tI; split
      · next ht => have := turnIx_lt ht; omega
      · omega
theorem colT_pos {xs : List Nm} {N k j : Nat} (hj : nm xs (j * N + k) ≠ Nm.zero) : ∀ {i r c : Nat} {t : Int}, colT xs N k i = (r, t, c) → j < i → 1 ≤ c ∧ (r ≠ j → 2 ≤ c)
  | 0, r, c, t, h, hi => by omega
  | i + 1, r, c, t, h, hi => by
    obtain ⟨⟨r', t', c'⟩, h'⟩ : ∃ x, colT xs N k i = x := ⟨_, rfl⟩
    by_cases hz : nm xs (i * N + k) = Nm.zero
    · rw [colT_z h' hz] at h; cases h
      refine colT_pos hj h' ?_
      rcases (by omega : j = i ∨ j < i) with rfl | h1
      · exact absurd hz hj
      · exact h1
    · rw [colT_s h' hz] at h; cases h
      rcases (by omega : j = i ∨ j < i) with rfl | h1
      · exact ⟨by omega, fun h => absurd rfl h⟩
      · have := colT_pos hj h' h1
        exact ⟨by omega, fun _ => by omega⟩
/-- A column that has one element alone, a turn, in a row that is not used. -/
def colG (xs : List Nm) (N k : Nat) (ub : List Bool) : Option (Nat × Int) := if (colT xs N k N).2.2 = 1 ∧ 0 ≤ (colT xs N k N).2.1 ∧ bx ub (colT xs N k N).1 = false then some ((colT xs N k N).1, (colT xs N k N).2.1) else none
theorem colG_yes {xs : List Nm} {N k r c : Nat} {t : Int} {ub : List Bool} (h : colT xs N k N = (r, t, c)) (h1 : c = 1) (h2 : 0 ≤ t) (h3 : bx ub r = false) : colG xs N k ub = some (r, t) := by
  unfold colG; rw [h]; exact if_pos ⟨h1, h2, h3⟩
theorem colG_no {xs : List Nm} {N k r c : Nat} {t : Int} {ub : List Bool} (h : colT xs N k N = (r, t, c)) (h1 : c ≠ 1 ∨ t < 0 ∨ bx ub r = true) : colG xs N k ub = none := by
  unfold colG; rw [h]
  refine if_neg fun ⟨a, b, d⟩ => ?_
  dsimp only at a b d
  rcases h1 with h | h | h
  · exact h a
  · omega
  · rw [h] at d; cases d
theorem colG_stop {xs : List Nm} {N k i : Nat} {ub : List Bool} (hi : i < N) (hz : nm xs (i * N + k) ≠ Nm.zero) (h : tI (nm xs (i * N + k)) < 0 ∨ bx ub i = true) : colG xs N k ub = none := by
  obtain ⟨⟨r, t, c⟩, hc⟩ : ∃ x, colT xs N k N = x := ⟨_, rfl⟩
  have hp := colT_pos hz hc hi
  by_cases hr : r = i
  · subst hr
    have ha := colT_at hc hp.1
    refine colG_no hc ?_
    rw [ha.2.2]
    exact .inr h
  · exact colG_no hc (.inl (by have := hp.2 hr; omega))
theorem colG_end {xs : List Nm} {N k r c : Nat} {t : Int} {ub : List Bool} (h : colT xs N k N = (r, t, c)) (hg : ∀ j, j < N → nm xs (j * N + k) ≠ Nm.zero → 0 ≤ tI (nm xs (j * N + k)) ∧ bx ub j = false) (h1 : c = 1) : colG xs N k ub = some (r, t) := by
  have ha := colT_at h (by omega)
  have := hg r ha.1 ha.2.1
  exact colG_yes h h1 (by rw [ha.2.2]; exact this.1) this.2
/-- The rows, the turns and the used rows of the first columns. -/
def monS (xs : List Nm) (N : Nat) : Nat → Option (List Int × List Int × List Bool)
  | 0 => some ([], [], List.replicate N false)
  | k + 1 => match monS xs N k with
    | none => none
    | some (p, t, u) => match colG xs N k u with
      | none => none
      | some (r, s) => some (p ++ [(r : Int)], t ++ [s], u.set r true)
theorem monS_yes {xs : List Nm} {N k r : Nat} {p t : List Int} {u : List Bool} {s : Int} (h : monS xs N k = some (p, t, u)) (hg : colG xs N k u = some (r, s)) : monS xs N (k + 1) = some (p ++ [(r : Int)], t ++ [s], u.set r true) := by
  simp only [monS, h, hg]
theorem monS_no {xs : List Nm} {N k : Nat} {p t : List Int} {u : List Bool} (h : monS xs N k = some (p, t, u)) (hg : colG xs N k u = none) : ∀ m, k < m → monS xs N m = none := by
  intro m hm
  induction m with
  | zero => omega
  | succ m ih =>
    rcases (by omega : k = m ∨ k < m) with rfl | h1
    · simp only [monS, h, hg]
    · simp only [monS, ih h1]
theorem monS_len {xs : List Nm} {N : Nat} : ∀ {k : Nat} {p t : List Int} {u : List Bool}, monS xs N k = some (p, t, u) → p.length = k ∧ t.length = k ∧ u.length = N
  | 0, p, t, u, h => by cases h; simp
  | k + 1, p, t, u, h => by
    simp only [monS] at h
    split at h
    · cases h
    · next p' t' u' h' =>
      split at h
      · cases h
      · cases h
        have := monS_len h'
        simp [this]
/-- The answer: the permutation, the turns, whether it is one, the error. -/
def monP (n : Int) (xs : List Nm) : List Int := if validB n xs then (match monS xs n.toNat n.toNat with | some (p, _, _) => p | none => []) else []
def monU (n : Int) (xs : List Nm) : List Int := if validB n xs then (match monS xs n.toNat n.toNat with | some (_, t, _) => t | none => []) else []
def monB (n : Int) (xs : List Nm) : Bool := validB n xs && (monS xs n.toNat n.toNat).isSome
def monE (n : Int) (xs : List Nm) : Int := if validB n xs then 0 else 20
theorem bx_lt {l : List Bool} {i : Nat} (h : bx l i = true) : i < l.length := by
  rcases Nat.lt_or_ge i l.length with h1 | h1
  · exact h1
  · unfold bx at h; rw [List.getD_eq_getElem?_getD, List.getElem?_eq_none h1] at h; cases h
end Go.Proofs.Ytccbinnlnkpplaa
namespace Go.Proofs.Ytccbinnlnkpplaa
set_option linter.all false

/-- The matrix that takes guide k to guide q k. -/
def gL (N : Nat) (q : Nat → Nat) : List Nm := (List.range (N * N)).map fun t => if t / N = q (t % N) then Nm.one else Nm.zero
theorem gL_len (N : Nat) (q : Nat → Nat) : (gL N q).length = N * N := by simp [gL]
theorem gL_nm {N : Nat} (q : Nat → Nat) {t : Nat} (h : t < N * N) : nm (gL N q) t = if t / N = q (t % N) then Nm.one else Nm.zero := by
  unfold gL
  show El.at NmE _ _ = _
  unfold El.at
  rw [List.getD_eq_getElem?_getD, List.getElem?_map, List.getElem?_range h]
  rfl
theorem gL_at {N : Nat} (q : Nat → Nat) {i k : Nat} (hi : i < N) (hk : k < N) : nm (gL N q) (i * N + k) = if i = q k then Nm.one else Nm.zero := by
  rw [gL_nm q (ix_lt hi hk), ix_div hk, ix_mod hk]
theorem gL_congr {N : Nat} {p q : Nat → Nat} (h : ∀ k, k < N → p k = q k) : gL N p = gL N q := by
  unfold gL
  refine List.map_congr_left fun t ht => ?_
  have ht := List.mem_range.1 ht
  have hN : 0 < N := by
    rcases Nat.eq_zero_or_pos N with h0 | h0
    · subst h0; simp at ht
    · exact h0
  rw [h _ (Nat.mod_lt _ hN)]
theorem oz_ok (P : Prop) [Decidable P] : (if P then Nm.one else Nm.zero : Nm).Ok := by split; exact one_ok; exact zero_ok
theorem gL_ok {N : Nat} (q : Nat → Nat) : allOk (gL N q) = true := by
  refine allOk_true fun t ht => okB_iff.2 ?_
  rw [gL_len] at ht
  rw [gL_nm q ht]
  exact oz_ok _
theorem gL_valid {N : Nat} (q : Nat → Nat) (h1 : 1 ≤ N) (h6 : N ≤ 6) : validB N (gL N q) = true := by
  have e : ((N * N : Nat) : Int) = (N : Int) * N := Int.natCast_mul N N
  unfold validB
  simp only [Bool.and_eq_true, decide_eq_true_eq]
  exact ⟨by omega, by omega, by rw [gL_len]; omega, gL_ok q⟩
theorem idM_gL {N : Nat} (h1 : 1 ≤ N) (h6 : N ≤ 6) : idM N = gL N fun k => k := by
  unfold idM identR
  rw [if_pos (by omega), Int.toNat_natCast]
  have h : madeR N idR = .ok ((List.range (N * N)).map fun t => if t / N = t % N then Nm.one else Nm.zero) := gather_pure _ _
  rw [h]
  rfl
theorem mulM_gL {N : Nat} {p q : Nat → Nat} (h1 : 1 ≤ N) (h6 : N ≤ 6) (hq : ∀ k, k < N → q k < N) : mulM N N (gL N p) (gL N q) = .ok (gL N fun k => p (q k)) := by
  unfold mulM
  rw [gL_valid p h1 h6, gL_valid q h1 h6, Bool.and_self, if_pos rfl, if_pos rfl, Int.toNat_natCast]
  have e : madeR N (mulF N (gL N p) (gL N q)) = madeR N fun i k => .ok (if i = p (q k) then Nm.one else Nm.zero) := by
    refine made_congr fun i k hi hk => ?_
    unfold mulF
    have hx : ∀ j, j < N → nm (gL N p) (i * N + j) = if i = p j then Nm.one else Nm.zero := fun j hj => gL_at p hi hj
    have hy : ∀ j, j < N → nm (gL N q) (j * N + k) = if j = q k then Nm.one else Nm.zero := fun j hj => gL_at q hj hk
    have e1 : ∀ m, m ≤ N → prodsR (fun j => nm (gL N p) (i * N + j)) (fun j => nm (gL N q) (j * N + k)) m = prodsR (fun j => if i = p j then Nm.one else Nm.zero) (fun j => if j = q k then Nm.one else Nm.zero) m := by
      intro m
      induction m with
      | zero => intro _; rfl
      | succ m ih =>
        intro hm
        simp only [prodsR, ih (by omega)]
        rw [hx m (by omega), hy m (by omega)]
    rw [e1 N (Nat.le_refl _)]
    have := prodsR_one (x := fun j => if i = p j then Nm.one else Nm.zero) (y := fun j => if j = q k then Nm.one else Nm.zero) (i := q k) (p := if i = p (q k) then Nm.one else Nm.zero) (oz_ok _) ?_ ?_ N
    · rw [this, if_pos (hq k hk)]
    · show Nm.mul (if i = p (q k) then Nm.one else Nm.zero) (if q k = q k then Nm.one else Nm.zero) = _
      rw [if_pos rfl]
      exact mul_of_val (oz_ok _) one_ok (oz_ok _) (by rw [val_one, Q4.mul_one])
    · intro j hj
      show Nm.mul (if i = p j then Nm.one else Nm.zero) (if j = q k then Nm.one else Nm.zero) = _
      rw [if_neg hj]
      exact mul_of_val (oz_ok _) zero_ok zero_ok (by rw [val_zero, Q4.mul_zero])
  rw [e]
  exact gather_pure _ _
/-! ### Exchanges -/
def swp (k c : Nat) : Nat := if c = k then k + 1 else if c = k + 1 then k else c
def mv (ys : List Nat) (c : Nat) : Nat := ys.foldl (fun c k => swp k c) c
theorem mv_snoc (ys : List Nat) (k c : Nat) : mv (ys ++ [k]) c = swp k (mv ys c) := by unfold mv; rw [List.foldl_append]; rfl
theorem swp_lt {N k c : Nat} (hk : k + 1 < N) (hc : c < N) : swp k c < N := by unfold swp; split; omega; split; omega; exact hc
theorem swp_ix {l : List Int} {k c : Nat} (hk : k + 1 < l.length) : ix (swapAt l k) (swp k c) = ix l c := by
  rw [swapAt_ix hk]
  unfold swp
  by_cases h1 : c = k
  · rw [if_pos h1, if_neg (by omega), if_pos rfl, h1]
  · rw [if_neg h1]
    by_cases h2 : c = k + 1
    · rw [if_pos h2, if_pos rfl, h2]
    · rw [if_neg h2, if_neg h1, if_neg h2]
theorem itL_cross {N k : Nat} (h6 : N ≤ 6) (hk : k + 1 < N) : itL N (cross k) = gL N (swp k) := by
  have hN : N = 2 ∨ N = 3 ∨ N = 4 ∨ N = 5 ∨ N = 6 := by omega
  have hK : k = 0 ∨ k = 1 ∨ k = 2 ∨ k = 3 ∨ k = 4 := by omega
  rcases hN with rfl | rfl | rfl | rfl | rfl <;> rcases hK with rfl | rfl | rfl | rfl | rfl <;> first | (exfalso; omega) | rfl
theorem wd_cross (k : Nat) : wd (cross k) = 2 := by
  unfold wd cross
  rw [if_neg (show ¬ ((3 : Int) = 1) by decide), if_pos (show (3 : Int) = 2 ∨ (3 : Int) = 3 by decide), if_pos ⟨rfl, empD⟩]
theorem fit_cross {N k : Nat} (hk : k + 1 < N) : fitB N (cross k) = true :=
  fitB_true ⟨by rw [wd_cross]; decide, by show (1 : Int) ≤ (k : Int) + 1; omega, by rw [wd_cross]; show (k : Int) + 1 ≤ _; omega⟩
theorem atTo_snoc {m : Nat} {L : List It} {x : It} : ∀ j, j ≤ L.length → atTo m (L ++ [x]) j = atTo m L j
  | 0, _ => rfl
  | j + 1, h => by
    have ih := atTo_snoc (m := m) (L := L) (x := x) j (by omega)
    rw [atTo, atTo, ih, it_snoc_lt (by omega)]
/-- What the exchanges do, all of it. -/
structure Done (xs : List Int) (ys : List Nat) (l : List Int) : Prop where
  lt : ∀ c, c < xs.length → mv ys c < xs.length
  to : ∀ c, c < xs.length → ix l (mv ys c) = ix xs c
  at_ : ∀ c, c < xs.length → ix (atTo xs.length (ys.map cross) ys.length) (mv ys c) = c
  mat : matS xs.length (ys.map cross) ys.length = .ok (gL xs.length (mv ys))
  fit : ∀ x ∈ ys.map cross, fitB xs.length x = true
  prm : Perm xs → Perm l
theorem Ex.done {xs : List Int} (h1 : 1 ≤ xs.length) (h6 : xs.length ≤ 6) {ys : List Nat} {l : List Int} (h : Ex xs ys l) : Done xs ys l := by
  induction h with
  | start =>
    refine ⟨fun c hc => hc, fun c hc => rfl, fun c hc => ?_, ?_, fun x hx => (by cases hx), fun hp => hp⟩
    · exact idTo_at _ _ (Nat.le_refl _) c hc
    · show Except.ok (idM _) = _
      rw [idM_gL h1 h6]
      rfl
  | @step ys l k h hk hu hd ih =>
    have hl := h.len
    have hk' : k + 1 < xs.length := by omega
    have el : (ys.map cross).length = ys.length := by simp
    refine ⟨fun c hc => ?_, fun c hc => ?_, fun c hc => ?_, ?_, fun x hx => ?_, fun hp => ?_⟩
    · rw [mv_snoc]; exact swp_lt hk' (ih.lt c hc)
    · rw [mv_snoc, swp_ix hk, ih.to c hc]
    · rw [List.map_append, List.length_append]
      show ix (atTo _ _ (ys.length + 1)) _ = _
      rw [List.map_cons, List.map_nil, atTo, atTo_snoc _ (by omega)]
      have e : it (ys.map cross ++ [cross k]) ys.length = cross k := by rw [← el]; exact it_snoc _ _
      rw [e, mv_snoc]
      have e2 : ((cross k).at_ - 1).toNat = k := by show ((k : Int) + 1 - 1).toNat = k; omega
      rw [e2, swp_ix (by rw [atTo_len]; exact hk'), ih.at_ c hc]
    · rw [List.map_append, List.length_append]
      show matS _ _ (ys.length + 1) = _
      rw [List.map_cons, List.map_nil, matS, matS_snoc _ (by omega), ih.mat]
      have e : it (ys.map cross ++ [cross k]) ys.length = cross k := by rw [← el]; exact it_snoc _ _
      rw [e]
      show mulM _ _ (itL _ (cross k)) (gL _ (mv ys)) = _
      rw [itL_cross h6 hk', mulM_gL h1 h6 ih.lt]
      exact congrArg _ (gL_congr fun c _ => (mv_snoc ys k c).symm)
    · rw [List.map_append] at hx
      rcases List.mem_append.1 hx with hx | hx
      · exact ih.fit x hx
      · simp at hx
        subst hx
        exact fit_cross hk'
    · exact swapAt_Perm hk (ih.prm hp)
theorem sorted_id {l : List Int} (hp : Perm l) (hs : ∀ j, j + 1 < l.length → ix l j < ix l (j + 1)) : ∀ j, j < l.length → ix l j = j := by
  have lo : ∀ j : Nat, j < l.length → (j : Int) ≤ ix l j := by
    intro j
    induction j with
    | zero => intro hj; have := (hp.2.2 0 hj).1; omega
    | succ j ih => intro hj; have h1 := ih (by omega); have h2 := hs j hj; omega
  have hi : ∀ d j : Nat, j < l.length → l.length - 1 - j = d → ix l j ≤ j := by
    intro d
    induction d with
    | zero => intro j hj hd; have := (hp.2.2 j hj).1; omega
    | succ d ih => intro j hj hd; have h1 := ih (j + 1) (by omega) (by omega); have h2 := hs j (by omega); omega
  intro j hj
  have h1 := lo j hj
  have h2 := hi _ j hj rfl
  omega
/-- What crossings of a permutation make. -/
structure Cr (xs : List Int) (ys : List Nat) : Prop where
  len : invs xs = ys.length
  le : ys.length ≤ 2016
  ok : validI xs.length (ys.map cross) = true
  item : itemE xs.length (ys.map cross) = 0
  mat : matO xs.length (ys.map cross) = .ok (gL xs.length fun k => (ix xs k).toNat)
  isp : isP xs.length (ys.map cross) = true
  prm : permZ xs.length (ys.map cross) = xs
theorem ex_cr {xs : List Int} (hp : Perm xs) (h6 : xs.length ≤ 6) {ys : List Nat} {l : List Int} (h : Ex xs ys l) (hs : ∀ j, j + 1 < l.length → ix l j < ix l (j + 1)) : Cr xs ys := by
  have h1 := hp.1
  have hd := h.done h1 h6
  have hll := h.len
  have hid := sorted_id (hd.prm hp) hs
  have hmv : ∀ c, c < xs.length → ix xs c = mv ys c := fun c hc => by
    rw [← hd.to c hc, hid _ (by rw [hll]; exact hd.lt c hc)]
  have hlen : invs xs = ys.length := by
    have := h.invs
    rw [up_invs l hs] at this
    omega
  have hle : ys.length ≤ 2016 := by have := invs_le xs hp.2.1; omega
  have hv : validI xs.length (ys.map cross) = true := validI_true (by omega) (by omega) (by simp; omega) (List.all_eq_true.2 hd.fit)
  have hi : itemE xs.length (ys.map cross) = 0 := by
    unfold itemE; rw [if_pos (by omega), if_pos hv]
  have hk3 : ∀ j, j < (ys.map cross).length → (it (ys.map cross) j).kind = 3 := fun j hj => by
    obtain ⟨y, _, hy⟩ := List.mem_map.1 (it_mem hj)
    rw [← hy]; rfl
  have hP : isP xs.length (ys.map cross) = true := isP_ok hv hk3
  refine ⟨hlen, hle, hv, hi, ?_, hP, ?_⟩
  · unfold matO
    rw [if_pos hi, Int.toNat_natCast, List.length_map, hd.mat]
    exact congrArg _ (gL_congr fun c hc => by rw [hmv c hc]; rfl)
  · rw [permZ_ok (m := xs.length) rfl hP, List.length_map]
    have hcr : ∀ j, j < ys.length → Crs xs.length (it (ys.map cross) j) := fun j hj => by
      have hj' : j < (ys.map cross).length := by simpa using hj
      exact crs_of (hd.fit _ (it_mem hj')) (hk3 j hj')
    have hA := atTo_perm (m := xs.length) (xs := ys.map cross) h1 (by omega) ys.length hcr
    have hAl := atTo_len xs.length (ys.map cross) ys.length
    refine ext_ix (by rw [invL_len, hAl]) fun j hj => ?_
    rw [invL_len, hAl] at hj
    have hpf : pf (atTo xs.length (ys.map cross) ys.length) (mv ys j) = j := by
      unfold pf; rw [hd.at_ j hj]; rfl
    have := invL_at hA (j := mv ys j) (by rw [hAl]; exact hd.lt j hj)
    rw [hpf] at this
    rw [this, hmv j hj]
/-! ### The matrix of a permutation, element by element -/
def pmS (xs : List Int) : Nat → List Nm
  | 0 => List.replicate (xs.length * xs.length) Nm.zero
  | i + 1 => (pmS xs i).set ((ix xs i).toNat * xs.length + i) Nm.one
theorem pmS_len (xs : List Int) : ∀ i, (pmS xs i).length = xs.length * xs.length
  | 0 => by simp [pmS]
  | i + 1 => by rw [pmS, List.length_set, pmS_len xs i]
theorem pmS_at {xs : List Int} (hp : Perm xs) : ∀ i, i ≤ xs.length → ∀ t, t < xs.length * xs.length → nm (pmS xs i) t = if t % xs.length < i ∧ t / xs.length = (ix xs (t % xs.length)).toNat then Nm.one else Nm.zero
  | 0, _, t, ht => by
    rw [if_neg (by omega)]
    show El.at NmE _ _ = _
    unfold El.at pmS
    rw [List.getD_eq_getElem?_getD, List.getElem?_replicate, if_pos ht]
    rfl
  | i + 1, hi, t, ht => by
    have ih := pmS_at hp i (by omega) t ht
    have hr := (hp.2.2 i (by omega)).1
    have hlt : (ix xs i).toNat * xs.length + i < xs.length * xs.length := ix_lt (by omega) (by omega)
    show El.at NmE _ _ = _
    rw [pmS, El.at_set _ _ _ _ (by rw [pmS_len]; exact hlt)]
    have hd := Nat.div_add_mod' t xs.length
    by_cases e : t = (ix xs i).toNat * xs.length + i
    · rw [if_pos e, e, ix_div (by omega), ix_mod (by omega), if_pos ⟨by omega, rfl⟩]
    · rw [if_neg e]
      have ih' : NmE.at (pmS xs i) t = _ := ih
      rw [ih']
      by_cases h2 : t % xs.length = i
      · rw [if_neg (by omega), if_neg]
        rintro ⟨_, h4⟩
        rw [h2] at h4
        rw [h4, h2] at hd
        exact e hd.symm
      · by_cases h3 : t % xs.length < i ∧ t / xs.length = (ix xs (t % xs.length)).toNat
        · rw [if_pos h3, if_pos ⟨by omega, h3.2⟩]
        · rw [if_neg h3, if_neg]
          rintro ⟨g1, g2⟩
          exact h3 ⟨by omega, g2⟩
theorem pmS_all {xs : List Int} (hp : Perm xs) : pmS xs xs.length = gL xs.length fun k => (ix xs k).toNat := by
  refine NmE.ext_at (by rw [pmS_len, gL_len]) fun t ht => ?_
  rw [pmS_len] at ht
  have h1 : NmE.at (pmS xs xs.length) t = _ := pmS_at hp xs.length (Nat.le_refl _) t ht
  have h2 : NmE.at (gL xs.length fun k => (ix xs k).toNat) t = _ := gL_nm _ ht
  rw [h1, h2]
  have : t % xs.length < xs.length := Nat.mod_lt _ (by have := hp.1; omega)
  by_cases h3 : t / xs.length = (ix xs (t % xs.length)).toNat
  · rw [if_pos ⟨this, h3⟩, if_pos h3]
  · rw [if_neg (fun h => h3 h.2), if_neg h3]
/-- What the four functions answer. -/
noncomputable def crE (xs : List Int) : Int := if Perm xs then (if xs.length ≤ 6 then 0 else 4) else 40
noncomputable def pmL (xs : List Int) : List Nm := if crE xs = 0 then pmS xs xs.length else []
noncomputable def pmN (xs : List Int) : Int := if crE xs = 0 then xs.length else 0
theorem crE_no {xs : List Int} (h : ¬ Perm xs) : crE xs = 40 := by unfold crE; rw [if_neg h]
theorem crE_lim {xs : List Int} (h : Perm xs) (h6 : ¬ xs.length ≤ 6) : crE xs = 4 := by unfold crE; rw [if_pos h, if_neg h6]
theorem crE_yes {xs : List Int} (h : Perm xs) (h6 : xs.length ≤ 6) : crE xs = 0 := by unfold crE; rw [if_pos h, if_pos h6]
theorem crE_zero {xs : List Int} (h : crE xs = 0) : Perm xs ∧ xs.length ≤ 6 := by
  unfold crE at h
  split at h
  · next hp => split at h
               · next h6 => exact ⟨hp, h6⟩
               · cases h
  · cases h
theorem pm_yes {xs : List Int} (h : Perm xs) (h6 : xs.length ≤ 6) : pmL xs = pmS xs xs.length ∧ pmN xs = xs.length ∧ crE xs = 0 := by
  have e := crE_yes h h6
  unfold pmL pmN
  rw [if_pos e, if_pos e]
  exact ⟨rfl, rfl, e⟩
theorem pm_no {xs : List Int} (h : crE xs ≠ 0) : pmL xs = [] ∧ pmN xs = 0 := by
  unfold pmL pmN
  rw [if_neg h, if_neg h]
  exact ⟨rfl, rfl⟩
theorem pmL_len (xs : List Int) : (pmL xs).length ≤ 36 := by
  unfold pmL
  split
  · next h => rw [pmS_len]; exact Nat.mul_le_mul (crE_zero h).2 (crE_zero h).2
  · exact Nat.zero_le _
/-- The crossings: what both functions answer. -/
def CrL (xs : List Int) (L : List It) : Prop := if crE xs = 0 then ∃ ys l, Ex xs ys l ∧ (∀ j, j + 1 < l.length → ix l j < ix l (j + 1)) ∧ L = ys.map cross else L = []
theorem CrL.same {xs : List Int} {L M : List It} (h1 : CrL xs L) (h2 : CrL xs M) : L = M := by
  unfold CrL at h1 h2
  by_cases h : crE xs = 0
  · rw [if_pos h] at h1 h2
    obtain ⟨ys, l, hE, hs, rfl⟩ := h1
    obtain ⟨zs, m, hF, ht, rfl⟩ := h2
    obtain ⟨hp, h6⟩ := crE_zero h
    have c1 := ex_cr hp h6 hE hs
    have c2 := ex_cr hp h6 hF ht
    rw [(hE.same hF (by rw [← c1.len, ← c2.len])).1]
  · rw [if_neg h] at h1 h2
    rw [h1, h2]
theorem CrL.len {xs : List Int} {L : List It} (h : CrL xs L) : L.length ≤ 2016 := by
  unfold CrL at h
  by_cases h0 : crE xs = 0
  · rw [if_pos h0] at h
    obtain ⟨ys, l, hE, hs, rfl⟩ := h
    obtain ⟨hp, h6⟩ := crE_zero h0
    have := (ex_cr hp h6 hE hs).le
    simpa using this
  · rw [if_neg h0] at h
    rw [h]; exact Nat.zero_le _
end Go.Proofs.Ytccbinnlnkpplaa
namespace Go.Proofs.Ytccbinnlnkpplaa
set_option linter.all false
open Go.RowKit
set_option maxRecDepth 100000 in
theorem it_eqIn (x : It) (w : World) : (Op.equalIn 10000 80 (itV x) (itV x)).run Try.prog w = .ok true w := by
  have u3 := Try.underlying3
  have a3 := Try.isAgg3
  have z3 := Try.sizeOf3
  have u9 := Try.underlying9
  have a9 := Try.isAgg9
  have z9 := Try.sizeOf9
  have hS : Try.prog.underlying 80 = some (.struct (Try.prog.fieldsOf 80)) := by kernel_rfl
  have hp : Try.prog.stoodInHeld 80 = false := by kernel_rfl
  rw [show (10000 : Nat) = 9999 + 1 from rfl, run_equalIn_agg w 9999 80 _ _ hS hp]
  simp only [Program.fieldsOf, Try.underlying80]
  go_simp
theorem it_guard (op : BinOp) (u v : Operand) (x y : It) (w : World) : (eqGuard op 80 u v (itV x) (itV y)).run Try.prog w = .ok () w := by
  have h : (Try.prog.eqGuardType Try.prog.depth 80) = false := by kernel_rfl
  unfold eqGuard
  cases op <;> simp [h]
section
variable {R : Option Nat} {ops : Array Oper} {Q : Exit → Act → World → Prop} {B : World} {F : List Nat} {s0 : Option (List Blk × List Blk)}
variable {l : List (Oper × Nat)} {a : Act} {s : List Blk} {d : Option Tmp} {t : TypeId} {p : String} {af : Array Edge} {gd : Option (Nat × Bool)} {m : Nat}
/-- An item is itself. -/
theorem rf_neT {x y : Operand} {z : TypeId} (u : It) (hm : soft03 m = true) (hg : Region.wanted ⟨d, .binOp .neq 80 x y z, t, p, af, gd⟩ (yielded ops a.tmps) = true)
    (hx : a.eval x = itV u) (hy : a.eval y = itV u) (h : Rg R Try.prog ops Q B F s0 l (a.put d (.bool false)) s) : Rg R Try.prog ops Q B F s0 ((⟨d, .binOp .neq 80 x y z, t, p, af, gd⟩, m) :: l) a s := by
  refine rg_any hm hg (fun w => ?_) h
  unfold Yld
  have hb : (binOp .neq 80 (itV u) (itV u)).run Try.prog w = .ok (.bool false) w := by rw [run_neq_struct, it_eqIn]; rfl
  have hgd := it_guard .neq x y u u w
  show ((eqGuard .neq _ x y (a.eval x) (a.eval y) >>= fun _ => binOp .neq _ (a.eval x) (a.eval y)) >>= fun r => pure (Next.value r)).run Try.prog w = _
  rw [hx, hy, Sem.run_bind, Sem.run_bind, hgd, Result.andThen_ok, hb]
  rfl
end
end Go.Proofs.Ytccbinnlnkpplaa
namespace Go.Proofs.Ytccbinnlnkpplaa
set_option linter.all false
open Go.RowKit

/-- The items of a switch. -/
def cplI (at_ : Int) : It := ⟨2, at_, 0, ⟨#[]⟩⟩
def phsI (at_ n : Int) : It := ⟨1, at_, n, ⟨#[]⟩⟩
def swI (at_ n : Int) : List It := if n = 0 then [cplI at_, cplI at_] else [cplI at_, phsI at_ n, cplI at_]
def swOk (at_ n : Int) : Bool := decide (1 ≤ at_ ∧ at_ ≤ 5 ∧ 0 ≤ n ∧ n ≤ 7)
def swL (at_ n : Int) : List It := if swOk at_ n then swI at_ n else []
def swE (at_ n : Int) : Int := if swOk at_ n then 0 else 2
theorem sw_yes {at_ n : Int} (h : 1 ≤ at_ ∧ at_ ≤ 5 ∧ 0 ≤ n ∧ n ≤ 7) : swL at_ n = swI at_ n ∧ swE at_ n = 0 := by
  have : swOk at_ n = true := decide_eq_true h
  unfold swL swE; rw [this]; exact ⟨rfl, rfl⟩
theorem sw_no {at_ n : Int} (h : ¬ (1 ≤ at_ ∧ at_ ≤ 5 ∧ 0 ≤ n ∧ n ≤ 7)) : swL at_ n = [] ∧ swE at_ n = 2 := by
  have : swOk at_ n = false := decide_eq_false h
  unfold swL swE; rw [this]; exact ⟨rfl, rfl⟩
/-- A list of items and an error. -/
def RetS (w : World) (L : List It) (cc : Int) (e : Ending) (w' : World) : Prop := ∃ v u, e = .returned (.tuple #[v, .int .i64 cc]) ∧ OwnT u v L ∧ Made w u w'
theorem OwnT.wholeI {g : Nat} {L : List It} (h : L.length ≤ 1000000) : OwnT [(g, .cells (its L).toArray 80)] (.slice (some ⟨g, 0, none⟩) L.length L.length) L :=
  Own.whole (cur := (its L).toArray) (by simpa using its_len L) (by simp only [maxLen]; omega)
theorem OwnT.asT {B w : World} {F : List Nat} {u s : List Blk} {a : Option Addr} {n c : Nat} {xs : List It} (h : OwnT u (.slice a n c) xs) (K : Kn B F (u ++ s) w) : AS w a (its xs) := by
  obtain ⟨a', c', e, h'⟩ := Own.as h K
  cases e
  exact h'
section
variable {R : Option Nat} {ops : Array Oper} {Q : Exit → Act → World → Prop} {B : World} {F : List Nat} {s0 : Option (List Blk × List Blk)}
variable {l : List (Oper × Nat)} {a : Act} {s S : List Blk} {d : Option Tmp} {op : Op} {t : TypeId} {p : String} {af : Array Edge} {v : Value}
theorem rg_retS {f : Nat} {cargs : Array Operand} {at_ : Array TypeId} {args : Array Value} {L : List It} {cc : Int} {P : Program} {gd : Option (Nat × Bool)} (hg : Region.wanted ⟨d, .call ⟨.value (.func f), cargs, at_⟩, t, p, af, gd⟩ (yielded ops a.tmps) = true) (hgo : isGo P f = true)
    (h : ∀ w, Kn B F s w → Calls P f args w (RetS w L cc)) (hargs : cargs.map a.eval = args)
    (hz : ∀ z ∈ s0, z.1.Sublist s) (k : ∀ (va : Option Addr) (vc : Nat) (u : List Blk), OwnT u (.slice va L.length vc) L → Rg R P ops Q B F s0 l (a.put d (.tuple #[.slice va L.length vc, .int .i64 cc])) (u ++ s)) :
    Rg R P ops Q B F s0 ((⟨d, .call ⟨.value (.func f), cargs, at_⟩, t, p, af, gd⟩, 1) :: l) a s :=
  rg_call hg hgo hargs fun w K => (h w K).mono fun e w' ⟨v, u, he, hO, hm⟩ => by
    obtain ⟨a', c', rfl, -⟩ := Own.val hO
    exact ⟨_, u ++ s, he, K.add hm, fun z hz' => (hz z hz').trans (List.sublist_append_right _ _), k a' c' u hO⟩
end
set_option maxRecDepth 100000 in
set_option maxHeartbeats 1000000 in
theorem mswitch_any (k n : Int) (w : World) : Calls Try.prog 25 #[.int .i64 k, .int .i64 n] w fun e w' => RetS w (swL k n) (swE k n) e w' := by
  go_enter Try.func25, Try.ntmps25
  refine wk_start ?_
  refine wk_seq ?_
  refine wk_region [0, 0] rfl (by kernel_rfl) ?_
  simp only [qy]
  refine rg_assign ?_
  simp only [qz]
  refine rg_assign ?_
  simp only [qz]
  refine rg_nil (ek_next (wk_seq (wk_seq ?_)))
  refine wk_region [0, 1, 0, 0, 0, 1, 0, 0] rfl (by kernel_rfl) ?_
  simp only [qy]
  refine rg_move ?_
  simp only [qz]
  apply rg_pureb (by rfl) (by kernel_rfl)
  case hargs => (simp only [qm, qs, Act.eval]; exact rfl)
  case h => exact fun w hw => between_any 1 k 5 w
  case hz => exact (fun _ h => by cases h)
  intro x h1
  cases x
  · (try simp only [qd, ne_eq] at h1)
    simp only [qz]
    have hb8 := betB_false h1
    clear h1
    refine rf_not rfl rfl rfl ?_
    simp only [qz]
    refine rg_move ?_
    simp only [qz]
    refine rg_skip (by rfl) ?_
    simp only [qz]
    refine rg_skip_h (by rfl) (fun _ h => by cases h) ?_
    simp only [qz]
    refine rg_skip (by rfl) ?_
    simp only [qz]
    refine rf_pick rfl rfl rfl ?_
    simp only [qz]
    refine rg_nil (ek_next (wk_cond_t rfl (wk_seq ?_)))
    refine wk_region [0, 0] rfl (by kernel_rfl) ?_
    simp only [qy]
    refine rg_assign ?_
    simp only [qz]
    refine rg_assign ?_
    simp only [qz]
    refine rg_nil (ek_next (wk_ret (ek_then_ret ?_)))
    refine ek_ret (fun w hw => ⟨rfl, _, res_tt _ _ rfl, ?_⟩)
    (try simp only [qz])
    obtain ⟨e1, e2⟩ := sw_no (at_ := k) (n := n) (by omega)
    rw [e1, e2]
    exact ⟨.slice none 0 0, [], rfl, OwnT.nil, .nil hw.below⟩
  (try simp only [qd, ne_eq] at h1)
  simp only [qz]
  have hb8 := betB_true h1
  clear h1
  refine rf_not rfl rfl rfl ?_
  simp only [qz]
  refine rg_move ?_
  simp only [qz]
  apply rg_soft_g
  case hg => rfl
  case hy => (intro w hw; go_simp; (try go_bits); exact Yld.mk _ _)
  simp only [qz]
  apply rg_pureb (by rfl) (by kernel_rfl)
  case hargs => (simp only [qm, qs, Act.eval]; exact rfl)
  case h => exact fun w hw => between_any 0 n 7 w
  case hz => exact (fun _ h => by cases h)
  intro x h2
  cases x
  · (try simp only [qd, ne_eq] at h2)
    simp only [qz]
    have hb12 := betB_false h2
    clear h2
    refine rf_not rfl rfl rfl ?_
    simp only [qz]
    refine rf_pick rfl rfl rfl ?_
    simp only [qz]
    refine rg_nil (ek_next (wk_cond_t rfl (wk_seq ?_)))
    refine wk_region [0, 0] rfl (by kernel_rfl) ?_
    simp only [qy]
    refine rg_assign ?_
    simp only [qz]
    refine rg_assign ?_
    simp only [qz]
    refine rg_nil (ek_next (wk_ret (ek_then_ret ?_)))
    refine ek_ret (fun w hw => ⟨rfl, _, res_tt _ _ rfl, ?_⟩)
    (try simp only [qz])
    obtain ⟨e1, e2⟩ := sw_no (at_ := k) (n := n) (by omega)
    rw [e1, e2]
    exact ⟨.slice none 0 0, [], rfl, OwnT.nil, .nil hw.below⟩
  (try simp only [qd, ne_eq] at h2)
  simp only [qz]
  have hb12 := betB_true h2
  clear h2
  refine rf_not rfl rfl rfl ?_
  simp only [qz]
  refine rf_pick rfl rfl rfl ?_
  simp only [qz]
  refine rg_nil (ek_next (wk_cond_f rfl (wk_skip (ek_next (wk_seq ?_)))))
  refine wk_region [0, 0, 1, 1] rfl (by kernel_rfl) ?_
  simp only [qy]
  refine rg_move ?_
  simp only [qz]
  refine rf_build (cs := fun a => #[a.eval (.const (.int .i64 2)), a.eval (.tmp 15), .int .i64 0, .string ⟨#[]⟩]) rfl rfl (by kernel_rfl) ?_
  simp only [qz]
  refine rg_new (cs := ?_) (ty := ?_) (by rfl) (fun w => ?_) (fun _ h => by cases h) (fun g1 => ?_); rotate_left 2
  focus (go_simp; rfl)
  simp only [qz]
  refine rf_storeR (n := 4) rfl rfl (by kernel_rfl) rfl rfl (UpdR.here _ _ _ (Nat.le_of_ble_eq_true rfl)) (fun _ h => by cases h) ?_
  simp only [qz, Nat.reduceAdd]
  refine rg_nil (ek_next (wk_seq (wk_seq ?_)))
  refine wk_region [0, 0] rfl (by kernel_rfl) ?_
  simp only [qy]
  refine rg_move ?_
  simp only [qz]
  refine rfb_eql rfl rfl rfl rfl ?_
  intro x h3
  cases x
  · (try simp only [qd, ne_eq] at h3)
    simp only [qz]
    refine rg_nil (ek_next (wk_cond_f rfl (wk_skip (ek_next (wk_seq ?_)))))
    refine wk_region [0, 0, 0, 0, 0, 1, 0, 0] rfl (by kernel_rfl) ?_
    simp only [qy]
    refine rf_loadR (n := 4) rfl rfl rfl Try.underlying80 rfl (by kernel_rfl) (fun w hw => Kn.hd0 hw) rfl rfl ?_
    simp only [qz]
    refine rg_move ?_
    simp only [qz]
    refine rg_move ?_
    simp only [qz]
    refine rf_build (cs := fun a => #[a.eval (.const (.int .i64 1)), a.eval (.tmp 23), a.eval (.tmp 24), .string ⟨#[]⟩]) rfl rfl (by kernel_rfl) ?_
    simp only [qz]
    refine rf_loadR (n := 4) rfl rfl rfl Try.underlying80 rfl (by kernel_rfl) (fun w hw => Kn.hd0 hw) rfl rfl ?_
    simp only [qz]
    refine rg_newS (cs := ?_) (ty := ?_) (n := 3) (c := 3) (by rfl) (fun w => ?_) (fun _ h => by cases h) (fun g2 => ?_); rotate_left 2
    focus (go_simp; rfl)
    simp only [qz]
    refine rg_assign ?_
    simp only [qz]
    refine rg_assign ?_
    simp only [qz]
    refine rg_nil (ek_next (wk_ret ?_))
    refine ek_ret (fun w hw => ⟨rfl, _, res_tt _ _ rfl, ?_⟩)
    (try simp only [qz])
    obtain ⟨e1, e2⟩ := sw_yes (at_ := k) (n := n) (by omega)
    rw [e1, e2, show swI k n = [cplI k, phsI k n, cplI k] by unfold swI; rw [if_neg (by omega)]]
    exact ⟨_, _, rfl, OwnT.wholeI (g := g2) (L := [cplI k, phsI k n, cplI k]) (by simp), hw.made (sc _ (sk _ sn))⟩
  (try simp only [qd, ne_eq] at h3)
  simp only [qz]
  refine rg_nil (ek_next (wk_cond_t rfl (wk_seq ?_)))
  refine wk_region [0, 0, 1, 0, 0] rfl (by kernel_rfl) ?_
  simp only [qy]
  refine rf_loadR (n := 4) rfl rfl rfl Try.underlying80 rfl (by kernel_rfl) (fun w hw => Kn.hd0 hw) rfl rfl ?_
  simp only [qz]
  refine rf_loadR (n := 4) rfl rfl rfl Try.underlying80 rfl (by kernel_rfl) (fun w hw => Kn.hd0 hw) rfl rfl ?_
  simp only [qz]
  refine rg_newS (cs := ?_) (ty := ?_) (n := 2) (c := 2) (by rfl) (fun w => ?_) (fun _ h => by cases h) (fun g3 => ?_); rotate_left 2
  focus (go_simp; rfl)
  simp only [qz]
  refine rg_assign ?_
  simp only [qz]
  refine rg_assign ?_
  simp only [qz]
  refine rg_nil (ek_next (wk_ret (ek_then_ret ?_)))
  refine ek_ret (fun w hw => ⟨rfl, _, res_tt _ _ rfl, ?_⟩)
  (try simp only [qz])
  obtain ⟨e1, e2⟩ := sw_yes (at_ := k) (n := n) (by omega)
  rw [e1, e2, show swI k n = [cplI k, cplI k] by unfold swI; rw [if_pos (by omega)]]
  exact ⟨_, _, rfl, OwnT.wholeI (g := g3) (L := [cplI k, cplI k]) (by simp), hw.made (sc _ (sk _ sn))⟩

set_option maxRecDepth 100000 in
set_option maxHeartbeats 1000000 in
theorem rswitch_any (k n : Int) (w : World) : Calls Try.prog 26 #[.int .i64 k, .int .i64 n] w fun e w' => RetS w (swL k n) (swE k n) e w' := by
  go_enter Try.func26, Try.ntmps26
  refine wk_start ?_
  refine wk_seq ?_
  refine wk_region [0, 0] rfl (by kernel_rfl) ?_
  simp only [qy]
  refine rg_assign ?_
  simp only [qz]
  refine rg_assign ?_
  simp only [qz]
  refine rg_nil (ek_next (wk_seq (wk_seq ?_)))
  refine wk_region [0, 0, 0, 0, 0, 0, 0, 0, 0, 0, 0, 0, 0, 0] rfl (by kernel_rfl) ?_
  simp only [qy]
  refine rg_move ?_
  simp only [qz]
  refine rfb_lss rfl rfl rfl rfl ?_
  intro x h1
  cases x
  · (try simp only [qd, ne_eq] at h1)
    simp only [qz]
    refine rg_move ?_
    simp only [qz]
    apply rg_soft_g
    case hg => rfl
    case hy => (intro w hw; go_simp; (try go_bits); exact Yld.mk _ _)
    simp only [qz]
    refine rfb_geq rfl rfl rfl rfl ?_
    intro x h2
    cases x
    · (try simp only [qd, ne_eq] at h2)
      simp only [qz]
      refine rf_pick rfl rfl rfl ?_
      simp only [qz]
      refine rg_move ?_
      simp only [qz]
      apply rg_soft_g
      case hg => rfl
      case hy => (intro w hw; go_simp; (try go_bits); exact Yld.mk _ _)
      simp only [qz]
      refine rfb_lss rfl rfl rfl rfl ?_
      intro x h3
      cases x
      · (try simp only [qd, ne_eq] at h3)
        simp only [qz]
        refine rf_pick rfl rfl rfl ?_
        simp only [qz]
        refine rg_move ?_
        simp only [qz]
        apply rg_soft_g
        case hg => rfl
        case hy => (intro w hw; go_simp; (try go_bits); exact Yld.mk _ _)
        simp only [qz]
        refine rfb_gtr rfl rfl rfl rfl ?_
        intro x h4
        cases x
        · (try simp only [qd, ne_eq] at h4)
          simp only [qz]
          refine rf_pick rfl rfl rfl ?_
          simp only [qz]
          refine rg_nil (ek_next (wk_cond_f rfl (wk_skip (ek_next (wk_seq ?_)))))
          refine wk_region [0, 0, 1, 0] rfl (by kernel_rfl) ?_
          simp only [qy]
          refine rg_move ?_
          simp only [qz]
          refine rf_build (cs := fun a => #[a.eval (.const (.int .i64 2)), a.eval (.tmp 21), .int .i64 0, .string ⟨#[]⟩]) rfl rfl (by kernel_rfl) ?_
          simp only [qz]
          refine rg_newS (cs := ?_) (ty := ?_) (n := 1) (c := 1) (by rfl) (fun w => ?_) (fun _ h => by cases h) (fun g1 => ?_); rotate_left 2
          focus (go_simp; rfl)
          simp only [qz]
          refine rg_assign ?_
          simp only [qz]
          refine rg_nil (ek_next (wk_seq (wk_seq ?_)))
          refine wk_region [0, 0] rfl (by kernel_rfl) ?_
          simp only [qy]
          refine rg_move ?_
          simp only [qz]
          refine rfb_gtr rfl rfl rfl rfl ?_
          intro x h5
          cases x
          · (try simp only [qd, ne_eq] at h5)
            simp only [qz]
            refine rg_nil (ek_next (wk_cond_f rfl (wk_skip (ek_next (wk_seq ?_)))))
            refine wk_region [0, 0, 0, 1, 1, 0, 0] rfl (by kernel_rfl) ?_
            simp only [qy]
            refine rg_move ?_
            simp only [qz]
            refine rg_move ?_
            simp only [qz]
            refine rf_build (cs := fun a => #[a.eval (.const (.int .i64 2)), a.eval (.tmp 33), .int .i64 0, .string ⟨#[]⟩]) rfl rfl (by kernel_rfl) ?_
            simp only [qz]
            refine rg_newS (cs := ?_) (ty := ?_) (n := 1) (c := 1) (by rfl) (fun w => ?_) (fun _ h => by cases h) (fun g2 => ?_); rotate_left 2
            focus (go_simp; rfl)
            simp only [qz]
            have hOa := OwnT.wholeI (g := g1) (L := [cplI k]) (by simp)
            refine rg_appendT (u := [_]) (xs := [cplI k]) (x := cplI k) (by rfl) rfl hOa rfl (by simp) (List.Perm.swap _ _ _) (fun w hw => Kn.hd0 hw) (fun _ h => by cases h) (fun uQ1 vQ1 hOQ1 => ?_)
            obtain ⟨aQ1, cQ1, rfl, -⟩ := Own.val hOQ1
            simp only [qz]
            refine rg_assign ?_
            simp only [qz]
            refine rg_assign ?_
            simp only [qz]
            refine rg_nil (ek_next (wk_ret ?_))
            refine ek_ret (fun w hw => ⟨rfl, _, res_tt _ _ rfl, ?_⟩)
            (try simp only [qz])
            obtain ⟨e1, e2⟩ := sw_yes (at_ := k) (n := n) (by omega)
            rw [e1, e2, show swI k n = [cplI k] ++ [cplI k] by unfold swI; rw [if_pos (by omega)]; rfl]
            exact ⟨_, uQ1, rfl, hOQ1, hw.made (List.sublist_append_left _ _)⟩
          (try simp only [qd, ne_eq] at h5)
          simp only [qz]
          refine rg_nil (ek_next (wk_cond_t rfl ?_))
          refine wk_region [0, 0, 0, 0, 1, 1, 0] rfl (by kernel_rfl) ?_
          simp only [qy]
          refine rg_move ?_
          simp only [qz]
          refine rg_move ?_
          simp only [qz]
          refine rg_move ?_
          simp only [qz]
          refine rf_build (cs := fun a => #[a.eval (.const (.int .i64 1)), a.eval (.tmp 27), a.eval (.tmp 28), .string ⟨#[]⟩]) rfl rfl (by kernel_rfl) ?_
          simp only [qz]
          refine rg_newS (cs := ?_) (ty := ?_) (n := 1) (c := 1) (by rfl) (fun w => ?_) (fun _ h => by cases h) (fun g3 => ?_); rotate_left 2
          focus (go_simp; rfl)
          simp only [qz]
          have hOa := OwnT.wholeI (g := g1) (L := [cplI k]) (by simp)
          refine rg_appendT (u := [_]) (xs := [cplI k]) (x := phsI k n) (by rfl) rfl hOa rfl (by simp) (List.Perm.swap _ _ _) (fun w hw => Kn.hd0 hw) (fun _ h => by cases h) (fun uQ1 vQ1 hOQ1 => ?_)
          obtain ⟨aQ1, cQ1, rfl, -⟩ := Own.val hOQ1
          simp only [qz]
          refine rg_assign ?_
          simp only [qz]
          refine rg_nil (ek_next (wk_seq ?_))
          refine wk_region [0, 0, 0, 1, 1, 0, 0] rfl (by kernel_rfl) ?_
          simp only [qy]
          refine rg_move ?_
          simp only [qz]
          refine rg_move ?_
          simp only [qz]
          refine rf_build (cs := fun a => #[a.eval (.const (.int .i64 2)), a.eval (.tmp 33), .int .i64 0, .string ⟨#[]⟩]) rfl rfl (by kernel_rfl) ?_
          simp only [qz]
          refine rg_newS (cs := ?_) (ty := ?_) (n := 1) (c := 1) (by rfl) (fun w => ?_) (fun _ h => by cases h) (fun g4 => ?_); rotate_left 2
          focus (go_simp; rfl)
          simp only [qz]
          refine rg_appendT (xs := [cplI k] ++ [phsI k n]) (x := cplI k) (by rfl) rfl hOQ1 rfl (by simp) (perm_atU (l := [_]) (u := uQ1) (List.Perm.refl _)) (fun w hw => Kn.hd0 hw) (fun _ h => by cases h) (fun uQ2 vQ2 hOQ2 => ?_)
          obtain ⟨aQ2, cQ2, rfl, -⟩ := Own.val hOQ2
          simp only [qz]
          refine rg_assign ?_
          simp only [qz]
          refine rg_assign ?_
          simp only [qz]
          refine rg_nil (ek_next (wk_ret ?_))
          refine ek_ret (fun w hw => ⟨rfl, _, res_tt _ _ rfl, ?_⟩)
          (try simp only [qz])
          obtain ⟨e1, e2⟩ := sw_yes (at_ := k) (n := n) (by omega)
          rw [e1, e2, show swI k n = [cplI k] ++ [phsI k n] ++ [cplI k] by unfold swI; rw [if_neg (by omega)]; rfl]
          exact ⟨_, uQ2, rfl, hOQ2, hw.made (List.sublist_append_left _ _)⟩
        (try simp only [qd, ne_eq] at h4)
        simp only [qz]
        refine rf_pick rfl rfl rfl ?_
        simp only [qz]
        refine rg_nil (ek_next (wk_cond_t rfl (wk_seq ?_)))
        refine wk_region [0, 0] rfl (by kernel_rfl) ?_
        simp only [qy]
        refine rg_assign ?_
        simp only [qz]
        refine rg_assign ?_
        simp only [qz]
        refine rg_nil (ek_next (wk_ret (ek_then_ret ?_)))
        refine ek_ret (fun w hw => ⟨rfl, _, res_tt _ _ rfl, ?_⟩)
        (try simp only [qz])
        obtain ⟨e1, e2⟩ := sw_no (at_ := k) (n := n) (by omega)
        rw [e1, e2]
        exact ⟨.slice none 0 0, [], rfl, OwnT.nil, .nil hw.below⟩
      (try simp only [qd, ne_eq] at h3)
      simp only [qz]
      refine rf_pick rfl rfl rfl ?_
      simp only [qz]
      refine rg_move ?_
      simp only [qz]
      refine rg_skip (by rfl) ?_
      simp only [qz]
      refine rg_skip (by rfl) ?_
      simp only [qz]
      refine rf_pick rfl rfl rfl ?_
      simp only [qz]
      refine rg_nil (ek_next (wk_cond_t rfl (wk_seq ?_)))
      refine wk_region [0, 0] rfl (by kernel_rfl) ?_
      simp only [qy]
      refine rg_assign ?_
      simp only [qz]
      refine rg_assign ?_
      simp only [qz]
      refine rg_nil (ek_next (wk_ret (ek_then_ret ?_)))
      refine ek_ret (fun w hw => ⟨rfl, _, res_tt _ _ rfl, ?_⟩)
      (try simp only [qz])
      obtain ⟨e1, e2⟩ := sw_no (at_ := k) (n := n) (by omega)
      rw [e1, e2]
      exact ⟨.slice none 0 0, [], rfl, OwnT.nil, .nil hw.below⟩
    (try simp only [qd, ne_eq] at h2)
    simp only [qz]
    refine rf_pick rfl rfl rfl ?_
    simp only [qz]
    refine rg_move ?_
    simp only [qz]
    refine rg_skip (by rfl) ?_
    simp only [qz]
    refine rg_skip (by rfl) ?_
    simp only [qz]
    refine rf_pick rfl rfl rfl ?_
    simp only [qz]
    refine rg_move ?_
    simp only [qz]
    refine rg_skip (by rfl) ?_
    simp only [qz]
    refine rg_skip (by rfl) ?_
    simp only [qz]
    refine rf_pick rfl rfl rfl ?_
    simp only [qz]
    refine rg_nil (ek_next (wk_cond_t rfl (wk_seq ?_)))
    refine wk_region [0, 0] rfl (by kernel_rfl) ?_
    simp only [qy]
    refine rg_assign ?_
    simp only [qz]
    refine rg_assign ?_
    simp only [qz]
    refine rg_nil (ek_next (wk_ret (ek_then_ret ?_)))
    refine ek_ret (fun w hw => ⟨rfl, _, res_tt _ _ rfl, ?_⟩)
    (try simp only [qz])
    obtain ⟨e1, e2⟩ := sw_no (at_ := k) (n := n) (by omega)
    rw [e1, e2]
    exact ⟨.slice none 0 0, [], rfl, OwnT.nil, .nil hw.below⟩
  (try simp only [qd, ne_eq] at h1)
  simp only [qz]
  refine rg_move ?_
  simp only [qz]
  refine rg_skip (by rfl) ?_
  simp only [qz]
  refine rg_skip (by rfl) ?_
  simp only [qz]
  refine rf_pick rfl rfl rfl ?_
  simp only [qz]
  refine rg_move ?_
  simp only [qz]
  refine rg_skip (by rfl) ?_
  simp only [qz]
  refine rg_skip (by rfl) ?_
  simp only [qz]
  refine rf_pick rfl rfl rfl ?_
  simp only [qz]
  refine rg_move ?_
  simp only [qz]
  refine rg_skip (by rfl) ?_
  simp only [qz]
  refine rg_skip (by rfl) ?_
  simp only [qz]
  refine rf_pick rfl rfl rfl ?_
  simp only [qz]
  refine rg_nil (ek_next (wk_cond_t rfl (wk_seq ?_)))
  refine wk_region [0, 0] rfl (by kernel_rfl) ?_
  simp only [qy]
  refine rg_assign ?_
  simp only [qz]
  refine rg_assign ?_
  simp only [qz]
  refine rg_nil (ek_next (wk_ret (ek_then_ret ?_)))
  refine ek_ret (fun w hw => ⟨rfl, _, res_tt _ _ rfl, ?_⟩)
  (try simp only [qz])
  obtain ⟨e1, e2⟩ := sw_no (at_ := k) (n := n) (by omega)
  rw [e1, e2]
  exact ⟨.slice none 0 0, [], rfl, OwnT.nil, .nil hw.below⟩

set_option maxRecDepth 100000 in
set_option maxHeartbeats 1000000 in
theorem sameItems_eq (xs : List It) (a a' : Option Addr) (c c' : Nat) (hl : xs.length ≤ 1000000) (w : World) (hA : AS w a (its xs)) (hB : AS w a' (its xs)) : Calls Try.prog 29 #[.slice a xs.length c, .slice a' xs.length c'] w fun e w' => e = .returned (.bool true) ∧ Below w.heap.size w w' := by
  go_enter Try.func29, Try.ntmps29
  refine wk_start ?_
  refine wk_seq ?_
  refine wk_region [0] rfl (by kernel_rfl) ?_
  simp only [qy]
  refine rg_assign ?_
  simp only [qz]
  refine rg_nil (ek_next (wk_seq (wk_seq ?_)))
  refine wk_region [0, 0, 0, 0, 0] rfl (by kernel_rfl) ?_
  simp only [qy]
  refine rg_move ?_
  simp only [qz]
  refine rf_len rfl rfl rfl Try.underlying32 ?_
  simp only [qz]
  refine rg_move ?_
  simp only [qz]
  refine rf_len rfl rfl rfl Try.underlying32 ?_
  simp only [qz]
  refine rfb_neq rfl rfl rfl rfl ?_
  intro x h1
  obtain rfl : x = false := by (refine h1.symm.trans ?_; exact decide_eq_false (by omega))
  clear h1
  simp only [qz]
  refine rg_nil (ek_next (wk_cond_f rfl (wk_skip (ek_next (wk_seq (wk_seq ?_))))))
  refine wk_region [0] rfl (by kernel_rfl) ?_
  simp only [qy]
  refine rg_assign ?_
  simp only [qz]
  refine rg_nil (ek_next (wk_block ?_))
  refine wk_loopF [4, 5, 11, 12, 13, 14, 15, 16, 17, 18, 19, 20, 21, 22, 23, 24, 25] (fun mz f s => ∃ (i : Nat), f 5 = .int .i64 i ∧ s = [] ∧ mz = xs.length - i ∧ i ≤ xs.length) ((fun (i : Nat) => xs.length - i) (0)) ?_ (by kernel_rfl) ?_
  · exact ⟨0, rfl, rfl, rfl, by omega⟩
  rintro mz f1 s ⟨i, hs1_5, rfl, hn, hd1⟩
  simp only [Act.putF, List.foldl_cons, List.foldl_nil, hs1_5, Act.put, Act.eval, q1, q2, q3, q4, q5, q6, q7, q8, q9, q10, q11, q12, q13, q14, q15, q16, q17, q18, Nat.reduceAdd, Bool.not_true, Bool.not_false]
  clear hs1_5
  refine wk_seq (wk_seq ?_)
  refine wk_region [0, 0, 0, 0] rfl (by kernel_rfl) ?_
  simp only [qy]
  refine rg_move ?_
  simp only [qz]
  refine rg_move ?_
  simp only [qz]
  refine rf_len rfl rfl rfl Try.underlying32 ?_
  simp only [qz]
  refine rfb_lss rfl rfl rfl rfl ?_
  intro x h2
  cases x
  · (try simp only [qd, ne_eq] at h2)
    simp only [qz]
    refine rg_nil (ek_next (wk_cond_f rfl (wk_exit (ek_then_exit (ek_then_exit (ek_block_exit (ek_next (wk_seq ?_))))))))
    refine wk_region [0] rfl (by kernel_rfl) ?_
    simp only [qy]
    refine rg_assign ?_
    simp only [qz]
    refine rg_nil (ek_next (wk_ret ?_))
    refine ek_ret (fun w hw => ⟨rfl, _, res_t _ rfl, ?_⟩)
    (try simp only [qz])
    first | exact ⟨rfl, hw.below⟩ | exact ⟨trivial, hw.below⟩ | exact hw.below
  (try simp only [qd, ne_eq] at h2)
  simp only [qz]
  refine rg_nil (ek_next (wk_cond_t rfl (wk_skip (ek_next (wk_seq (wk_block (wk_seq ?_)))))))
  obtain ⟨b, off, rfl, hlt, hcell⟩ := AS.openT hA (by omega)
  obtain ⟨b', off', rfl, hlt', hcell'⟩ := AS.openT hB (by omega)
  refine wk_draws _ _ [(0, 0), (1, 0), (2, 0), (3, 0), (4, 0), (5, 0), (6, 0), (7, 0), (8, 0)] [] (by kernel_rfl) (by kernel_rfl) (fun c d v a w h => by cases d <;> exact h) (sn) (fun e => by first | exact absurd e (by decide) | rfl) ?_
  simp only [List.map_cons, List.map_nil, List.getD_cons_zero, List.getD_cons_succ]
  refine rg_move ?_
  simp only [qz]
  refine rg_move ?_
  simp only [qz]
  refine rf_indexS (n := i) (sz := 4) (j := off + i * 4) rfl rfl rfl rfl Try.underlying32 (by kernel_rfl) (by omega) (by omega) rfl ?_
  simp only [qz]
  refine rf_loadC (n := 4) (vs := itC (it xs i)) rfl rfl rfl Try.underlying80 rfl (by kernel_rfl) rfl (fun w hw => itAt_range ((hcell i (by omega)).kn hw hlt (by simp))) ?_
  simp only [qz]
  refine rg_move ?_
  simp only [qz]
  refine rg_move ?_
  simp only [qz]
  refine rf_indexS (n := i) (sz := 4) (j := off' + i * 4) rfl rfl rfl rfl Try.underlying32 (by kernel_rfl) (by omega) (by omega) rfl ?_
  simp only [qz]
  refine rf_loadC (n := 4) (vs := itC (it xs i)) rfl rfl rfl Try.underlying80 rfl (by kernel_rfl) rfl (fun w hw => itAt_range ((hcell' i (by omega)).kn hw hlt' (by simp))) ?_
  simp only [qz]
  refine rf_neT (it xs i) rfl rfl rfl rfl ?_
  simp only [qz]
  refine rg_nil (ek_next (wk_cond_f rfl (wk_skip (ek_block (ek_next ?_)))))
  refine wk_region [0, 0, 0] rfl (by kernel_rfl) ?_
  simp only [qy]
  refine rg_move ?_
  simp only [qz]
  refine rf_add rfl rfl rfl rfl (wrap_ok (by omega) (by omega)) ?_
  simp only [qz]
  refine rg_assign ?_
  simp only [qz]
  refine rg_nil ?_
  refine ek_roundF (xs.length - (i + 1)) (by omega) (by kernel_rfl) ?_
  exact ⟨i + 1, rfl, by rfl, by rfl, (by omega)⟩

end Go.Proofs.Ytccbinnlnkpplaa
namespace Go.Proofs.Ytccbinnlnkpplaa
set_option linter.all false
open Go.RowKit

theorem CrL.bad {xs : List Int} (h : crE xs ≠ 0) : CrL xs [] := by unfold CrL; rw [if_neg h]
theorem CrL.ok {xs : List Int} {ys : List Nat} {l : List Int} (h : crE xs = 0) (hE : Ex xs ys l) (hs : ∀ j, j + 1 < l.length → ix l j < ix l (j + 1)) : CrL xs (ys.map cross) := by
  unfold CrL; rw [if_pos h]; exact ⟨ys, l, hE, hs, rfl⟩
theorem permB_no {xs : List Int} (h : permB xs = false) : crE xs = 40 := crE_no (not_perm_of h)
theorem permB_lim {xs : List Int} (h : permB xs = true) (h6 : ¬ xs.length ≤ 6) : crE xs = 4 := crE_lim (perm_of h) h6
theorem permB_yes {xs : List Int} (h : permB xs = true) (h6 : xs.length ≤ 6) : Perm xs ∧ crE xs = 0 := ⟨perm_of h, crE_yes (perm_of h) h6⟩
section
variable {R : Option Nat} {ops : Array Oper} {Q : Exit → Act → World → Prop} {B : World} {F : List Nat} {s0 : Option (List Blk × List Blk)}
variable {l : List (Oper × Nat)} {a : Act} {s S : List Blk} {d : Option Tmp} {op : Op} {t : TypeId} {p : String} {af : Array Edge} {v : Value}
theorem rg_retL {T : List It → Prop} {f : Nat} {cargs : Array Operand} {at_ : Array TypeId} {args : Array Value} {cc : Int} {P : Program} {gd : Option (Nat × Bool)} (hg : Region.wanted ⟨d, .call ⟨.value (.func f), cargs, at_⟩, t, p, af, gd⟩ (yielded ops a.tmps) = true) (hgo : isGo P f = true)
    (h : ∀ w, Kn B F s w → Calls P f args w fun e w' => ∃ L, T L ∧ RetS w L cc e w') (hargs : cargs.map a.eval = args)
    (hz : ∀ z ∈ s0, z.1.Sublist s) (k : ∀ (L : List It) (va : Option Addr) (vc : Nat) (u : List Blk), T L → OwnT u (.slice va L.length vc) L → Rg R P ops Q B F s0 l (a.put d (.tuple #[.slice va L.length vc, .int .i64 cc])) (u ++ s)) :
    Rg R P ops Q B F s0 ((⟨d, .call ⟨.value (.func f), cargs, at_⟩, t, p, af, gd⟩, 1) :: l) a s :=
  rg_call hg hgo hargs fun w K => (h w K).mono fun e w' ⟨L, hT, v, u, he, hO, hm⟩ => by
    obtain ⟨a', c', rfl, -⟩ := Own.val hO
    exact ⟨_, u ++ s, he, K.add hm, fun z hz' => (hz z hz').trans (List.sublist_append_right _ _), k L a' c' u hT hO⟩
end
set_option maxRecDepth 100000 in
set_option maxHeartbeats 1000000 in
theorem mcross_bad (xs : List Int) (a : Option Addr) (c : Nat) (hl : xs.length ≤ 1000) (hbad : crE xs ≠ 0) (w : World) (hA : AS w a (ints xs)) : Calls Try.prog 32 #[.slice a xs.length c] w fun e w' => RetS w [] (crE xs) e w' := by
  refine calls_marks Try.func32 rfl ?_
  simp only [Try.ntmps32, List.size_toArray, List.length_cons, List.length_nil, Nat.reduceAdd, Nat.reduceSub, Array.replicate_succ, Array.replicate_zero, List.push_toArray, List.append_toArray, List.nil_append, List.cons_append]
  refine wk_seq ?_
  refine wk_region [0, 0] rfl (by kernel_rfl) ?_
  simp only [qy]
  refine rg_assign ?_
  simp only [qz]
  refine rg_assign ?_
  simp only [qz]
  refine rg_nil (ek_next (wk_seq (wk_block (wk_seq ?_))))
  refine wk_region [0, 1, 0, 0] rfl (by kernel_rfl) ?_
  simp only [qy]
  refine rg_move ?_
  simp only [qz]
  apply rg_pureb (by rfl) (by kernel_rfl)
  case hargs => (simp only [qm, qs, Act.eval]; exact rfl)
  case h => exact fun w hw => valid_any xs a c hl w (hA.kn0 hw)
  case hz => exact (fun _ h => by cases h)
  intro x h1
  cases x
  · (try simp only [qd, ne_eq] at h1)
    simp only [qz]
    refine rf_not rfl rfl rfl ?_
    simp only [qz]
    refine rg_assign ?_
    simp only [qz]
    refine rg_nil (ek_next (wk_cond_t rfl (wk_seq ?_)))
    refine wk_region [0, 0] rfl (by kernel_rfl) ?_
    simp only [qy]
    refine rg_assign ?_
    simp only [qz]
    refine rg_assign ?_
    simp only [qz]
    refine rg_nil (ek_next (wk_ret (ek_block_ret (ek_then_ret ?_))))
    refine ek_retM0 (fun w hw => ⟨_, res_tt _ _ rfl, ?_⟩)
    (try simp only [qz])
    rw [permB_no h1]
    exact ⟨.slice none 0 0, [], rfl, OwnT.nil, .nil hw.below⟩
  (try simp only [qd, ne_eq] at h1)
  simp only [qz]
  refine rf_not rfl rfl rfl ?_
  simp only [qz]
  refine rg_assign ?_
  simp only [qz]
  refine rg_nil (ek_next (wk_cond_f rfl (wk_seq ?_)))
  refine wk_region [0, 0, 0, 0] rfl (by kernel_rfl) ?_
  simp only [qy]
  refine rg_move ?_
  simp only [qz]
  refine rf_len rfl rfl rfl Try.underlying22 ?_
  simp only [qz]
  refine rfb_gtr rfl rfl rfl rfl ?_
  intro x h2
  cases x
  · (try simp only [qd, ne_eq] at h2)
    simp only [qz]
    exact absurd (permB_yes h1 (by omega)).2 hbad
  (try simp only [qd, ne_eq] at h2)
  simp only [qz]
  refine rg_assign ?_
  simp only [qz]
  refine rg_nil (ek_next (wk_cond_t rfl (wk_seq ?_)))
  refine wk_region [0, 0] rfl (by kernel_rfl) ?_
  simp only [qy]
  refine rg_assign ?_
  simp only [qz]
  refine rg_assign ?_
  simp only [qz]
  refine rg_nil (ek_next (wk_ret (ek_block_ret (ek_then_ret ?_))))
  refine ek_retM0 (fun w hw => ⟨_, res_tt _ _ rfl, ?_⟩)
  (try simp only [qz])
  rw [permB_lim h1 (by omega)]
  exact ⟨.slice none 0 0, [], rfl, OwnT.nil, .nil hw.below⟩

theorem mcross_any (xs : List Int) (a : Option Addr) (c : Nat) (hl : xs.length ≤ 1000) (w : World) (hA : AS w a (ints xs)) : Calls Try.prog 32 #[.slice a xs.length c] w fun e w' => ∃ L, CrL xs L ∧ RetS w L (crE xs) e w' := by
  by_cases h : crE xs = 0
  · obtain ⟨hp, h6⟩ := crE_zero h
    refine (crossings_yes xs a c hl h6 hp w hA).mono fun e w' ⟨v, u, zs, he, hO, ⟨ys, l, hE, hs, hz⟩, hm⟩ => ?_
    subst hz
    exact ⟨_, CrL.ok h hE hs, v, u, by rw [h]; exact he, hO, hm⟩
  exact (mcross_bad xs a c hl h w hA).mono fun e w' hr => ⟨[], CrL.bad h, hr⟩
set_option maxRecDepth 100000 in
set_option maxHeartbeats 1000000 in
theorem rcross_any (xs : List Int) (a : Option Addr) (c : Nat) (hl : xs.length ≤ 1000) (w : World) (hA : AS w a (ints xs)) : Calls Try.prog 33 #[.slice a xs.length c] w fun e w' => ∃ L, CrL xs L ∧ RetS w L (crE xs) e w' := by
  go_enter Try.func33, Try.ntmps33
  refine wk_start ?_
  refine wk_seq ?_
  refine wk_region [0, 0] rfl (by kernel_rfl) ?_
  simp only [qy]
  refine rg_assign ?_
  simp only [qz]
  refine rg_assign ?_
  simp only [qz]
  refine rg_nil (ek_next (wk_seq (wk_seq ?_)))
  refine wk_region [0, 1, 0] rfl (by kernel_rfl) ?_
  simp only [qy]
  refine rg_move ?_
  simp only [qz]
  apply rg_pureb (by rfl) (by kernel_rfl)
  case hargs => (simp only [qm, qs, Act.eval]; exact rfl)
  case h => exact fun w hw => rvalid_any xs a c hl w (hA.kn0 hw)
  case hz => exact (fun _ h => by cases h)
  intro x h1
  cases x
  · (try simp only [qd, ne_eq] at h1)
    simp only [qz]
    refine rf_not rfl rfl rfl ?_
    simp only [qz]
    refine rg_nil (ek_next (wk_cond_t rfl (wk_seq ?_)))
    refine wk_region [0, 0] rfl (by kernel_rfl) ?_
    simp only [qy]
    refine rg_assign ?_
    simp only [qz]
    refine rg_assign ?_
    simp only [qz]
    refine rg_nil (ek_next (wk_ret (ek_then_ret ?_)))
    refine ek_ret (fun w hw => ⟨rfl, _, res_tt _ _ rfl, ?_⟩)
    (try simp only [qz])
    have hce := permB_no h1
    rw [hce]
    exact ⟨[], CrL.bad (by rw [hce]; decide), .slice none 0 0, [], rfl, OwnT.nil, .nil hw.below⟩
  (try simp only [qd, ne_eq] at h1)
  simp only [qz]
  refine rf_not rfl rfl rfl ?_
  simp only [qz]
  refine rg_nil (ek_next (wk_cond_f rfl (wk_skip (ek_next (wk_seq (wk_seq ?_))))))
  refine wk_region [0, 0, 0] rfl (by kernel_rfl) ?_
  simp only [qy]
  refine rg_move ?_
  simp only [qz]
  refine rf_len rfl rfl rfl Try.underlying22 ?_
  simp only [qz]
  refine rfb_gtr rfl rfl rfl rfl ?_
  intro x h2
  cases x
  · (try simp only [qd, ne_eq] at h2)
    simp only [qz]
    obtain ⟨hp, hce⟩ := permB_yes h1 (by omega)
    have h0 := hp.1
    obtain ⟨b, off, rfl, hlt, hcell⟩ := AS.open hA h0
    refine rg_nil (ek_next (wk_cond_f rfl (wk_skip (ek_next (wk_seq ?_)))))
    refine wk_region [1, 0, 1, 0] rfl (by kernel_rfl) ?_
    simp only [qy]
    refine rg_newS (cs := ?_) (ty := ?_) (n := 0) (c := 0) (by rfl) (fun w => ?_) (fun _ h => by cases h) (fun g1 => ?_); rotate_left 2
    focus (go_simp; rfl)
    simp only [qz]
    refine rg_move ?_
    simp only [qz]
    refine rg_appendL (u := [(g1, .cells (ints []).toArray 3)]) (s := []) (by rfl) rfl (OwnI.whole' rfl (by decide)) rfl (fun w K j hj => (Kn.cellB K hlt (by simp) _).trans (hcell j hj)) (by simp; omega) (List.Perm.refl _) (fun _ h => by cases h) (fun uP vP hOP => ?_)
    simp only [qz]
    obtain ⟨g, cap, rest, rfl, rfl⟩ := hOP.open (by simp; omega)
    (try simp only [List.nil_append, List.cons_append] at hOP)
    (try simp only [List.nil_append, List.cons_append])
    refine rg_assign ?_
    simp only [qz]
    refine rg_nil (ek_next (wk_seq ?_))
    refine wk_region [0] rfl (by kernel_rfl) ?_
    simp only [qy]
    refine rg_assign ?_
    simp only [qz]
    refine rg_nil (ek_next (wk_seq (wk_seq ?_)))
    refine wk_region [0] rfl (by kernel_rfl) ?_
    simp only [qy]
    refine rg_assign ?_
    simp only [qz]
    refine rg_nil (ek_next (wk_block ?_))
    refine wk_loopF [5, 6, 16, 17, 18, 19, 20, 21, 22, 23, 24, 25, 26, 27, 28, 29, 30, 31, 32, 33, 34, 35, 36, 37, 38, 39, 40, 41, 42, 43, 44, 45, 46, 47, 48, 49, 50, 51, 52, 53, 54] (fun mz f s => ∃ (k : Nat) (ys : List Nat) (l : List Int) (va : Option Addr) (m vc : Nat) (u : List Blk), f 5 = .slice va m vc ∧ f 6 = .int .i64 k ∧ s = (u ++ ((g, .cells (ints l ++ rest).toArray 3) :: [])) ∧ mz = invs l * 8 + (xs.length - k) ∧ k < xs.length ∧ Ex xs ys l ∧ Up l k ∧ Hid (ys.length = m) ∧ OwnT u (.slice va m vc) (ys.map cross)) ((fun (k : Nat) (ys : List Nat) (l : List Int) (va : Option Addr) (m vc : Nat) (u : List Blk) => invs l * 8 + (xs.length - k)) (0) ([]) (xs) (none) (0) (0) ([])) ?_ (by kernel_rfl) ?_
    · exact ⟨0, [], xs, none, 0, 0, [], rfl, rfl, rfl, rfl, h0, .start, (fun j hj => by omega), Lib.hid rfl, OwnT.nil⟩
    rintro mz f1 s ⟨k, ys, l, va, m, vc, u, hs1_5, hs1_6, rfl, hn, hd1, hd2, hd3, hd4, hd5⟩
    simp only [Act.putF, List.foldl_cons, List.foldl_nil, hs1_5, hs1_6, Act.put, Act.eval, q1, q2, q3, q4, q5, q6, q7, q8, q9, q10, q11, q12, q13, q14, q15, q16, q17, q18, Nat.reduceAdd, Bool.not_true, Bool.not_false]
    clear hs1_5 hs1_6
    have hE := hd2
    have hUp := hd3
    clear hd2 hd3
    have hyl : ys.length ≤ 2016 := by (have h1 := hE.invs; have h2 := invs_le xs hp.2.1; omega)
    refine wk_seq (wk_seq ?_)
    refine wk_region [0, 0, 0, 0, 0] rfl (by kernel_rfl) ?_
    simp only [qy]
    refine rg_move ?_
    simp only [qz]
    refine rf_add rfl rfl rfl rfl (wrap_ok (by omega) (by omega)) ?_
    simp only [qz]
    refine rg_move ?_
    simp only [qz]
    refine rf_len rfl rfl rfl Try.underlying22 ?_
    simp only [qz]
    refine rfb_lss rfl rfl rfl rfl ?_
    intro x h3
    cases x
    · (try simp only [qd, ne_eq] at h3)
      simp only [qz]
      refine rg_nil (ek_next (wk_cond_f rfl (wk_exit (ek_then_exit (ek_then_exit (ek_block_exit (ek_next (wk_seq ?_))))))))
      refine wk_region [0, 0, 0] rfl (by kernel_rfl) ?_
      simp only [qy]
      refine rg_move ?_
      simp only [qz]
      refine rg_assign ?_
      simp only [qz]
      refine rg_assign ?_
      simp only [qz]
      refine rg_nil (ek_next (wk_ret ?_))
      refine ek_ret (fun w hw => ⟨rfl, _, res_tt _ _ rfl, ?_⟩)
      (try simp only [qz])
      rw [hce]
      exact ⟨_, CrL.ok hce hE (fun j hj => hUp j (by rw [hE.len] at hj; omega)), _, u, rfl, hd5, hw.made (List.sublist_append_left _ _)⟩
    (try simp only [qd, ne_eq] at h3)
    simp only [qz]
    have hll := Lib.hid hE.len
    have hkk : k < l.length := by (have := hll.out; omega)
    have hk1 : k + 1 < l.length := by (have := hll.out; omega)
    refine rg_nil (ek_next (wk_cond_t rfl (wk_skip (ek_next (wk_block (wk_seq ?_))))))
    refine wk_draws _ _ [(0, 0), (1, 0), (2, 0), (3, 0), (4, 0), (5, 0), (6, 0), (7, 0), (8, 0), (9, 0)] [] (by kernel_rfl) (by kernel_rfl) (fun c d v a w h => by cases d <;> exact h) ((List.Sublist.append_left (sc _ sn) _)) (fun e => by first | exact absurd e (by decide) | rfl) ?_
    simp only [List.map_cons, List.map_nil, List.getD_cons_zero, List.getD_cons_succ]
    refine rg_move ?_
    simp only [qz]
    refine rg_move ?_
    simp only [qz]
    apply rg_soft
    case hy => (intro w hw; go_simp; (try go_bits); exact Yld.mk _ _)
    simp only [qz]
    apply rg_soft
    case hy => (intro w hw; (first | have hcg := fun i (hi : i < l.length) => row_cell (Kn.hd0 (Kn.tlU hw)) hi | have hcg := fun i (hi : i < l.length) => row_cell2 (Kn.hd0 (Kn.tlU hw)) hi); have hfg := (Kn.hd0 (Kn.tlU hw)).free; (try have hcg0 := hcg k (by omega)); (try have hcg1 := hcg (k + 1) (by omega)); clear hcg; go_simp; (try go_bits); exact Yld.mk _ _)
    simp only [qz]
    refine rg_move ?_
    simp only [qz]
    refine rg_move ?_
    simp only [qz]
    apply rg_soft
    case hy => (intro w hw; go_simp; (try go_bits); exact Yld.mk _ _)
    simp only [qz]
    apply rg_soft
    case hy => (intro w hw; go_simp; (try go_bits); exact Yld.mk _ _)
    simp only [qz]
    apply rg_soft
    case hy => (intro w hw; (first | have hcg := fun i (hi : i < l.length) => row_cell (Kn.hd0 (Kn.tlU hw)) hi | have hcg := fun i (hi : i < l.length) => row_cell2 (Kn.hd0 (Kn.tlU hw)) hi); have hfg := (Kn.hd0 (Kn.tlU hw)).free; (try have hcg0 := hcg k (by omega)); (try have hcg1 := hcg (k + 1) (by omega)); clear hcg; go_simp; (try go_bits); exact Yld.mk _ _)
    simp only [qz]
    apply rg_softb
    case hy => (intro w hw; go_simp; (try go_bits); exact Yld.mk _ _)
    intro x h4
    cases x
    · (try simp only [qd, ne_eq] at h4)
      simp only [qz]
      refine rg_nil (ek_next (wk_cond_f rfl ?_))
      have hup4 : ix l k < ix l (k + 1) := Decidable.byContradiction fun hn => by (have := hE.ne hp hk1 hn; omega)
      refine wk_region [0, 0, 0] rfl (by kernel_rfl) ?_
      simp only [qy]
      refine rg_move ?_
      simp only [qz]
      refine rf_add rfl rfl rfl rfl (wrap_ok (by omega) (by omega)) ?_
      simp only [qz]
      refine rg_assign ?_
      simp only [qz]
      refine rg_nil (ek_block ?_)
      refine ek_roundF (invs l * 8 + (xs.length - (k + 1))) (by omega) (by kernel_rfl) ?_
      exact ⟨k + 1, ys, l, va, m, vc, u, rfl, rfl, by rfl, by rfl, (by omega), hE, (fun j hj => if e : j = k then e ▸ hup4 else hUp j (by omega)), hd4, hd5⟩
    (try simp only [qd, ne_eq] at h4)
    simp only [qz]
    refine rg_nil (ek_next (wk_cond_t rfl (wk_seq ?_)))
    have hds := hE.ne hp hk1 (by omega : ¬ ix l k < ix l (k + 1))
    refine wk_region [0, 0, 0, 0, 1, 1, 0] rfl (by kernel_rfl) ?_
    simp only [qy]
    refine rg_move ?_
    simp only [qz]
    refine rg_move ?_
    simp only [qz]
    refine rf_add rfl rfl rfl rfl (wrap_ok (by omega) (by omega)) ?_
    simp only [qz]
    refine rf_build (cs := fun a => #[a.eval (.const (.int .i64 3)), a.eval (.tmp 33), .int .i64 0, .string ⟨#[]⟩]) rfl rfl (by kernel_rfl) ?_
    simp only [qz]
    refine rg_newS (cs := ?_) (ty := ?_) (n := 1) (c := 1) (by rfl) (fun w => ?_) (fun _ h => by cases h) (fun g2 => ?_); rotate_left 2
    focus (go_simp; rfl)
    simp only [qz]
    refine rg_appendT (xs := ys.map cross) (x := cross k) (by rfl) rfl hd5 rfl (by have := hd4.out; simp; omega) (perm_atU (l := [_]) (u := u) (List.Perm.refl _)) (fun w hw => Kn.hd0 hw) (fun _ h => by cases h) (fun uQ vQ hOQ => ?_)
    obtain ⟨aQ, cQ, rfl, -⟩ := Own.val hOQ
    simp only [qz]
    refine rg_assign ?_
    simp only [qz]
    refine rg_nil (ek_next (wk_seq ?_))
    refine wk_draws_m (hz1 := (List.Sublist.append_left (sc _ (sk _ sn)) _)) [(0, 0), (1, 0), (2, 3), (3, 3), (4, 3), (5, 0), (6, 0), (7, 0), (8, 0), (9, 0), (10, 3), (11, 3), (12, 3), (13, 0), (14, 0), (15, 2), (16, 0), (17, 1)] 15 (by kernel_rfl) (by kernel_rfl) (fun c d v a w h => by cases d <;> exact h) ?_
    simp only [List.map_cons, List.map_nil, List.getD_cons_zero, List.getD_cons_succ]
    refine rg_move ?_
    simp only [qz]
    refine rg_move ?_
    simp only [qz]
    refine rg_moveP ?_
    simp only [qz]
    refine rg_moveP ?_
    simp only [qz]
    apply rg_softP
    case hy => (intro w hw; go_simp; (try go_bits); exact Yld.mk _ _)
    simp only [qz]
    refine rg_move ?_
    simp only [qz]
    refine rg_move ?_
    simp only [qz]
    apply rg_soft
    case hy => (intro w hw; go_simp; (try go_bits); exact Yld.mk _ _)
    simp only [qz]
    apply rg_soft
    case hy => (intro w hw; go_simp; (try go_bits); exact Yld.mk _ _)
    simp only [qz]
    apply rg_soft
    case hy => (intro w hw; (first | have hcg := fun i (hi : i < l.length) => row_cell (Kn.hd0 (Kn.tl (Kn.tlU hw))) hi | have hcg := fun i (hi : i < l.length) => row_cell2 (Kn.hd0 (Kn.tl (Kn.tlU hw))) hi); have hfg := (Kn.hd0 (Kn.tl (Kn.tlU hw))).free; (try have hcg0 := hcg k (by omega)); (try have hcg1 := hcg (k + 1) (by omega)); clear hcg; go_simp; (try go_bits); exact Yld.mk _ _)
    simp only [qz]
    refine rg_moveP ?_
    simp only [qz]
    refine rg_moveP ?_
    simp only [qz]
    apply rg_softP
    case hy => (intro w hw; go_simp; (try go_bits); exact Yld.mk _ _)
    simp only [qz]
    apply rg_soft
    case hy => (intro w hw; (first | have hcg := fun i (hi : i < l.length) => row_cell (Kn.hd0 (Kn.tl (Kn.tlU hw))) hi | have hcg := fun i (hi : i < l.length) => row_cell2 (Kn.hd0 (Kn.tl (Kn.tlU hw))) hi); have hfg := (Kn.hd0 (Kn.tl (Kn.tlU hw))).free; (try have hcg0 := hcg k (by omega)); (try have hcg1 := hcg (k + 1) (by omega)); clear hcg; go_simp; (try go_bits); exact Yld.mk _ _)
    simp only [qz]
    apply rg_soft
    case hy => (intro w hw; go_simp; (try go_bits); exact Yld.mk _ _)
    simp only [qz]
    apply rg_storeM
    case hr => (intro w hw; (first | have hcg := fun i (hi : i < l.length) => row_cell (Kn.hd0 (Kn.tl (Kn.tlU hw))) hi | have hcg := fun i (hi : i < l.length) => row_cell2 (Kn.hd0 (Kn.tl (Kn.tlU hw))) hi); have hfg := (Kn.hd0 (Kn.tl (Kn.tlU hw))).free; (try have hcg0 := hcg k (by omega)); (try have hcg1 := hcg (k + 1) (by omega)); clear hcg; refine ⟨_, by (go_simp; (try go_bits); exact Dne.mk _), ?_⟩; repeat (first | with_reducible exact hw | with_reducible apply Kn.put (Upd.app _ (Upd.there _ (Upd.here _ _ _)))))
    case hz => exact (List.Sublist.append_left (sc _ (sk _ sn)) _)
    simp only [qz]
    apply rg_soft
    case hy => (intro w hw; go_simp; (try go_bits); exact Yld.mk _ _)
    simp only [qz]
    apply rg_store
    case hr => (intro w hw; (first | have hcg := fun i (hi : i < l.length) => row_cell (Kn.hd0 (Kn.tl (Kn.tlU hw))) hi | have hcg := fun i (hi : i < l.length) => row_cell2 (Kn.hd0 (Kn.tl (Kn.tlU hw))) hi); have hfg := (Kn.hd0 (Kn.tl (Kn.tlU hw))).free; (try have hcg0 := hcg k (by omega)); (try have hcg1 := hcg (k + 1) (by omega)); clear hcg; refine ⟨_, by (go_simp; (try go_bits); exact Dne.mk _), ?_⟩; repeat (first | with_reducible exact hw | with_reducible apply Kn.put (Upd.app _ (Upd.there _ (Upd.here _ _ _)))))
    case hz => (intro z hz; cases hz; exact (List.Sublist.append_left (sc _ (sk _ sn)) _))
    simp only [qz]
    refine rg_nil (ek_next ?_)
    refine wk_region [0] rfl (by kernel_rfl) ?_
    simp only [qy]
    refine rg_assign ?_
    simp only [qz]
    refine rg_nil (ek_block ?_)
    refine ek_sub (List.Sublist.append_left (sk _ (sc _ sn)) _) ?_
    refine ek_roundF (invs (swapAt l k) * 8 + (xs.length - 0)) (by (have := invs_swap l k hk1 hds; omega)) (by kernel_rfl) ?_
    exact ⟨0, ys ++ [k], swapAt l k, aQ, ((ys.map cross) ++ [cross k]).length, cQ, uQ, rfl, rfl, by (rw [← swapAt_set l k hk1, row_set _ _ (by omega), row_set _ _ (by simp; omega)]), by rfl, (by omega), (.step hE hk1 hUp hds), (fun j hj => by omega), (Lib.hid (by simp)), (by rw [List.map_append]; exact hOQ)⟩
  (try simp only [qd, ne_eq] at h2)
  simp only [qz]
  refine rg_nil (ek_next (wk_cond_t rfl (wk_seq ?_)))
  refine wk_region [0, 0] rfl (by kernel_rfl) ?_
  simp only [qy]
  refine rg_assign ?_
  simp only [qz]
  refine rg_assign ?_
  simp only [qz]
  refine rg_nil (ek_next (wk_ret (ek_then_ret ?_)))
  refine ek_ret (fun w hw => ⟨rfl, _, res_tt _ _ rfl, ?_⟩)
  (try simp only [qz])
  have hce := permB_lim h1 (by omega)
  rw [hce]
  exact ⟨[], CrL.bad (by rw [hce]; decide), .slice none 0 0, [], rfl, OwnT.nil, .nil hw.below⟩

end Go.Proofs.Ytccbinnlnkpplaa
namespace Go.Proofs.Ytccbinnlnkpplaa
set_option linter.all false
open Go.RowKit

theorem nm_flC (xs : List Nm) (k : Nat) (y : Nm) (hk : k < xs.length) : setMany (NmE.flat xs ++ []).toArray (0 + k * 5) (nmC y) = (NmE.flat (xs.set k y) ++ []).toArray := fl_set (E := NmE) (rest := []) hk
theorem nm_szC (xs : List Nm) (k : Nat) (y : Nm) (hk : k < xs.length) : 0 + k * 5 + (nmC y).length ≤ (NmE.flat xs ++ []).toArray.size := fl_size (E := NmE) (rest := []) (y := y) hk
theorem nm_szC1 (xs : List Nm) (k : Nat) (hk : k < xs.length) (v : Value) : 0 + k * 5 + [v].length ≤ (NmE.flat xs ++ []).toArray.size := Nat.le_trans (by show 0 + k * 5 + 1 ≤ 0 + k * 5 + 5; omega) (nm_szC xs k Nm.zero hk)
theorem set5 (A : Array Value) (n : Nat) (z v : Value) (h : setMany A n [z, z, z, z, z] = A) : setMany A n [v, z, z, z, z] = setMany A n [v] := by
  refine Array.ext_getElem? fun j => ?_
  have hj : (setMany A n [z, z, z, z, z])[j]? = A[j]? := by rw [h]
  simp only [setMany, Array.getElem?_setIfInBounds, Array.size_setIfInBounds] at hj ⊢
  by_cases e1 : n + 1 + 1 + 1 + 1 = j
  · rw [if_pos e1] at hj ⊢
    rw [hj, if_neg (by omega)]
  rw [if_neg e1] at hj ⊢
  by_cases e2 : n + 1 + 1 + 1 = j
  · rw [if_pos e2] at hj ⊢
    rw [hj, if_neg (by omega)]
  rw [if_neg e2] at hj ⊢
  by_cases e3 : n + 1 + 1 = j
  · rw [if_pos e3] at hj ⊢
    rw [hj, if_neg (by omega)]
  rw [if_neg e3] at hj ⊢
  by_cases e4 : n + 1 = j
  · rw [if_pos e4] at hj ⊢
    rw [hj, if_neg (by omega)]
  rw [if_neg e4]
/-- The store of 1 into the first cell of an element that is 0. -/
theorem nm_fl1 (xs : List Nm) (k : Nat) (hk : k < xs.length) (h0 : nm xs k = Nm.zero) : setMany (NmE.flat xs ++ []).toArray (0 + k * 5) [.int .i64 1] = (NmE.flat (xs.set k Nm.one) ++ []).toArray := by
  have hs : xs.set k Nm.zero = xs := by
    refine NmE.ext_at (by rw [List.length_set]) fun t ht => ?_
    rw [El.at_set _ _ _ _ hk]
    split
    · next h => rw [h]; exact h0.symm
    · rfl
  have h1 := nm_flC xs k Nm.one hk
  have h2 := nm_flC xs k Nm.zero hk
  rw [hs] at h2
  rw [← h1]
  exact (set5 _ _ _ _ h2).symm
theorem ownN_flC {g n : Nat} {l : List Nm} (h : l.length = n) (hn : n ≤ 100000) : OwnN [(g, .cells (NmE.flat l ++ []).toArray 45)] (.slice (some ⟨g, 0, none⟩) n n) l :=
  OwnN.flM h (Nat.le_refl _) (by simp only [maxLen]; omega) (by simp [El.flat_len, h])
theorem madeNC (n : Nat) : madeCells #[.int .i64 0, .int .i64 0, .int .i64 0, .int .i64 0, .int .i64 0] (n * 5) = (NmE.flat (List.replicate n Nm.zero) ++ []).toArray := by
  rw [List.append_nil, ← made_fl (E := NmE) Nm.zero n]
  rfl
theorem pm_step {xs : List Int} (hp : Perm xs) {i : Nat} (hi : i < xs.length) : ∃ P : Nat, ix xs i = P ∧ P < xs.length ∧ P * xs.length + i < xs.length * xs.length ∧ nm (pmS xs i) (P * xs.length + i) = Nm.zero ∧ (pmS xs i).set (P * xs.length + i) Nm.one = pmS xs (i + 1) := by
  have hr := (hp.2.2 i hi).1
  have hlt : (ix xs i).toNat * xs.length + i < xs.length * xs.length := ix_lt (by omega) hi
  refine ⟨(ix xs i).toNat, by omega, by omega, hlt, ?_, rfl⟩
  rw [pmS_at hp i (by omega) _ hlt, ix_mod hi, if_neg (by omega)]
set_option maxRecDepth 100000 in
set_option maxHeartbeats 1000000 in
theorem rOneC_any  (w : World) : Calls Try.prog 54 #[] w fun e w' => e = .returned (.agg #[.int .i64 1, .int .i64 0, .int .i64 0, .int .i64 0, .int .i64 0]) ∧ Below w.heap.size w w' := by
  go_enter Try.func54, Try.ntmps54
  refine wk_start ?_
  refine wk_seq ?_
  refine wk_region [1] rfl (by kernel_rfl) ?_
  simp only [qy]
  refine rg_new (cs := ?_) (ty := ?_) (by rfl) (fun w => ?_) (fun _ h => by cases h) (fun g1 => ?_); rotate_left 2
  focus (go_simp; rfl)
  simp only [qz]
  refine rg_nil (ek_next (wk_seq ?_))
  refine wk_region [0, 0, 1] rfl (by kernel_rfl) ?_
  simp only [qy]
  refine rf_build (cs := fun a => #[a.eval (.const (.int .i64 1)), .int .i64 0, .int .i64 0, .int .i64 0]) rfl rfl (by kernel_rfl) ?_
  simp only [qz]
  refine rf_build (cs := fun a => #[cellAt (a.eval (.tmp 1)) 0, cellAt (a.eval (.tmp 1)) 1, cellAt (a.eval (.tmp 1)) 2, cellAt (a.eval (.tmp 1)) 3, .int .i64 0]) rfl rfl (by kernel_rfl) ?_
  simp only [qz]
  refine rf_storeR (n := 5) rfl rfl (by kernel_rfl) rfl rfl (UpdR.here _ _ _ (Nat.le_of_ble_eq_true rfl)) (fun _ h => by cases h) ?_
  simp only [qz, Nat.reduceAdd]
  refine rg_nil (ek_next (wk_ret ?_))
  refine ek_ret (fun w hw => ⟨rfl, _, run_results1 rfl rfl (Kn.hd0 hw) Try.underlying45 rfl (by kernel_rfl), ?_⟩)
  (try simp only [qz])
  first | exact ⟨rfl, hw.below⟩ | exact ⟨trivial, hw.below⟩ | exact hw.below

set_option maxRecDepth 100000 in
set_option maxHeartbeats 1000000 in
theorem mpermm_any (xs : List Int) (a : Option Addr) (c : Nat) (hl : xs.length ≤ 1000) (w : World) (hA : AS w a (ints xs)) : Calls Try.prog 34 #[.slice a xs.length c] w fun e w' => RetM w (pmN xs) (pmL xs) (crE xs) e w' := by
  go_enter Try.func34, Try.ntmps34
  refine wk_start ?_
  refine wk_seq ?_
  refine wk_region [1, 0] rfl (by kernel_rfl) ?_
  simp only [qy]
  refine rg_new (cs := ?_) (ty := ?_) (by rfl) (fun w => ?_) (fun _ h => by cases h) (fun g1 => ?_); rotate_left 2
  focus (go_simp; rfl)
  simp only [qz]
  refine rg_assign ?_
  simp only [qz]
  refine rg_nil (ek_next (wk_seq (wk_block (wk_seq ?_))))
  refine wk_region [0, 1, 0, 0] rfl (by kernel_rfl) ?_
  simp only [qy]
  refine rg_move ?_
  simp only [qz]
  apply rg_pureb (by rfl) (by kernel_rfl)
  case hargs => (simp only [qm, qs, Act.eval]; exact rfl)
  case h => exact fun w hw => valid_any xs a c hl w (hA.kn0 hw)
  case hz => exact (fun _ h => by cases h)
  intro x h1
  cases x
  · (try simp only [qd, ne_eq] at h1)
    simp only [qz]
    refine rf_not rfl rfl rfl ?_
    simp only [qz]
    refine rg_assign ?_
    simp only [qz]
    refine rg_nil (ek_next (wk_cond_t rfl (wk_seq ?_)))
    refine wk_region [0, 1, 0] rfl (by kernel_rfl) ?_
    simp only [qy]
    refine rf_build (cs := fun a => #[.int .i64 0, .slice none 0 0]) rfl rfl (by kernel_rfl) ?_
    simp only [qz]
    refine rf_storeR (n := 2) rfl rfl (by kernel_rfl) rfl rfl (UpdR.here _ _ _ (Nat.le_of_ble_eq_true rfl)) (fun _ h => by cases h) ?_
    simp only [qz, Nat.reduceAdd]
    refine rg_assign ?_
    simp only [qz]
    refine rg_nil (ek_next (wk_ret (ek_block_ret (ek_then_ret ?_))))
    refine ek_ret (fun w hw => ⟨rfl, _, run_results2 rfl rfl (Kn.hd0 hw) Try.underlying38 rfl (by kernel_rfl), ?_⟩)
    (try simp only [qz])
    have hce := permB_no h1
    obtain ⟨e1, e2⟩ := pm_no (xs := xs) (by rw [hce]; decide)
    rw [hce, e1, e2]
    exact ⟨.slice none 0 0, [], rfl, OwnG.nil, .nil hw.below⟩
  (try simp only [qd, ne_eq] at h1)
  simp only [qz]
  refine rf_not rfl rfl rfl ?_
  simp only [qz]
  refine rg_assign ?_
  simp only [qz]
  refine rg_nil (ek_next (wk_cond_f rfl (wk_seq ?_)))
  refine wk_region [0, 0, 0, 0] rfl (by kernel_rfl) ?_
  simp only [qy]
  refine rg_move ?_
  simp only [qz]
  refine rf_len rfl rfl rfl Try.underlying22 ?_
  simp only [qz]
  refine rfb_gtr rfl rfl rfl rfl ?_
  intro x h2
  cases x
  · (try simp only [qd, ne_eq] at h2)
    simp only [qz]
    obtain ⟨hp, hce⟩ := permB_yes h1 (by omega)
    have h0 := hp.1
    obtain ⟨b, off, rfl, hlt, hcell⟩ := AS.open hA h0
    have hN36 := Nat.mul_le_mul (show xs.length ≤ 6 by omega) (show xs.length ≤ 6 by omega)
    have hnn : ((xs.length : Int) * xs.length) = ((xs.length * xs.length : Nat) : Int) := (Int.natCast_mul _ _).symm
    refine rg_assign ?_
    simp only [qz]
    refine rg_nil (ek_next (wk_cond_f rfl (wk_skip (ek_block (ek_next (wk_seq ?_))))))
    refine wk_region [0, 0, 0] rfl (by kernel_rfl) ?_
    simp only [qy]
    refine rg_move ?_
    simp only [qz]
    refine rf_len rfl rfl rfl Try.underlying22 ?_
    simp only [qz]
    refine rg_assign ?_
    simp only [qz]
    refine rg_nil (ek_next (wk_seq ?_))
    refine wk_region [0, 0, 0, 0, 1, 0, 1, 1] rfl (by kernel_rfl) ?_
    simp only [qy]
    refine rg_move ?_
    simp only [qz]
    refine rg_move ?_
    simp only [qz]
    refine rg_move ?_
    simp only [qz]
    refine rf_mul (r := ((xs.length * xs.length : Nat) : Int)) rfl rfl rfl rfl (wrap_eqB hnn (by omega) (by omega)) ?_
    simp only [qz]
    obtain ⟨iN, hiN, hzN, hsN, hbN⟩ := info_partsN numInfo
    refine rg_make (n := xs.length * xs.length) (i := iN) (by rfl) Try.underlying36 hiN hzN rfl rfl (by rw [hbN]; omega) (by omega) (fun _ h => by cases h) (fun gz => ?_)
    rw [hsN, show (Value.agg #[.int .i64 0, .int .i64 0, .int .i64 0, .int .i64 0, .int .i64 0]).cells = #[.int .i64 0, .int .i64 0, .int .i64 0, .int .i64 0, .int .i64 0] from rfl, madeNC]
    simp only [qz]
    refine rf_build (cs := fun a => #[a.eval (.tmp 20), a.eval (.tmp 24)]) rfl rfl (by kernel_rfl) ?_
    simp only [qz]
    refine rg_new (cs := ?_) (ty := ?_) (by rfl) (fun w => ?_) (fun _ h => by cases h) (fun g3 => ?_); rotate_left 2
    focus (go_simp; rfl)
    simp only [qz]
    refine rf_storeR (n := 2) rfl rfl (by kernel_rfl) rfl rfl (UpdR.here _ _ _ (Nat.le_of_ble_eq_true rfl)) (fun _ h => by cases h) ?_
    simp only [qz, Nat.reduceAdd]
    refine rg_nil (ek_next (wk_seq (wk_seq ?_)))
    refine wk_region [0, 0, 0] rfl (by kernel_rfl) ?_
    simp only [qy]
    refine rg_move ?_
    simp only [qz]
    refine rf_len rfl rfl rfl Try.underlying22 ?_
    simp only [qz]
    refine rg_move ?_
    simp only [qz]
    refine rg_nil (ek_next (wk_block ?_))
    refine wk_loopF [6, 7, 28, 29, 30, 31, 32, 33, 34, 35, 36, 37, 38, 39, 40, 41, 42, 43] (fun mz f s => ∃ (i : Nat), f 28 = .int .i64 i ∧ s = ((g3, .cells #[.int .i64 xs.length, .slice (some ⟨gz, 0, none⟩) (xs.length * xs.length) (xs.length * xs.length)] 38) :: ((gz, .cells (NmE.flat (pmS xs i) ++ []).toArray 45) :: ((g1, .cells #[.int .i64 0, .slice none 0 0] 38) :: []))) ∧ mz = xs.length - i ∧ i ≤ xs.length) ((fun (i : Nat) => xs.length - i) (0)) ?_ (by kernel_rfl) ?_
    · exact ⟨0, rfl, rfl, rfl, by omega⟩
    rintro mz f1 s ⟨i, hs1_28, rfl, hn, hd1⟩
    simp only [Act.putF, List.foldl_cons, List.foldl_nil, hs1_28, Act.put, Act.eval, q1, q2, q3, q4, q5, q6, q7, q8, q9, q10, q11, q12, q13, q14, q15, q16, q17, q18, Nat.reduceAdd, Bool.not_true, Bool.not_false]
    clear hs1_28
    refine wk_seq ?_
    refine wk_region [0] rfl (by kernel_rfl) ?_
    simp only [qy]
    refine rfb_lss rfl rfl rfl rfl ?_
    intro x h3
    cases x
    · (try simp only [qd, ne_eq] at h3)
      simp only [qz]
      refine rg_nil (ek_next (wk_seq (wk_cond_f rfl (wk_exit (ek_then_exit (ek_then_exit (ek_block_exit (ek_next (wk_seq ?_)))))))))
      refine wk_region [0, 1, 0] rfl (by kernel_rfl) ?_
      simp only [qy]
      refine rf_loadR (n := 2) rfl rfl rfl Try.underlying38 rfl (by kernel_rfl) (fun w hw => Kn.hd0 hw) rfl rfl ?_
      simp only [qz]
      refine rf_storeR (n := 2) rfl rfl (by kernel_rfl) rfl rfl (UpdR.there _ (UpdR.there _ (UpdR.here _ _ _ (Nat.le_of_ble_eq_true rfl)))) (fun _ h => by cases h) ?_
      simp only [qz, Nat.reduceAdd]
      refine rg_assign ?_
      simp only [qz]
      refine rg_nil (ek_next (wk_ret ?_))
      refine ek_ret (fun w hw => ⟨rfl, _, run_results2 rfl rfl (Kn.hd0 (Kn.tl (Kn.tl hw))) Try.underlying38 rfl (by kernel_rfl), ?_⟩)
      (try simp only [qz])
      obtain rfl : i = xs.length := by omega
      obtain ⟨e1, e2, e3⟩ := pm_yes hp (by omega)
      rw [e1, e2, e3]
      exact ⟨_, _, rfl, ownN_flC (g := gz) (pmS_len xs xs.length) (by omega), hw.made (sk _ (sc _ (sk _ sn)))⟩
    (try simp only [qd, ne_eq] at h3)
    simp only [qz]
    refine rg_nil (ek_next (wk_seq (wk_cond_t rfl (wk_skip (ek_next (wk_seq (wk_block (wk_seq ?_))))))))
    refine wk_region [0, 0, 0, 0, 0] rfl (by kernel_rfl) ?_
    simp only [qy]
    refine rg_move ?_
    simp only [qz]
    refine rf_indexS (n := i) (sz := 1) (j := off + i) rfl rfl rfl rfl Try.underlying22 (by kernel_rfl) (by omega) (by omega) (by omega) ?_
    simp only [qz]
    refine rf_load (v := .int .i64 (ix xs i)) rfl rfl rfl Try.underlying3 rfl (fun w hw => (Kn.cellB hw hlt (by simp) (off + i)).trans (hcell i (by omega))) ?_
    simp only [qz]
    refine rg_assign ?_
    simp only [qz]
    refine rg_assign ?_
    simp only [qz]
    refine rg_nil (ek_next ?_)
    obtain ⟨P, hP, hPl, hjl, hj0, hjs⟩ := pm_step hp (show i < xs.length by omega)
    obtain ⟨jx, hjx⟩ : ∃ j, P * xs.length + i = j := ⟨_, rfl⟩
    rw [hjx] at hjl hj0 hjs
    have hcst : (ix xs i) * (xs.length : Int) = ((P * xs.length : Nat) : Int) := by rw [hP]; exact (Int.natCast_mul _ _).symm
    have hpl := pmS_len xs i
    refine wk_region [0, 0, 0, 0, 0, 0, 0, 0, 0, 0, 1] rfl (by kernel_rfl) ?_
    simp only [qy]
    refine rf_field (n := 0) (j := 1) rfl rfl rfl Try.underlying38 rfl (by kernel_rfl) rfl ?_
    simp only [qz]
    refine rf_load rfl rfl rfl Try.underlying36 rfl (fun w hw => (Kn.hd0 hw).at rfl) ?_
    simp only [qz]
    refine rg_move ?_
    simp only [qz]
    refine rg_move ?_
    simp only [qz]
    refine rf_mul (r := ((P * xs.length : Nat) : Int)) rfl rfl rfl rfl (wrap_eqB hcst (by omega) (by omega)) ?_
    simp only [qz]
    refine rg_move ?_
    simp only [qz]
    refine rf_add (r := ((jx : Nat) : Int)) rfl rfl rfl rfl (wrap_eqB (by omega) (by omega) (by omega)) ?_
    simp only [qz]
    refine rf_indexS (n := jx) (sz := 5) (j := 0 + jx * 5) rfl rfl rfl rfl Try.underlying36 (by kernel_rfl) (by first | rfl | omega) (by omega) rfl ?_
    simp only [qz]
    refine rf_field (n := 3) (j := 0 + jx * 5) rfl rfl rfl Try.underlying45 rfl (by kernel_rfl) rfl ?_
    simp only [qz]
    refine rf_indexA (n := 0) (sz := 1) (j := 0 + jx * 5) rfl rfl rfl rfl Try.underlying43 (by kernel_rfl) (by decide) rfl ?_
    simp only [qz]
    refine rf_store (v := .int .i64 1) rfl rfl (by kernel_rfl) rfl rfl (UpdR.there _ (UpdR.here _ _ _ (nm_szC1 (pmS xs i) jx (by rw [hpl]; exact hjl) _))) (fun _ h => by cases h) ?_
    rw [nm_fl1 (pmS xs i) jx (by rw [hpl]; exact hjl) hj0, hjs]
    simp only [qz]
    refine rg_nil (ek_block (ek_next ?_))
    refine wk_region [0, 0] rfl (by kernel_rfl) ?_
    simp only [qy]
    refine rf_add rfl rfl rfl rfl (wrap_ok (by omega) (by omega)) ?_
    simp only [qz]
    refine rg_move ?_
    simp only [qz]
    refine rg_nil ?_
    refine ek_roundF (xs.length - (i + 1)) (by omega) (by kernel_rfl) ?_
    exact ⟨i + 1, rfl, by rfl, by rfl, (by omega)⟩
  (try simp only [qd, ne_eq] at h2)
  simp only [qz]
  refine rg_assign ?_
  simp only [qz]
  refine rg_nil (ek_next (wk_cond_t rfl (wk_seq ?_)))
  refine wk_region [0, 1, 0] rfl (by kernel_rfl) ?_
  simp only [qy]
  refine rf_build (cs := fun a => #[.int .i64 0, .slice none 0 0]) rfl rfl (by kernel_rfl) ?_
  simp only [qz]
  refine rf_storeR (n := 2) rfl rfl (by kernel_rfl) rfl rfl (UpdR.here _ _ _ (Nat.le_of_ble_eq_true rfl)) (fun _ h => by cases h) ?_
  simp only [qz, Nat.reduceAdd]
  refine rg_assign ?_
  simp only [qz]
  refine rg_nil (ek_next (wk_ret (ek_block_ret (ek_then_ret ?_))))
  refine ek_ret (fun w hw => ⟨rfl, _, run_results2 rfl rfl (Kn.hd0 hw) Try.underlying38 rfl (by kernel_rfl), ?_⟩)
  (try simp only [qz])
  have hce := permB_lim h1 (by omega)
  obtain ⟨e1, e2⟩ := pm_no (xs := xs) (by rw [hce]; decide)
  rw [hce, e1, e2]
  exact ⟨.slice none 0 0, [], rfl, OwnG.nil, .nil hw.below⟩

set_option maxRecDepth 100000 in
set_option maxHeartbeats 1000000 in
theorem rpermm_any (xs : List Int) (a : Option Addr) (c : Nat) (hl : xs.length ≤ 1000) (w : World) (hA : AS w a (ints xs)) : Calls Try.prog 35 #[.slice a xs.length c] w fun e w' => RetM w (pmN xs) (pmL xs) (crE xs) e w' := by
  go_enter Try.func35, Try.ntmps35
  refine wk_start ?_
  refine wk_seq ?_
  refine wk_region [1, 0] rfl (by kernel_rfl) ?_
  simp only [qy]
  refine rg_new (cs := ?_) (ty := ?_) (by rfl) (fun w => ?_) (fun _ h => by cases h) (fun g1 => ?_); rotate_left 2
  focus (go_simp; rfl)
  simp only [qz]
  refine rg_assign ?_
  simp only [qz]
  refine rg_nil (ek_next (wk_seq (wk_seq ?_)))
  refine wk_region [0, 1, 0] rfl (by kernel_rfl) ?_
  simp only [qy]
  refine rg_move ?_
  simp only [qz]
  apply rg_pureb (by rfl) (by kernel_rfl)
  case hargs => (simp only [qm, qs, Act.eval]; exact rfl)
  case h => exact fun w hw => rvalid_any xs a c hl w (hA.kn0 hw)
  case hz => exact (fun _ h => by cases h)
  intro x h1
  cases x
  · (try simp only [qd, ne_eq] at h1)
    simp only [qz]
    refine rf_not rfl rfl rfl ?_
    simp only [qz]
    refine rg_nil (ek_next (wk_cond_t rfl (wk_seq ?_)))
    refine wk_region [0, 1, 0] rfl (by kernel_rfl) ?_
    simp only [qy]
    refine rf_build (cs := fun a => #[.int .i64 0, .slice none 0 0]) rfl rfl (by kernel_rfl) ?_
    simp only [qz]
    refine rf_storeR (n := 2) rfl rfl (by kernel_rfl) rfl rfl (UpdR.here _ _ _ (Nat.le_of_ble_eq_true rfl)) (fun _ h => by cases h) ?_
    simp only [qz, Nat.reduceAdd]
    refine rg_assign ?_
    simp only [qz]
    refine rg_nil (ek_next (wk_ret (ek_then_ret ?_)))
    refine ek_ret (fun w hw => ⟨rfl, _, run_results2 rfl rfl (Kn.hd0 hw) Try.underlying38 rfl (by kernel_rfl), ?_⟩)
    (try simp only [qz])
    have hce := permB_no h1
    obtain ⟨e1, e2⟩ := pm_no (xs := xs) (by rw [hce]; decide)
    rw [hce, e1, e2]
    exact ⟨.slice none 0 0, [], rfl, OwnG.nil, .nil hw.below⟩
  (try simp only [qd, ne_eq] at h1)
  simp only [qz]
  refine rf_not rfl rfl rfl ?_
  simp only [qz]
  refine rg_nil (ek_next (wk_cond_f rfl (wk_skip (ek_next (wk_seq ?_)))))
  refine wk_region [0, 0, 0] rfl (by kernel_rfl) ?_
  simp only [qy]
  refine rg_move ?_
  simp only [qz]
  refine rf_len rfl rfl rfl Try.underlying22 ?_
  simp only [qz]
  refine rg_assign ?_
  simp only [qz]
  refine rg_nil (ek_next (wk_seq (wk_seq ?_)))
  refine wk_region [0, 0] rfl (by kernel_rfl) ?_
  simp only [qy]
  refine rg_move ?_
  simp only [qz]
  refine rfb_gtr rfl rfl rfl rfl ?_
  intro x h2
  cases x
  · (try simp only [qd, ne_eq] at h2)
    simp only [qz]
    obtain ⟨hp, hce⟩ := permB_yes h1 (by omega)
    have h0 := hp.1
    obtain ⟨b, off, rfl, hlt, hcell⟩ := AS.open hA h0
    have hN36 := Nat.mul_le_mul (show xs.length ≤ 6 by omega) (show xs.length ≤ 6 by omega)
    have hnn : ((xs.length : Int) * xs.length) = ((xs.length * xs.length : Nat) : Int) := (Int.natCast_mul _ _).symm
    refine rg_nil (ek_next (wk_cond_f rfl (wk_skip (ek_next (wk_seq ?_)))))
    refine wk_region [0, 0, 0, 0, 1, 0, 1, 1] rfl (by kernel_rfl) ?_
    simp only [qy]
    refine rg_move ?_
    simp only [qz]
    refine rg_move ?_
    simp only [qz]
    refine rg_move ?_
    simp only [qz]
    refine rf_mul (r := ((xs.length * xs.length : Nat) : Int)) rfl rfl rfl rfl (wrap_eqB hnn (by omega) (by omega)) ?_
    simp only [qz]
    obtain ⟨iN, hiN, hzN, hsN, hbN⟩ := info_partsN numInfo
    refine rg_make (n := xs.length * xs.length) (i := iN) (by rfl) Try.underlying36 hiN hzN rfl rfl (by rw [hbN]; omega) (by omega) (fun _ h => by cases h) (fun gz => ?_)
    rw [hsN, show (Value.agg #[.int .i64 0, .int .i64 0, .int .i64 0, .int .i64 0, .int .i64 0]).cells = #[.int .i64 0, .int .i64 0, .int .i64 0, .int .i64 0, .int .i64 0] from rfl, madeNC]
    simp only [qz]
    refine rf_build (cs := fun a => #[a.eval (.tmp 16), a.eval (.tmp 20)]) rfl rfl (by kernel_rfl) ?_
    simp only [qz]
    refine rg_new (cs := ?_) (ty := ?_) (by rfl) (fun w => ?_) (fun _ h => by cases h) (fun g3 => ?_); rotate_left 2
    focus (go_simp; rfl)
    simp only [qz]
    refine rf_storeR (n := 2) rfl rfl (by kernel_rfl) rfl rfl (UpdR.here _ _ _ (Nat.le_of_ble_eq_true rfl)) (fun _ h => by cases h) ?_
    simp only [qz, Nat.reduceAdd]
    refine rg_nil (ek_next (wk_seq (wk_seq ?_)))
    refine wk_region [0] rfl (by kernel_rfl) ?_
    simp only [qy]
    refine rg_assign ?_
    simp only [qz]
    refine rg_nil (ek_next (wk_block ?_))
    refine wk_loopF [6, 22, 23, 24, 25, 26, 27, 28, 29, 30, 31, 32, 33, 34, 35, 36, 37, 38] (fun mz f s => ∃ (i : Nat), f 6 = .int .i64 i ∧ s = ((g3, .cells #[.int .i64 xs.length, .slice (some ⟨gz, 0, none⟩) (xs.length * xs.length) (xs.length * xs.length)] 38) :: ((gz, .cells (NmE.flat (pmS xs i) ++ []).toArray 45) :: ((g1, .cells #[.int .i64 0, .slice none 0 0] 38) :: []))) ∧ mz = xs.length - i ∧ i ≤ xs.length) ((fun (i : Nat) => xs.length - i) (0)) ?_ (by kernel_rfl) ?_
    · exact ⟨0, rfl, rfl, rfl, by omega⟩
    rintro mz f1 s ⟨i, hs1_6, rfl, hn, hd1⟩
    simp only [Act.putF, List.foldl_cons, List.foldl_nil, hs1_6, Act.put, Act.eval, q1, q2, q3, q4, q5, q6, q7, q8, q9, q10, q11, q12, q13, q14, q15, q16, q17, q18, Nat.reduceAdd, Bool.not_true, Bool.not_false]
    clear hs1_6
    refine wk_seq (wk_seq ?_)
    refine wk_region [0, 0, 0] rfl (by kernel_rfl) ?_
    simp only [qy]
    refine rg_move ?_
    simp only [qz]
    refine rg_move ?_
    simp only [qz]
    refine rfb_lss rfl rfl rfl rfl ?_
    intro x h3
    cases x
    · (try simp only [qd, ne_eq] at h3)
      simp only [qz]
      refine rg_nil (ek_next (wk_cond_f rfl (wk_exit (ek_then_exit (ek_then_exit (ek_block_exit (ek_next (wk_seq ?_))))))))
      refine wk_region [0, 1, 0] rfl (by kernel_rfl) ?_
      simp only [qy]
      refine rf_loadR (n := 2) rfl rfl rfl Try.underlying38 rfl (by kernel_rfl) (fun w hw => Kn.hd0 hw) rfl rfl ?_
      simp only [qz]
      refine rf_storeR (n := 2) rfl rfl (by kernel_rfl) rfl rfl (UpdR.there _ (UpdR.there _ (UpdR.here _ _ _ (Nat.le_of_ble_eq_true rfl)))) (fun _ h => by cases h) ?_
      simp only [qz, Nat.reduceAdd]
      refine rg_assign ?_
      simp only [qz]
      refine rg_nil (ek_next (wk_ret ?_))
      refine ek_ret (fun w hw => ⟨rfl, _, run_results2 rfl rfl (Kn.hd0 (Kn.tl (Kn.tl hw))) Try.underlying38 rfl (by kernel_rfl), ?_⟩)
      (try simp only [qz])
      obtain rfl : i = xs.length := by omega
      obtain ⟨e1, e2, e3⟩ := pm_yes hp (by omega)
      rw [e1, e2, e3]
      exact ⟨_, _, rfl, ownN_flC (g := gz) (pmS_len xs xs.length) (by omega), hw.made (sk _ (sc _ (sk _ sn)))⟩
    (try simp only [qd, ne_eq] at h3)
    simp only [qz]
    refine rg_nil (ek_next (wk_cond_t rfl (wk_skip (ek_next (wk_seq (wk_block ?_))))))
    obtain ⟨P, hP, hPl, hjl, hj0, hjs⟩ := pm_step hp (show i < xs.length by omega)
    obtain ⟨jx, hjx⟩ : ∃ j, P * xs.length + i = j := ⟨_, rfl⟩
    rw [hjx] at hjl hj0 hjs
    have hcst : (ix xs i) * (xs.length : Int) = ((P * xs.length : Nat) : Int) := by rw [hP]; exact (Int.natCast_mul _ _).symm
    have hpl := pmS_len xs i
    refine wk_draws_m (hz1 := (sc _ (sk _ (sc _ sn)))) [(0, 0), (1, 0), (2, 0), (3, 0), (4, 0), (5, 0), (6, 0), (7, 0), (8, 0), (9, 0), (10, 1), (11, 0), (12, 2)] 12 (by kernel_rfl) (by kernel_rfl) (fun c d v a w h => by cases d <;> exact h) ?_
    simp only [List.map_cons, List.map_nil, List.getD_cons_zero, List.getD_cons_succ]
    refine rf_field (n := 0) (j := 1) rfl rfl rfl Try.underlying38 rfl (by kernel_rfl) rfl ?_
    simp only [qz]
    refine rf_load rfl rfl rfl Try.underlying36 rfl (fun w hw => (Kn.hd0 hw).at rfl) ?_
    simp only [qz]
    refine rg_move ?_
    simp only [qz]
    refine rg_move ?_
    simp only [qz]
    refine rf_indexS (n := i) (sz := 1) (j := off + i) rfl rfl rfl rfl Try.underlying22 (by kernel_rfl) (by omega) (by omega) (by omega) ?_
    simp only [qz]
    refine rf_load (v := .int .i64 (ix xs i)) rfl rfl rfl Try.underlying3 rfl (fun w hw => (Kn.cellB hw hlt (by simp) (off + i)).trans (hcell i (by omega))) ?_
    simp only [qz]
    refine rg_move ?_
    simp only [qz]
    refine rf_mul (r := ((P * xs.length : Nat) : Int)) rfl rfl rfl rfl (wrap_eqB hcst (by omega) (by omega)) ?_
    simp only [qz]
    refine rg_move ?_
    simp only [qz]
    refine rf_add (r := ((jx : Nat) : Int)) rfl rfl rfl rfl (wrap_eqB (by omega) (by omega) (by omega)) ?_
    simp only [qz]
    apply rg_pure (by rfl) (by kernel_rfl)
    case hargs => (simp only [qm, qs, Act.eval]; exact rfl)
    case h => exact fun w hw => rOneC_any w
    case hz => exact (fun _ h => by cases h; exact (sc _ (sc _ (sc _ sn))))
    simp only [qz]
    refine rf_indexS (n := jx) (sz := 5) (j := 0 + jx * 5) rfl rfl rfl rfl Try.underlying36 (by kernel_rfl) (by first | rfl | omega) (by omega) rfl ?_
    simp only [qz]
    refine rf_storeRM (n := 5) (vs := nmC Nm.one) rfl rfl (by kernel_rfl) rfl rfl (UpdR.there _ (UpdR.here _ _ _ (nm_szC (pmS xs i) jx Nm.one (by rw [hpl]; exact hjl)))) (sc _ (sk _ (sc _ sn))) ?_
    rw [nm_flC (pmS xs i) jx Nm.one (by rw [hpl]; exact hjl), hjs]
    simp only [qz]
    refine rg_nil (ek_block (ek_next ?_))
    refine wk_region [0, 0, 0] rfl (by kernel_rfl) ?_
    simp only [qy]
    refine rg_move ?_
    simp only [qz]
    refine rf_add rfl rfl rfl rfl (wrap_ok (by omega) (by omega)) ?_
    simp only [qz]
    refine rg_assign ?_
    simp only [qz]
    refine rg_nil ?_
    refine ek_roundF (xs.length - (i + 1)) (by omega) (by kernel_rfl) ?_
    exact ⟨i + 1, rfl, by rfl, by rfl, (by omega)⟩
  (try simp only [qd, ne_eq] at h2)
  simp only [qz]
  refine rg_nil (ek_next (wk_cond_t rfl (wk_seq ?_)))
  refine wk_region [0, 1, 0] rfl (by kernel_rfl) ?_
  simp only [qy]
  refine rf_build (cs := fun a => #[.int .i64 0, .slice none 0 0]) rfl rfl (by kernel_rfl) ?_
  simp only [qz]
  refine rf_storeR (n := 2) rfl rfl (by kernel_rfl) rfl rfl (UpdR.here _ _ _ (Nat.le_of_ble_eq_true rfl)) (fun _ h => by cases h) ?_
  simp only [qz, Nat.reduceAdd]
  refine rg_assign ?_
  simp only [qz]
  refine rg_nil (ek_next (wk_ret (ek_then_ret ?_)))
  refine ek_ret (fun w hw => ⟨rfl, _, run_results2 rfl rfl (Kn.hd0 hw) Try.underlying38 rfl (by kernel_rfl), ?_⟩)
  (try simp only [qz])
  have hce := permB_lim h1 (by omega)
  obtain ⟨e1, e2⟩ := pm_no (xs := xs) (by rw [hce]; decide)
  rw [hce, e1, e2]
  exact ⟨.slice none 0 0, [], rfl, OwnG.nil, .nil hw.below⟩

end Go.Proofs.Ytccbinnlnkpplaa
namespace Go.Proofs.Ytccbinnlnkpplaa
set_option linter.all false
open Go.RowKit

abbrev zs (xs : List Int) : List Value := xs.map (.int .i64 ·)
theorem zInfo : (Try.prog.info? 3).map (fun i => (i.zero, i.size, i.bytes)) = some (some (.int .i64 0), 1, 8) := by kernel_rfl
def OwnZ (u : List Blk) (v : Value) (xs : List Int) : Prop := Own 3 1 u v xs.length (zs xs)
theorem OwnZ.one {g : Nat} (x : Int) : OwnZ [(g, .cells #[.int .i64 x] 3)] (.slice (some ⟨g, 0, none⟩) 1 1) [x] :=
  Own.whole (cur := #[.int .i64 x]) rfl (by simp only [maxLen]; omega)
theorem OwnZ.addr {u : List Blk} {av : Option Addr} {n c : Nat} {row : List Int} (h : OwnZ u (.slice av n c) row) (hn : 0 < row.length) : ∃ ad, av = some ad ∧ ∀ {B w : World} {F : List Nat} {s : List Blk}, Kn B F s w → u.Sublist s → AS w (some ad) (zs row) := by
  rcases h.2 with ⟨_, e, h0⟩ | ⟨g, cap, cur, _, e, _⟩
  · omega
  · cases e
    refine ⟨_, rfl, fun K hs => ?_⟩
    obtain ⟨a, cap, e, hA⟩ := Own.as (s := []) h (by rw [List.append_nil]; exact K.sub hs)
    cases e
    exact hA
theorem Own.open1 {e n : Nat} {u : List Blk} {v : Value} {xs : List Value} (h : Own e 1 u v n xs) (hn : 0 < n) : ∃ g cap rest, u = [(g, .cells (xs ++ rest).toArray e)] ∧ v = .slice (some ⟨g, 0, none⟩) n cap ∧ xs.length = n := by
  obtain ⟨hl, ⟨rfl, rfl, h0⟩ | ⟨g, cap, cur, rfl, rfl, hc, hm, hs, ht⟩⟩ := h
  · omega
  · refine ⟨g, cap, cur.toList.drop (n * 1), ?_, rfl, by omega⟩
    rw [← ht, List.take_append_drop]
end Go.Proofs.Ytccbinnlnkpplaa
namespace Go.Proofs.Ytccbinnlnkpplaa
set_option linter.all false
open Go.RowKit

theorem CrL.facts {xs : List Int} {L : List It} (h : CrL xs L) (h0 : crE xs = 0) : Perm xs ∧ invs xs = L.length ∧ matO xs.length L = .ok (pmL xs) ∧ isP xs.length L = true ∧ itemE xs.length L = 0 ∧ permZ xs.length L = xs ∧ pmN xs = xs.length := by
  obtain ⟨hp, h6⟩ := crE_zero h0
  unfold CrL at h
  rw [if_pos h0] at h
  obtain ⟨ys, l, hE, hs, rfl⟩ := h
  have c := ex_cr hp h6 hE hs
  obtain ⟨e1, e2, -⟩ := pm_yes hp h6
  exact ⟨hp, by rw [c.len, List.length_map], by rw [c.mat, e1, pmS_all hp], c.isp, c.item, c.prm, e2⟩
theorem CrL.len_le {xs : List Int} {L : List It} (h : CrL xs L) : L.length ≤ 1000000 := Nat.le_trans h.len (by decide)
set_option maxRecDepth 100000 in
set_option maxHeartbeats 1000000 in
theorem rSameC_eq (n : Int) (xs : List Nm) (a a' : Option Addr) (c c' : Nat) (hl : xs.length ≤ 1000000) (w : World) (hA : AS w a (nms xs)) (hB : AS w a' (nms xs)) : Calls Try.prog 36 #[.agg #[.int .i64 n, .slice a xs.length c], .agg #[.int .i64 n, .slice a' xs.length c']] w fun e w' => e = .returned (.bool true) ∧ Below w.heap.size w w' := by
  go_enter Try.func36, Try.ntmps36
  refine wk_start ?_
  refine wk_seq ?_
  refine wk_region [1, 1, 0] rfl (by kernel_rfl) ?_
  simp only [qy]
  refine rg_new (cs := ?_) (ty := ?_) (by rfl) (fun w => ?_) (fun _ h => by cases h) (fun g1 => ?_); rotate_left 2
  focus (go_simp; rfl)
  simp only [qz]
  refine rg_new (cs := ?_) (ty := ?_) (by rfl) (fun w => ?_) (fun _ h => by cases h) (fun g2 => ?_); rotate_left 2
  focus (go_simp; rfl)
  simp only [qz]
  refine rg_assign ?_
  simp only [qz]
  refine rg_nil (ek_next (wk_seq (wk_seq ?_)))
  refine wk_region [0, 0, 0, 0, 0, 0, 0, 0, 0, 0, 0, 0, 0, 0] rfl (by kernel_rfl) ?_
  simp only [qy]
  refine rf_field (n := 0) (j := 0) rfl rfl rfl Try.underlying38 rfl (by kernel_rfl) rfl ?_
  simp only [qz]
  refine rf_load rfl rfl rfl Try.underlying3 rfl (fun w hw => (Kn.hd0 (Kn.tl hw)).at rfl) ?_
  simp only [qz]
  refine rf_field (n := 0) (j := 0) rfl rfl rfl Try.underlying38 rfl (by kernel_rfl) rfl ?_
  simp only [qz]
  refine rf_load rfl rfl rfl Try.underlying3 rfl (fun w hw => (Kn.hd0 hw).at rfl) ?_
  simp only [qz]
  refine rfb_neq rfl rfl rfl rfl ?_
  intro x h1
  obtain rfl : x = false := by (refine h1.symm.trans ?_; exact decide_eq_false (by omega))
  clear h1
  simp only [qz]
  refine rg_move ?_
  simp only [qz]
  refine rf_field (n := 0) (j := 1) rfl rfl rfl Try.underlying38 rfl (by kernel_rfl) rfl ?_
  simp only [qz]
  refine rf_load rfl rfl rfl Try.underlying36 rfl (fun w hw => (Kn.hd0 (Kn.tl hw)).at rfl) ?_
  simp only [qz]
  refine rf_len rfl rfl rfl Try.underlying36 ?_
  simp only [qz]
  refine rf_field (n := 0) (j := 1) rfl rfl rfl Try.underlying38 rfl (by kernel_rfl) rfl ?_
  simp only [qz]
  refine rf_load rfl rfl rfl Try.underlying36 rfl (fun w hw => (Kn.hd0 hw).at rfl) ?_
  simp only [qz]
  refine rf_len rfl rfl rfl Try.underlying36 ?_
  simp only [qz]
  refine rfb_neq rfl rfl rfl rfl ?_
  intro x h2
  obtain rfl : x = false := by (refine h2.symm.trans ?_; exact decide_eq_false (by omega))
  clear h2
  simp only [qz]
  refine rf_pick rfl rfl rfl ?_
  simp only [qz]
  refine rg_nil (ek_next (wk_cond_f rfl (wk_skip (ek_next (wk_seq (wk_seq ?_))))))
  refine wk_region [0] rfl (by kernel_rfl) ?_
  simp only [qy]
  refine rg_assign ?_
  simp only [qz]
  refine rg_nil (ek_next (wk_block ?_))
  refine wk_loopF [4, 5, 20, 21, 22, 23, 24, 25, 26, 27, 28, 29, 30, 31, 32, 33, 34, 35, 36, 37] (fun mz f s => ∃ (i : Nat), f 5 = .int .i64 i ∧ s = ((g2, .cells #[.int .i64 n, .slice a' xs.length c'] 38) :: ((g1, .cells #[.int .i64 n, .slice a xs.length c] 38) :: [])) ∧ mz = xs.length - i ∧ i ≤ xs.length) ((fun (i : Nat) => xs.length - i) (0)) ?_ (by kernel_rfl) ?_
  · exact ⟨0, rfl, rfl, rfl, by omega⟩
  rintro mz f1 s ⟨i, hs1_5, rfl, hn, hd1⟩
  simp only [Act.putF, List.foldl_cons, List.foldl_nil, hs1_5, Act.put, Act.eval, q1, q2, q3, q4, q5, q6, q7, q8, q9, q10, q11, q12, q13, q14, q15, q16, q17, q18, Nat.reduceAdd, Bool.not_true, Bool.not_false]
  clear hs1_5
  refine wk_seq (wk_seq ?_)
  refine wk_region [0, 0, 0, 0, 0] rfl (by kernel_rfl) ?_
  simp only [qy]
  refine rg_move ?_
  simp only [qz]
  refine rf_field (n := 0) (j := 1) rfl rfl rfl Try.underlying38 rfl (by kernel_rfl) rfl ?_
  simp only [qz]
  refine rf_load rfl rfl rfl Try.underlying36 rfl (fun w hw => (Kn.hd0 (Kn.tl hw)).at rfl) ?_
  simp only [qz]
  refine rf_len rfl rfl rfl Try.underlying36 ?_
  simp only [qz]
  refine rfb_lss rfl rfl rfl rfl ?_
  intro x h3
  cases x
  · (try simp only [qd, ne_eq] at h3)
    simp only [qz]
    refine rg_nil (ek_next (wk_cond_f rfl (wk_exit (ek_then_exit (ek_then_exit (ek_block_exit (ek_next (wk_seq ?_))))))))
    refine wk_region [0] rfl (by kernel_rfl) ?_
    simp only [qy]
    refine rg_assign ?_
    simp only [qz]
    refine rg_nil (ek_next (wk_ret ?_))
    refine ek_ret (fun w hw => ⟨rfl, _, res_t _ rfl, ?_⟩)
    (try simp only [qz])
    first | exact ⟨rfl, hw.below⟩ | exact ⟨trivial, hw.below⟩ | exact hw.below
  (try simp only [qd, ne_eq] at h3)
  simp only [qz]
  refine rg_nil (ek_next (wk_cond_t rfl (wk_skip (ek_next (wk_seq (wk_block (wk_seq ?_)))))))
  obtain ⟨b, off, ha, hlt, hcell⟩ := AS.openN hA (by omega)
  obtain ⟨b', off', ha', hlt', hcell'⟩ := AS.openN hB (by omega)
  subst ha ha'
  refine wk_draws _ _ [(0, 0), (1, 0), (2, 0), (3, 0), (4, 0), (5, 0), (6, 0), (7, 0), (8, 0), (9, 0), (10, 0)] [] (by kernel_rfl) (by kernel_rfl) (fun c d v a w h => by cases d <;> exact h) ((sc _ (sc _ sn))) (fun e => by first | exact absurd e (by decide) | rfl) ?_
  simp only [List.map_cons, List.map_nil, List.getD_cons_zero, List.getD_cons_succ]
  refine rf_field (n := 0) (j := 1) rfl rfl rfl Try.underlying38 rfl (by kernel_rfl) rfl ?_
  simp only [qz]
  refine rf_load rfl rfl rfl Try.underlying36 rfl (fun w hw => (Kn.hd0 (Kn.tl hw)).at rfl) ?_
  simp only [qz]
  refine rg_move ?_
  simp only [qz]
  refine rf_indexS (n := i) (sz := 5) (j := off + i * 5) rfl rfl rfl rfl Try.underlying36 (by kernel_rfl) (by omega) (by omega) rfl ?_
  simp only [qz]
  refine rf_loadC (n := 5) (vs := [.int .i64 (nm xs i).a, .int .i64 (nm xs i).b, .int .i64 (nm xs i).c, .int .i64 (nm xs i).d, .int .i64 (nm xs i).k]) rfl rfl rfl Try.underlying45 rfl (by kernel_rfl) rfl (fun w hw => atN_range ((hcell i (by omega)).kn hw hlt (by simp))) ?_
  simp only [qz]
  refine rf_field (n := 0) (j := 1) rfl rfl rfl Try.underlying38 rfl (by kernel_rfl) rfl ?_
  simp only [qz]
  refine rf_load rfl rfl rfl Try.underlying36 rfl (fun w hw => (Kn.hd0 hw).at rfl) ?_
  simp only [qz]
  refine rg_move ?_
  simp only [qz]
  refine rf_indexS (n := i) (sz := 5) (j := off' + i * 5) rfl rfl rfl rfl Try.underlying36 (by kernel_rfl) (by omega) (by omega) rfl ?_
  simp only [qz]
  refine rf_loadC (n := 5) (vs := [.int .i64 (nm xs i).a, .int .i64 (nm xs i).b, .int .i64 (nm xs i).c, .int .i64 (nm xs i).d, .int .i64 (nm xs i).k]) rfl rfl rfl Try.underlying45 rfl (by kernel_rfl) rfl (fun w hw => atN_range ((hcell' i (by omega)).kn hw hlt' (by simp))) ?_
  simp only [qz]
  refine rfb_neN (nm xs i) (nm xs i) rfl rfl rfl rfl ?_
  intro x h4
  cases x
  · (try simp only [qd, ne_eq] at h4)
    simp only [qz]
    refine rg_nil (ek_next (wk_cond_f rfl (wk_skip (ek_block (ek_next ?_)))))
    refine wk_region [0, 0, 0] rfl (by kernel_rfl) ?_
    simp only [qy]
    refine rg_move ?_
    simp only [qz]
    refine rf_add rfl rfl rfl rfl (wrap_ok (by omega) (by omega)) ?_
    simp only [qz]
    refine rg_assign ?_
    simp only [qz]
    refine rg_nil ?_
    refine ek_roundF (xs.length - (i + 1)) (by omega) (by kernel_rfl) ?_
    exact ⟨i + 1, rfl, by rfl, by rfl, (by omega)⟩
  (try simp only [qd, ne_eq] at h4)
  simp only [qz]
  simp at h4

set_option maxRecDepth 100000 in
set_option maxHeartbeats 1000000 in
theorem synthCrosses_any (xs : List Int) (a : Option Addr) (c : Nat) (w : World) (hA : AS w a (ints xs)) : Calls Try.prog 8 #[.slice a xs.length c] w fun e w' => e = .returned (.bool true) ∧ Below w.heap.size w w' := by
  go_enter Try.func8, Try.ntmps8
  refine wk_start ?_
  refine wk_seq ?_
  refine wk_region [0] rfl (by kernel_rfl) ?_
  simp only [qy]
  refine rg_assign ?_
  simp only [qz]
  refine rg_nil (ek_next (wk_seq (wk_seq ?_)))
  refine wk_region [0, 0, 0] rfl (by kernel_rfl) ?_
  simp only [qy]
  refine rg_move ?_
  simp only [qz]
  refine rf_len rfl rfl rfl Try.underlying22 ?_
  simp only [qz]
  refine rfb_gtr rfl rfl rfl rfl ?_
  intro x h1
  cases x
  · (try simp only [qd, ne_eq] at h1)
    simp only [qz]
    have hlx : xs.length ≤ 1000 := by omega
    refine rg_nil (ek_next (wk_cond_f rfl (wk_skip (ek_next (wk_seq ?_)))))
    refine wk_region [0, 1, 0, 0, 0, 0, 0] rfl (by kernel_rfl) ?_
    simp only [qy]
    refine rg_move ?_
    simp only [qz]
    apply rg_retL (by rfl) (by kernel_rfl)
    case hargs => (simp only [qm, qs, Act.eval]; exact rfl)
    case h => exact fun w hw => mcross_any xs a c hlx w (hA.kn0 hw)
    case hz => exact (fun _ h => by cases h)
    intro L1 va1 vc1 u1 hT1 hO1
    simp only [qz]
    refine rg_move ?_
    simp only [qz]
    refine rf_extract rfl rfl rfl rfl ?_
    simp only [qz]
    refine rf_extract rfl rfl rfl rfl ?_
    simp only [qz]
    refine rg_assign ?_
    simp only [qz]
    refine rg_assign ?_
    simp only [qz]
    refine rg_nil (ek_next (wk_seq ?_))
    refine wk_region [0, 1, 0, 0, 0, 0, 0] rfl (by kernel_rfl) ?_
    simp only [qy]
    refine rg_move ?_
    simp only [qz]
    apply rg_retL (by rfl) (by kernel_rfl)
    case hargs => (simp only [qm, qs, Act.eval]; exact rfl)
    case h => exact fun w hw => rcross_any xs a c hlx w (hA.kn0 hw)
    case hz => exact (fun _ h => by cases h)
    intro L2 va2 vc2 u2 hT2 hO2
    simp only [qz]
    obtain rfl : L1 = L2 := CrL.same hT1 hT2
    refine rg_move ?_
    simp only [qz]
    refine rf_extract rfl rfl rfl rfl ?_
    simp only [qz]
    refine rf_extract rfl rfl rfl rfl ?_
    simp only [qz]
    refine rg_assign ?_
    simp only [qz]
    refine rg_assign ?_
    simp only [qz]
    refine rg_nil (ek_next (wk_seq ?_))
    refine wk_region [0, 1, 0, 0, 0, 1, 1, 0] rfl (by kernel_rfl) ?_
    simp only [qy]
    refine rg_move ?_
    simp only [qz]
    apply rg_retM (by rfl) (by kernel_rfl)
    case hargs => (simp only [qm, qs, Act.eval]; exact rfl)
    case h => exact fun w hw => mpermm_any xs a c hlx w (hA.kn0 hw)
    case hz => exact (fun _ h => by cases h)
    intro va3 vc3 u3 hO3
    simp only [qz]
    refine rg_move ?_
    simp only [qz]
    refine rf_extract rfl rfl rfl rfl ?_
    simp only [qz]
    refine rf_extract rfl rfl rfl rfl ?_
    simp only [qz]
    refine rg_new (cs := ?_) (ty := ?_) (by rfl) (fun w => ?_) (fun _ h => by cases h) (fun g4 => ?_); rotate_left 2
    focus (go_simp; rfl)
    simp only [qz]
    refine rf_storeR (n := 2) rfl rfl (by kernel_rfl) rfl rfl (UpdR.here _ _ _ (Nat.le_of_ble_eq_true rfl)) (fun _ h => by cases h) ?_
    simp only [qz, Nat.reduceAdd]
    refine rg_assign ?_
    simp only [qz]
    refine rg_nil (ek_next (wk_seq ?_))
    refine wk_region [0, 1, 0, 0, 0, 1, 1, 0] rfl (by kernel_rfl) ?_
    simp only [qy]
    refine rg_move ?_
    simp only [qz]
    apply rg_retM (by rfl) (by kernel_rfl)
    case hargs => (simp only [qm, qs, Act.eval]; exact rfl)
    case h => exact fun w hw => rpermm_any xs a c hlx w (hA.kn0 hw)
    case hz => exact (fun _ h => by cases h)
    intro va5 vc5 u5 hO5
    simp only [qz]
    refine rg_move ?_
    simp only [qz]
    refine rf_extract rfl rfl rfl rfl ?_
    simp only [qz]
    refine rf_extract rfl rfl rfl rfl ?_
    simp only [qz]
    refine rg_new (cs := ?_) (ty := ?_) (by rfl) (fun w => ?_) (fun _ h => by cases h) (fun g6 => ?_); rotate_left 2
    focus (go_simp; rfl)
    simp only [qz]
    refine rf_storeR (n := 2) rfl rfl (by kernel_rfl) rfl rfl (UpdR.here _ _ _ (Nat.le_of_ble_eq_true rfl)) (fun _ h => by cases h) ?_
    simp only [qz, Nat.reduceAdd]
    refine rg_assign ?_
    simp only [qz]
    refine rg_nil (ek_next (wk_seq (wk_seq ?_)))
    refine wk_region [0, 0, 1, 0, 0, 0, 0, 0, 0, 0, 0, 0, 1, 0, 0, 0, 0, 0, 0, 0, 0, 1, 0, 0] rfl (by kernel_rfl) ?_
    simp only [qy]
    refine rg_move ?_
    simp only [qz]
    refine rg_move ?_
    simp only [qz]
    apply rg_pure (by rfl) (by kernel_rfl)
    case hargs => (simp only [qm, qs, Act.eval]; exact rfl)
    case h => exact fun w hw => sameItems_eq _ _ _ _ _ hT1.len_le w (hO1.asT (hw.perm ((((((((((((List.Perm.refl _).append_left _).trans (List.perm_append_comm_assoc u2 u1 _)).append_left _).trans (List.perm_append_comm_assoc u3 u1 _)).cons _).trans (List.perm_middle (l₁ := u1)).symm).append_left _).trans (List.perm_append_comm_assoc u5 u1 _)).cons _).trans (List.perm_middle (l₁ := u1)).symm).trans ((List.Perm.refl _).append_left _)))) (hO2.asT (hw.perm ((((((((((List.Perm.refl _).append_left _).trans (List.perm_append_comm_assoc u3 u2 _)).cons _).trans (List.perm_middle (l₁ := u2)).symm).append_left _).trans (List.perm_append_comm_assoc u5 u2 _)).cons _).trans (List.perm_middle (l₁ := u2)).symm).trans ((List.Perm.refl _).append_left _))))
    case hz => exact (fun _ h => by cases h)
    simp only [qz]
    refine rf_not rfl rfl rfl ?_
    simp only [qz]
    refine rg_move ?_
    simp only [qz]
    apply rg_soft_g
    case hg => rfl
    case hy => (intro w hw; go_simp; (try go_bits); exact Yld.mk _ _)
    simp only [qz]
    apply rg_soft_g
    case hg => rfl
    case hy => (intro w hw; go_simp; (try go_bits); exact Yld.mk _ _)
    simp only [qz]
    refine rfb_neq rfl rfl rfl rfl ?_
    intro x h2
    obtain rfl : x = false := by (refine h2.symm.trans ?_; exact decide_eq_false (by omega))
    clear h2
    simp only [qz]
    refine rf_pick rfl rfl rfl ?_
    simp only [qz]
    refine rg_move ?_
    simp only [qz]
    refine rf_loadR (n := 2) rfl rfl rfl Try.underlying38 rfl (by kernel_rfl) (fun w hw => Kn.hd0 (Kn.tlU (Kn.tl hw))) rfl rfl ?_
    simp only [qz]
    refine rf_loadR (n := 2) rfl rfl rfl Try.underlying38 rfl (by kernel_rfl) (fun w hw => Kn.hd0 hw) rfl rfl ?_
    simp only [qz]
    apply rg_pure (by rfl) (by kernel_rfl)
    case hargs => (simp only [qm, qs, Act.eval]; exact rfl)
    case h => exact fun w hw => rSameC_eq _ (pmL xs) _ _ _ _ (Nat.le_trans (pmL_len xs) (by decide)) w (hO3.asM (hw.perm ((((((((List.Perm.refl _).cons _).trans (List.perm_middle (l₁ := u3)).symm).append_left _).trans (List.perm_append_comm_assoc u5 u3 _)).cons _).trans (List.perm_middle (l₁ := u3)).symm).trans ((List.Perm.refl _).append_left _)))) (hO5.asM (hw.perm (perm_atU (l := [_]) (u := u5) (List.Perm.refl _))))
    case hz => exact (fun _ h => by cases h)
    simp only [qz]
    refine rf_not rfl rfl rfl ?_
    simp only [qz]
    refine rf_pick rfl rfl rfl ?_
    simp only [qz]
    refine rg_move ?_
    simp only [qz]
    apply rg_soft_g
    case hg => rfl
    case hy => (intro w hw; go_simp; (try go_bits); exact Yld.mk _ _)
    simp only [qz]
    apply rg_soft_g
    case hg => rfl
    case hy => (intro w hw; go_simp; (try go_bits); exact Yld.mk _ _)
    simp only [qz]
    refine rfb_neq rfl rfl rfl rfl ?_
    intro x h3
    obtain rfl : x = false := by (refine h3.symm.trans ?_; exact decide_eq_false (by omega))
    clear h3
    simp only [qz]
    refine rf_pick rfl rfl rfl ?_
    simp only [qz]
    refine rg_move ?_
    simp only [qz]
    apply rg_pure (by rfl) (by kernel_rfl)
    case hargs => (simp only [qm, qs, Act.eval]; exact rfl)
    case h => exact fun w hw => sane_any w
    case hz => exact (fun _ h => by cases h)
    simp only [qz]
    refine rf_not rfl rfl rfl ?_
    simp only [qz]
    refine rf_pick rfl rfl rfl ?_
    simp only [qz]
    refine rg_nil (ek_next (wk_cond_f rfl (wk_skip (ek_next (wk_seq (wk_seq ?_))))))
    refine wk_region [0, 0] rfl (by kernel_rfl) ?_
    simp only [qy]
    refine rg_move ?_
    simp only [qz]
    refine rfb_neq rfl rfl rfl rfl ?_
    intro x h4
    cases x
    · (try simp only [qd, ne_eq] at h4)
      simp only [qz]
      obtain ⟨hp, hil, hmo, hip, hie, hpz, hpn⟩ := hT1.facts (by simpa using h4)
      replace hmo := Lib.hid hmo
      replace hip := Lib.hid hip
      replace hie := Lib.hid hie
      replace hpz := Lib.hid hpz
      rw [hpn]
      clear hpn
      clear h4
      refine rg_nil (ek_next (wk_cond_f rfl (wk_skip (ek_next (wk_seq ?_)))))
      refine wk_region [0, 1, 0, 0, 0, 0, 0] rfl (by kernel_rfl) ?_
      simp only [qy]
      refine rg_move ?_
      simp only [qz]
      apply rg_pure (by rfl) (by kernel_rfl)
      case hargs => (simp only [qm, qs, Act.eval]; exact rfl)
      case h => exact fun w hw => inversions_yes xs a c hlx hp w (hA.kn0 hw)
      case hz => exact (fun _ h => by cases h)
      simp only [qz]
      refine rg_move ?_
      simp only [qz]
      refine rf_extract rfl rfl rfl rfl ?_
      simp only [qz]
      refine rf_extract rfl rfl rfl rfl ?_
      simp only [qz]
      refine rg_assign ?_
      simp only [qz]
      refine rg_assign ?_
      simp only [qz]
      refine rg_nil (ek_next (wk_seq ?_))
      refine wk_region [0, 0, 0, 1, 0, 0, 0, 1, 1, 0] rfl (by kernel_rfl) ?_
      simp only [qy]
      refine rg_move ?_
      simp only [qz]
      refine rf_len rfl rfl rfl Try.underlying22 ?_
      simp only [qz]
      refine rg_move ?_
      simp only [qz]
      apply (rg_retM (n := (xs.length : Int)) (zs := pmL xs) (c := 0)) (by rfl) (by kernel_rfl)
      case hargs => (simp only [qm, qs, Act.eval]; exact rfl)
      case h => exact fun w hw => by have := matrixOf_any xs.length L1 va1 vc1 w (hO1.asT (hw.perm ((((((((((((List.Perm.refl _).append_left _).trans (List.perm_append_comm_assoc u2 u1 _)).append_left _).trans (List.perm_append_comm_assoc u3 u1 _)).cons _).trans (List.perm_middle (l₁ := u1)).symm).append_left _).trans (List.perm_append_comm_assoc u5 u1 _)).cons _).trans (List.perm_middle (l₁ := u1)).symm).trans ((List.Perm.refl _).append_left _)))); rw [hmo.out, Int.toNat_natCast] at this; exact this
      case hz => exact (fun _ h => by cases h)
      intro va7 vc7 u7 hO7
      simp only [qz]
      refine rg_move ?_
      simp only [qz]
      refine rf_extract rfl rfl rfl rfl ?_
      simp only [qz]
      refine rf_extract rfl rfl rfl rfl ?_
      simp only [qz]
      refine rg_new (cs := ?_) (ty := ?_) (by rfl) (fun w => ?_) (fun _ h => by cases h) (fun g8 => ?_); rotate_left 2
      focus (go_simp; rfl)
      simp only [qz]
      refine rf_storeR (n := 2) rfl rfl (by kernel_rfl) rfl rfl (UpdR.here _ _ _ (Nat.le_of_ble_eq_true rfl)) (fun _ h => by cases h) ?_
      simp only [qz, Nat.reduceAdd]
      refine rg_assign ?_
      simp only [qz]
      refine rg_nil (ek_next (wk_seq ?_))
      refine wk_region [0, 0, 0, 1, 0, 0, 0, 0, 0, 0, 0] rfl (by kernel_rfl) ?_
      simp only [qy]
      refine rg_move ?_
      simp only [qz]
      refine rf_len rfl rfl rfl Try.underlying22 ?_
      simp only [qz]
      refine rg_move ?_
      simp only [qz]
      apply (rg_retI (fv := fun v => .tuple #[v, .bool true, .int .i64 0]) (T := fun zs => zs = xs)) (by rfl) (by kernel_rfl)
      case hargs => (simp only [qm, qs, Act.eval]; exact rfl)
      case h => exact fun w hw => by have := permOfS L1 va1 vc1 xs.length w (hO1.asT (hw.perm ((((((((((((((((List.Perm.refl _).append_left _).trans (List.perm_append_comm_assoc u2 u1 _)).append_left _).trans (List.perm_append_comm_assoc u3 u1 _)).cons _).trans (List.perm_middle (l₁ := u1)).symm).append_left _).trans (List.perm_append_comm_assoc u5 u1 _)).cons _).trans (List.perm_middle (l₁ := u1)).symm).append_left _).trans (List.perm_append_comm_assoc u7 u1 _)).cons _).trans (List.perm_middle (l₁ := u1)).symm).trans ((List.Perm.refl _).append_left _)))); rw [hip.out, hie.out, hpz.out] at this; exact this
      case hz => exact (fun _ h => by cases h)
      intro v9 u9 z9 hO9 hT9
      simp only [qz]
      rw [hT9] at hO9
      clear hT9
      obtain ⟨ap, cp, rfl⟩ := hO9.val
      refine rg_move ?_
      simp only [qz]
      refine rf_extract rfl rfl rfl rfl ?_
      simp only [qz]
      refine rf_extract rfl rfl rfl rfl ?_
      simp only [qz]
      refine rf_extract rfl rfl rfl rfl ?_
      simp only [qz]
      refine rg_assign ?_
      simp only [qz]
      refine rg_assign ?_
      simp only [qz]
      refine rg_assign ?_
      simp only [qz]
      refine rg_nil (ek_next (wk_seq ?_))
      refine wk_region [0, 0, 0, 0, 0, 0, 0, 0, 0, 0, 0, 0, 0, 0, 0, 0, 0, 0, 0, 1, 0, 0, 0, 0, 0, 0, 0, 1, 0, 0] rfl (by kernel_rfl) ?_
      simp only [qy]
      refine rg_move ?_
      simp only [qz]
      refine rf_eql (b := true) rfl rfl rfl rfl (by decide) ?_
      simp only [qz]
      refine rg_move ?_
      simp only [qz]
      apply rg_soft_g
      case hg => rfl
      case hy => (intro w hw; go_simp; (try go_bits); exact Yld.mk _ _)
      simp only [qz]
      refine rf_eql (b := true) rfl rfl rfl rfl (by decide) ?_
      simp only [qz]
      refine rf_pick rfl rfl rfl ?_
      simp only [qz]
      refine rg_move ?_
      simp only [qz]
      apply rg_soft_g
      case hg => rfl
      case hy => (intro w hw; go_simp; (try go_bits); exact Yld.mk _ _)
      simp only [qz]
      refine rf_eql (b := true) rfl rfl rfl rfl (by decide) ?_
      simp only [qz]
      refine rf_pick rfl rfl rfl ?_
      simp only [qz]
      refine rg_move ?_
      simp only [qz]
      apply rg_soft_g
      case hg => rfl
      case hy => (intro w hw; go_simp; (try go_bits); exact Yld.mk _ _)
      simp only [qz]
      apply rg_soft_g
      case hg => rfl
      case hy => (intro w hw; go_simp; (try go_bits); exact Yld.mk _ _)
      simp only [qz]
      refine rf_len rfl rfl rfl Try.underlying32 ?_
      simp only [qz]
      refine rfb_eql rfl rfl rfl rfl ?_
      intro x h5
      obtain rfl : x = true := by (refine h5.symm.trans ?_; exact decide_eq_true (by omega))
      clear h5
      simp only [qz]
      refine rf_pick rfl rfl rfl ?_
      simp only [qz]
      refine rg_move ?_
      simp only [qz]
      refine rf_loadR (n := 2) rfl rfl rfl Try.underlying38 rfl (by kernel_rfl) (fun w hw => Kn.hd0 (Kn.tlU hw)) rfl rfl ?_
      simp only [qz]
      refine rf_loadR (n := 2) rfl rfl rfl Try.underlying38 rfl (by kernel_rfl) (fun w hw => Kn.hd0 (Kn.tlU (Kn.tl (Kn.tlU (Kn.tl (Kn.tlU hw)))))) rfl rfl ?_
      simp only [qz]
      apply rg_pure (by rfl) (by kernel_rfl)
      case hargs => (simp only [qm, qs, Act.eval]; exact rfl)
      case h => exact fun w hw => rSameC_eq _ (pmL xs) _ _ _ _ (Nat.le_trans (pmL_len xs) (by decide)) w (hO7.asM (hw.perm ((((((List.Perm.refl _).cons _).trans (List.perm_middle (l₁ := u7)).symm).append_left _).trans (List.perm_append_comm_assoc u9 u7 _)).trans ((List.Perm.refl _).append_left _)))) (hO3.asM (hw.perm ((((((((((((((List.Perm.refl _).cons _).trans (List.perm_middle (l₁ := u3)).symm).append_left _).trans (List.perm_append_comm_assoc u5 u3 _)).cons _).trans (List.perm_middle (l₁ := u3)).symm).append_left _).trans (List.perm_append_comm_assoc u7 u3 _)).cons _).trans (List.perm_middle (l₁ := u3)).symm).append_left _).trans (List.perm_append_comm_assoc u9 u3 _)).trans ((List.Perm.refl _).append_left _))))
      case hz => exact (fun _ h => by cases h)
      simp only [qz]
      refine rf_pick rfl rfl rfl ?_
      simp only [qz]
      refine rg_move ?_
      simp only [qz]
      apply rg_soft_g
      case hg => rfl
      case hy => (intro w hw; go_simp; (try go_bits); exact Yld.mk _ _)
      simp only [qz]
      refine rf_pick rfl rfl rfl ?_
      simp only [qz]
      refine rg_move ?_
      simp only [qz]
      apply rg_soft_g
      case hg => rfl
      case hy => (intro w hw; go_simp; (try go_bits); exact Yld.mk _ _)
      simp only [qz]
      apply rg_soft_g
      case hg => rfl
      case hy => (intro w hw; go_simp; (try go_bits); exact Yld.mk _ _)
      simp only [qz]
      apply rg_pure (by rfl) (by kernel_rfl)
      case hargs => (simp only [qm, qs, Act.eval]; exact rfl)
      case h => exact fun w hw => by have := same_any xs xs ap cp a c hlx hlx w (hO9.as (hw.perm (List.Perm.refl _))) (hA.kn0 hw); rw [show sameB xs xs = true from decide_eq_true rfl] at this; exact this
      case hz => exact (fun _ h => by cases h)
      simp only [qz]
      refine rf_pick rfl rfl rfl ?_
      simp only [qz]
      refine rg_assign ?_
      simp only [qz]
      refine rg_nil (ek_next (wk_ret ?_))
      refine ek_ret (fun w hw => ⟨rfl, _, res_t _ rfl, ?_⟩)
      (try simp only [qz])
      first | exact ⟨rfl, hw.below⟩ | exact ⟨trivial, hw.below⟩ | exact hw.below
    (try simp only [qd, ne_eq] at h4)
    simp only [qz]
    refine rg_nil (ek_next (wk_cond_t rfl (wk_seq ?_)))
    refine wk_region [0] rfl (by kernel_rfl) ?_
    simp only [qy]
    refine rg_assign ?_
    simp only [qz]
    refine rg_nil (ek_next (wk_ret (ek_then_ret ?_)))
    refine ek_ret (fun w hw => ⟨rfl, _, res_t _ rfl, ?_⟩)
    (try simp only [qz])
    first | exact ⟨rfl, hw.below⟩ | exact ⟨trivial, hw.below⟩ | exact hw.below
  (try simp only [qd, ne_eq] at h1)
  simp only [qz]
  refine rg_nil (ek_next (wk_cond_t rfl (wk_seq ?_)))
  refine wk_region [1, 0] rfl (by kernel_rfl) ?_
  simp only [qy]
  apply rg_pure (by rfl) (by kernel_rfl)
  case hargs => (simp only [qm, qs, Act.eval]; exact rfl)
  case h => exact fun w hw => sane_any w
  case hz => exact (fun _ h => by cases h)
  simp only [qz]
  refine rg_assign ?_
  simp only [qz]
  refine rg_nil (ek_next (wk_ret (ek_then_ret ?_)))
  refine ek_ret (fun w hw => ⟨rfl, _, res_t _ rfl, ?_⟩)
  (try simp only [qz])
  first | exact ⟨rfl, hw.below⟩ | exact ⟨trivial, hw.below⟩ | exact hw.below

end Go.Proofs.Ytccbinnlnkpplaa
