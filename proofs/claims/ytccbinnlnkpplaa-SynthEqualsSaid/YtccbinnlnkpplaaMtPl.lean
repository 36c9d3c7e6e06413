/- Plain: lists that are made one by one till an error; the elements of matrices; patterns. -/
import Derived.Test.YtccbinnlnkpplaaSg
namespace Go.Proofs.Ytccbinnlnkpplaa
set_option linter.all false

abbrev LR := Except Int (List Nm)
/-- The first t elements, or the first error. -/
def gather (f : Nat → NR) : Nat → LR
  | 0 => .ok []
  | t + 1 => match gather f t with
    | .error c => .error c
    | .ok l => match f t with
      | .ok z => .ok (l ++ [z])
      | .error c => .error c
theorem gather_ok {f : Nat → NR} {t : Nat} {l : List Nm} {z : Nm} (h : gather f t = .ok l) (hz : f t = .ok z) : gather f (t + 1) = .ok (l ++ [z]) := by
  simp only [gather, h, hz]
theorem gather_err {f : Nat → NR} {t : Nat} {l : List Nm} {c : Int} (h : gather f t = .ok l) (hz : f t = .error c) : ∀ m, t < m → gather f m = .error c := by
  intro m hm
  induction m with
  | zero => omega
  | succ m ih =>
    rcases (by omega : t = m ∨ t < m) with rfl | hm
    · simp only [gather, h, hz]
    · simp only [gather, ih hm]
theorem gather_len {f : Nat → NR} : ∀ {t : Nat} {l : List Nm}, gather f t = .ok l → l.length = t
  | 0, l, h => by cases h; rfl
  | t + 1, l, h => by
    simp only [gather] at h
    split at h
    · cases h
    · next l0 h0 =>
      split at h
      · cases h
        simp [gather_len h0]
      · cases h
theorem gather_get {f : Nat → NR} : ∀ {t : Nat} {l : List Nm}, gather f t = .ok l → ∀ i, i < t → f i = .ok (nm l i)
  | 0, _, _, i, hi => by omega
  | t + 1, l, h, i, hi => by
    simp only [gather] at h
    split at h
    · cases h
    · next l0 h0 =>
      split at h
      · next z hz =>
        cases h
        have hl := gather_len h0
        rcases (by omega : i < t ∨ i = t) with h1 | rfl
        · rw [gather_get h0 i h1]
          exact congrArg _ (NmE.at_app [z] (by omega)).symm
        · rw [hz, ← hl]
          exact congrArg _ (NmE.at_snoc l0 z).symm
      · cases h
theorem gather_congr {f g : Nat → NR} : ∀ t, (∀ i, i < t → f i = g i) → gather f t = gather g t
  | 0, _ => rfl
  | t + 1, h => by simp only [gather, gather_congr t fun i hi => h i (by omega), h t (by omega)]
theorem gather_err_mem {f : Nat → NR} {c : Int} : ∀ {t : Nat}, gather f t = .error c → ∃ i, i < t ∧ f i = .error c
  | 0, h => by cases h
  | t + 1, h => by
    simp only [gather] at h
    split at h
    · next c' h0 =>
      cases h
      obtain ⟨i, hi, he⟩ := gather_err_mem h0
      exact ⟨i, by omega, he⟩
    · split at h
      · cases h
      · next c' he =>
        cases h
        exact ⟨t, by omega, he⟩
theorem gather_pure (f : Nat → Nm) : ∀ t, gather (fun i => .ok (f i)) t = .ok ((List.range t).map f)
  | 0 => rfl
  | t + 1 => by simp only [gather, gather_pure f t, List.range_succ, List.map_append, List.map_cons, List.map_nil]
/-- What a matrix that is made has: its number of rows, its elements, the error. -/
def rN (N : Nat) (r : LR) : Int := match r with
  | .ok _ => N
  | .error _ => 0
def rL (r : LR) : List Nm := match r with
  | .ok l => l
  | .error _ => []
def rC (r : LR) : Int := match r with
  | .ok _ => 0
  | .error c => c
/-- The matrix of a function of row and column. -/
def madeR (N : Nat) (f : Nat → Nat → NR) : LR := gather (fun t => f (t / N) (t % N)) (N * N)
theorem ix_div {N i k : Nat} (hk : k < N) : (i * N + k) / N = i := by
  rw [Nat.mul_comm, Nat.mul_add_div (by omega), Nat.div_eq_of_lt hk, Nat.add_zero]
theorem ix_mod {N i k : Nat} (hk : k < N) : (i * N + k) % N = k := by
  rw [Nat.mul_comm, Nat.mul_add_mod, Nat.mod_eq_of_lt hk]
theorem ix_lt {N i k : Nat} (hi : i < N) (hk : k < N) : i * N + k < N * N := by
  have := Nat.mul_le_mul_right N (show i + 1 ≤ N by omega)
  rw [Nat.add_mul, Nat.one_mul] at this
  omega
theorem made_congr {N : Nat} {f g : Nat → Nat → NR} (h : ∀ i k, i < N → k < N → f i k = g i k) : madeR N f = madeR N g := by
  refine gather_congr _ fun t ht => ?_
  have hN : 0 < N := by
    rcases Nat.eq_zero_or_pos N with rfl | h
    · simp at ht
    · exact h
  exact h _ _ (Nat.div_lt_of_lt_mul ht) (Nat.mod_lt _ hN)
theorem made_get {N : Nat} {f : Nat → Nat → NR} {l : List Nm} (h : madeR N f = .ok l) {i k : Nat} (hi : i < N) (hk : k < N) : f i k = .ok (nm l (i * N + k)) := by
  have := gather_get h (i * N + k) (ix_lt hi hk)
  rwa [ix_div hk, ix_mod hk] at this
theorem made_len {N : Nat} {f : Nat → Nat → NR} {l : List Nm} (h : madeR N f = .ok l) : l.length = N * N := gather_len h

/-! ### Patterns -/
/-- From p down to 0. -/
def downs : Nat → List Nat
  | 0 => [0]
  | p + 1 => (p + 1) :: downs p
def pats : Nat → Nat → List (List Int)
  | 0, _ => []
  | 1, p => [[(p : Int)]]
  | m + 2, p => (downs p).flatMap fun f => (pats (m + 1) (p - f)).map ((f : Int) :: ·)
/-- The patterns whose first number is greater than p - t. -/
def patsT (m p : Nat) : Nat → List (List Int)
  | 0 => []
  | t + 1 => patsT m p t ++ (pats m t).map (((p - t : Nat) : Int) :: ·)
theorem pats_T (m p : Nat) : pats (m + 2) p = patsT (m + 1) p (p + 1) := by
  have key : ∀ q d, d + q = p → patsT (m + 1) p d ++ (downs q).flatMap (fun f => (pats (m + 1) (p - f)).map ((f : Int) :: ·)) = patsT (m + 1) p (p + 1) := by
    intro q
    induction q with
    | zero =>
      intro d hd
      obtain rfl : d = p := by omega
      simp only [downs, List.flatMap_cons, List.flatMap_nil, List.append_nil, patsT, Nat.sub_self]
      rfl
    | succ q ih =>
      intro d hd
      have e := ih (d + 1) (by omega)
      rw [← e]
      simp only [downs, List.flatMap_cons, patsT, List.append_assoc]
      rw [show p - (q + 1) = d by omega, show p - d = q + 1 by omega]
  exact key p 0 (by omega)
theorem patsT_len (m p : Nat) : ∀ t d, (patsT m p t).length ≤ (patsT m p (t + d)).length
  | t, 0 => Nat.le_refl _
  | t, d + 1 => by
    have := patsT_len m p t d
    show _ ≤ (patsT m p (t + d) ++ _).length
    rw [List.length_append]
    omega
theorem patsT_le {m p t : Nat} (h : t ≤ p) : (patsT (m + 1) p t).length + (pats (m + 1) t).length ≤ (pats (m + 2) p).length := by
  rw [pats_T]
  have h1 := patsT_len (m + 1) p (t + 1) (p - t)
  rw [show t + 1 + (p - t) = p + 1 by omega] at h1
  have h2 : (patsT (m + 1) p (t + 1)).length = (patsT (m + 1) p t).length + (pats (m + 1) t).length := by
    show (patsT (m + 1) p t ++ _).length = _
    rw [List.length_append, List.length_map]
  omega
theorem pats_len : ∀ (m p : Nat), ∀ r ∈ pats m p, r.length = m
  | 0, _, r, h => by simp [pats] at h
  | 1, p, r, h => by simp [pats] at h; subst h; rfl
  | m + 2, p, r, h => by
    simp only [pats, List.mem_flatMap, List.mem_map] at h
    obtain ⟨f, _, s, hs, rfl⟩ := h
    have := pats_len (m + 1) _ s hs
    simp [this]
end Go.Proofs.Ytccbinnlnkpplaa
