/- Permutations in plain words: inversions, exchanges of neighbours, inverses. -/
import Derived.Test.YtccbinnlnkpplaaSy5
namespace Go.Proofs.Ytccbinnlnkpplaa
set_option linter.all false
open Go.RowKit

theorem ix_cons_zero (x : Int) (t : List Int) : ix (x :: t) 0 = x := rfl
theorem ix_cons_succ (x : Int) (t : List Int) (k : Nat) : ix (x :: t) (k + 1) = ix t k := rfl
theorem ix_get (l : List Int) (k : Nat) (h : k < l.length) : ix l k = l[k] := by
  unfold ix; rw [List.getD_eq_getElem?_getD, List.getElem?_eq_getElem h]; rfl

/-! ### Inversions -/
def cnt (x : Int) (t : List Int) : Nat := (t.filter fun y => decide (y < x)).length
def invs : List Int → Nat
  | [] => 0
  | x :: t => cnt x t + invs t

def swapAt : List Int → Nat → List Int
  | x :: y :: t, 0 => y :: x :: t
  | x :: t, k + 1 => x :: swapAt t k
  | l, _ => l
theorem swapAt_len : ∀ (l : List Int) (k : Nat), (swapAt l k).length = l.length
  | [], _ => by simp [swapAt]
  | [x], 0 => by simp [swapAt]
  | x :: y :: t, 0 => by simp [swapAt]
  | x :: t, k + 1 => by simp [swapAt, swapAt_len t k]
theorem swapAt_set : ∀ (l : List Int) (k : Nat), k + 1 < l.length → (l.set k (ix l (k + 1))).set (k + 1) (ix l k) = swapAt l k
  | [], k, h => by simp at h
  | [x], k, h => by simp at h
  | x :: y :: t, 0, h => by simp [swapAt, ix]
  | x :: y :: t, k + 1, h => by
    have := swapAt_set (y :: t) k (by simpa using h)
    simp only [swapAt, ix_cons_succ, List.set_cons_succ]
    rw [← this]
    simp [ix]
theorem swapAt_perm : ∀ (l : List Int) (k : Nat), (swapAt l k).Perm l
  | [], _ => by simp [swapAt]
  | [x], 0 => by simp [swapAt]
  | x :: y :: t, 0 => List.Perm.swap x y t
  | x :: t, k + 1 => by simp only [swapAt]; exact (swapAt_perm t k).cons x
theorem cnt_perm (x : Int) {s t : List Int} (h : s.Perm t) : cnt x s = cnt x t := (h.filter _).length_eq
theorem invs_swap : ∀ (l : List Int) (k : Nat), k + 1 < l.length → ix l (k + 1) < ix l k → invs (swapAt l k) + 1 = invs l
  | [], k, h, _ => by simp at h
  | [x], k, h, _ => by simp at h
  | x :: y :: t, 0, _, h => by
    have hy : y < x := h
    have hx : ¬ x < y := by omega
    simp only [swapAt, invs, cnt, List.filter_cons, decide_eq_true hy, decide_eq_false hx, if_true, Bool.false_eq_true, if_false, List.length_cons]
    omega
  | x :: y :: t, k + 1, hk, h => by
    have := invs_swap (y :: t) k (by simpa using hk) h
    have hc := cnt_perm x (swapAt_perm (y :: t) k)
    simp only [swapAt, invs] at this ⊢
    rw [hc]
    omega
/-- No neighbours are the wrong way round. -/
def Up (l : List Int) (k : Nat) : Prop := ∀ j, j < k → ix l j < ix l (j + 1)
theorem up_invs : ∀ (l : List Int), (∀ j, j + 1 < l.length → ix l j < ix l (j + 1)) → invs l = 0
  | [], _ => rfl
  | [x], _ => rfl
  | x :: y :: t, h => by
    have ih := up_invs (y :: t) (fun j hj => h (j + 1) (by simpa using hj))
    have hmono : ∀ (t : List Int) (y : Int), (∀ j, j + 1 < (y :: t).length → ix (y :: t) j < ix (y :: t) (j + 1)) → ∀ z ∈ t, y < z := by
      intro t
      induction t with
      | nil => intro y _ z hz; cases hz
      | cons a t iht =>
        intro y hy z hz
        have h0 : y < a := hy 0 (by simp)
        rcases List.mem_cons.1 hz with rfl | hz
        · exact h0
        · have := iht a (fun j hj => hy (j + 1) (by simpa using hj)) z hz; omega
    have hc : cnt x (y :: t) = 0 := by
      unfold cnt
      have hall := hmono (y :: t) x h
      rw [List.filter_eq_nil_iff.2 (fun z hz => by have := hall z hz; simp; omega)]
      rfl
    simp only [invs] at ih ⊢
    omega
theorem invs_snoc : ∀ (l : List Int) (x : Int), invs (l ++ [x]) = invs l + (l.filter fun y => decide (x < y)).length
  | [], x => by simp [invs, cnt]
  | y :: t, x => by
    have ih := invs_snoc t x
    simp only [List.cons_append, invs, ih, cnt, List.filter_append, List.length_append, List.filter_cons, List.filter_nil]
    by_cases h : x < y
    · simp only [decide_eq_true h, if_true, List.length_cons, List.length_nil]; omega
    · simp only [decide_eq_false h, Bool.false_eq_true, if_false, List.length_nil]; omega

/-! ### Exchanges: ys are the places, in order, that lead from xs to l -/
inductive Ex (xs : List Int) : List Nat → List Int → Prop
  | start : Ex xs [] xs
  | step {ys : List Nat} {l : List Int} {k : Nat} (h : Ex xs ys l) (hk : k + 1 < l.length) (hu : Up l k) (hd : ix l (k + 1) < ix l k) : Ex xs (ys ++ [k]) (swapAt l k)
theorem Ex.len {xs : List Int} {ys : List Nat} {l : List Int} (h : Ex xs ys l) : l.length = xs.length := by
  induction h with
  | start => rfl
  | step h _ _ _ ih => rw [swapAt_len, ih]
theorem Ex.perm {xs : List Int} {ys : List Nat} {l : List Int} (h : Ex xs ys l) : l.Perm xs := by
  induction h with
  | start => exact List.Perm.refl _
  | step h _ _ _ ih => exact (swapAt_perm _ _).trans ih
theorem Ex.invs {xs : List Int} {ys : List Nat} {l : List Int} (h : Ex xs ys l) : Proofs.Ytccbinnlnkpplaa.invs l + ys.length = Proofs.Ytccbinnlnkpplaa.invs xs := by
  induction h with
  | start => rfl
  | step h hk _ hd ih => have := invs_swap _ _ hk hd; rw [List.length_append]; simp only [List.length_cons, List.length_nil]; omega
theorem Perm.nodup {xs : List Int} (h : Perm xs) : xs.Nodup := by
  rw [List.nodup_iff_pairwise_ne, List.pairwise_iff_getElem]
  intro i j hi hj hij e
  have := (h.2.2 j hj).2 i hij
  rw [ix_get _ _ hi, ix_get _ _ hj] at this
  exact this e
theorem Ex.ne {xs : List Int} {ys : List Nat} {l : List Int} (h : Ex xs ys l) (hp : Perm xs) {k : Nat} (hk : k + 1 < l.length) (hn : ¬ ix l k < ix l (k + 1)) : ix l (k + 1) < ix l k := by
  have hnd : l.Nodup := h.perm.nodup_iff.2 hp.nodup
  rw [List.nodup_iff_pairwise_ne, List.pairwise_iff_getElem] at hnd
  have := hnd k (k + 1) (by omega) hk (by omega)
  rw [← ix_get _ _ (by omega), ← ix_get _ _ hk] at this
  omega
end Go.Proofs.Ytccbinnlnkpplaa
