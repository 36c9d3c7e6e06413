/- Plain: products of unitary tables, adjoints, transposes, two beside each other; light keeps its length. -/
import Derived.Test.YtccbinnlnkpplaaVaPl
namespace Go.Proofs.Ytccbinnlnkpplaa
set_option linter.all false

section
variable {n : Nat}
theorem sum_sum_mul (f g : Nat → Q4) (m n : Nat) : sumQ m f * sumQ n g = sumQ m fun i => sumQ n fun j => f i * g j := by
  rw [← sumQ_mulr]
  exact sumQ_congr fun i _ => (sumQ_mul n (f i) g).symm
theorem mul4 (a b c d : Q4) : a * b * (c * d) = b * c * (a * d) := by
  rw [Q4.mul_comm a b, Q4.mul_assoc, Q4.mul_assoc, ← Q4.mul_assoc a c d, Q4.mul_comm a c, Q4.mul_assoc c a d]
/-- Columns of a unitary table: what a table makes of vectors keeps their products. -/
theorem un_keep {m : Nat → Nat → Q4} (h : UnC n m) (u v : Nat → Q4) :
    sumQ n (fun i => Q4.conj (sumQ n fun k => m i k * u k) * sumQ n fun l => m i l * v l) = sumQ n fun k => Q4.conj (u k) * v k := by
  have e1 : sumQ n (fun i => Q4.conj (sumQ n fun k => m i k * u k) * sumQ n fun l => m i l * v l) = sumQ n fun i => sumQ n fun k => sumQ n fun l => Q4.conj (m i k) * m i l * (Q4.conj (u k) * v l) := by
    refine sumQ_congr fun i _ => ?_
    rw [sumQ_conj, sum_sum_mul]
    refine sumQ_congr fun k _ => sumQ_congr fun l _ => ?_
    rw [Q4.conj_mul, Q4.mul_comm (Q4.conj (m i k)) (Q4.conj (u k)), mul4]
  rw [e1, sumQ_swap]
  refine sumQ_congr fun k hk => ?_
  rw [sumQ_swap]
  have e2 : sumQ n (fun l => sumQ n fun i => Q4.conj (m i k) * m i l * (Q4.conj (u k) * v l)) = sumQ n fun l => dl k l * (Q4.conj (u k) * v l) := by
    refine sumQ_congr fun l hl => ?_
    rw [sumQ_mulr, h k l hk hl]
  rw [e2]
  exact sumQ_dl (fun l => Q4.conj (u k) * v l) hk
theorem unC_mul {a b : Nat → Nat → Q4} (ha : UnC n a) (hb : UnC n b) : UnC n fun i k => sumQ n fun j => a i j * b j k := by
  intro k l hk hl
  rw [un_keep ha (fun j => b j k) (fun j => b j l)]
  exact hb k l hk hl
theorem unC_dag {a : Nat → Nat → Q4} (ha : UnC n a) : UnC n fun i k => Q4.conj (a k i) := by
  intro k l hk hl
  have h := unR_of_unC ha k l hk hl
  rw [← h]
  exact sumQ_congr fun i _ => by rw [Q4.conj_conj]
theorem unC_T {a : Nat → Nat → Q4} (ha : UnC n a) : UnC n fun i k => a k i := by
  intro k l hk hl
  have h := unR_of_unC ha l k hl hk
  rw [dl_comm, ← h]
  exact sumQ_congr fun i _ => Q4.mul_comm _ _
theorem sumQ_split (f : Nat → Q4) (m : Nat) : ∀ n, sumQ (m + n) f = sumQ m f + sumQ n fun k => f (m + k)
  | 0 => (Q4.add_zero _).symm
  | n + 1 => by
    show sumQ (m + n) f + f (m + n) = sumQ m f + (sumQ n (fun k => f (m + k)) + f (m + n))
    rw [sumQ_split f m n, Q4.add_assoc]
/-- Two tables in two corners. -/
def besQ (n : Nat) (a b : Nat → Nat → Q4) (i k : Nat) : Q4 := if i < n ∧ k < n then a i k else if n ≤ i ∧ n ≤ k then b (i - n) (k - n) else 0
theorem unC_bes {m : Nat} {a b : Nat → Nat → Q4} (ha : UnC n a) (hb : UnC m b) : UnC (n + m) (besQ n a b) := by
  intro k l hk hl
  rw [sumQ_split]
  have z1 : ∀ {i j : Nat}, i < n → n ≤ j → besQ n a b i j = 0 := fun hi hj => by unfold besQ; rw [if_neg (by omega), if_neg (by omega)]
  have z2 : ∀ {i j : Nat}, n ≤ i → j < n → besQ n a b i j = 0 := fun hi hj => by unfold besQ; rw [if_neg (by omega), if_neg (by omega)]
  have y1 : ∀ {i j : Nat}, i < n → j < n → besQ n a b i j = a i j := fun hi hj => by unfold besQ; rw [if_pos ⟨hi, hj⟩]
  have y2 : ∀ {i j : Nat}, besQ n a b (n + i) (n + j) = b i j := fun {i j} => by unfold besQ; rw [if_neg (by omega), if_pos (by omega), show n + i - n = i by omega, show n + j - n = j by omega]
  by_cases h1 : k < n
  · by_cases h2 : l < n
    · have e1 : sumQ n (fun i => Q4.conj (besQ n a b i k) * besQ n a b i l) = dl k l := by
        rw [← ha k l h1 h2]
        exact sumQ_congr fun i hi => by rw [y1 hi h1, y1 hi h2]
      have e2 : sumQ m (fun i => Q4.conj (besQ n a b (n + i) k) * besQ n a b (n + i) l) = 0 := by
        rw [← sumQ_zero m]
        exact sumQ_congr fun i hi => by rw [z2 (by omega) h1, Q4.conj_zero, Q4.zero_mul]
      rw [e1, e2, Q4.add_zero]
    have e1 : sumQ n (fun i => Q4.conj (besQ n a b i k) * besQ n a b i l) = 0 := by
      rw [← sumQ_zero n]
      exact sumQ_congr fun i hi => by rw [z1 hi (by omega : n ≤ l), Q4.mul_zero]
    have e2 : sumQ m (fun i => Q4.conj (besQ n a b (n + i) k) * besQ n a b (n + i) l) = 0 := by
      rw [← sumQ_zero m]
      exact sumQ_congr fun i hi => by rw [z2 (by omega) h1, Q4.conj_zero, Q4.zero_mul]
    rw [e1, e2, Q4.add_zero]
    unfold dl; rw [if_neg (by omega)]
  by_cases h2 : l < n
  · have e1 : sumQ n (fun i => Q4.conj (besQ n a b i k) * besQ n a b i l) = 0 := by
      rw [← sumQ_zero n]
      exact sumQ_congr fun i hi => by rw [z1 hi (by omega : n ≤ k), Q4.conj_zero, Q4.zero_mul]
    have e2 : sumQ m (fun i => Q4.conj (besQ n a b (n + i) k) * besQ n a b (n + i) l) = 0 := by
      rw [← sumQ_zero m]
      exact sumQ_congr fun i hi => by rw [z2 (by omega) h2, Q4.mul_zero]
    rw [e1, e2, Q4.add_zero]
    unfold dl; rw [if_neg (by omega)]
  obtain ⟨k', rfl⟩ : ∃ k', k = n + k' := ⟨k - n, by omega⟩
  obtain ⟨l', rfl⟩ : ∃ l', l = n + l' := ⟨l - n, by omega⟩
  have e1 : sumQ n (fun i => Q4.conj (besQ n a b i (n + k')) * besQ n a b i (n + l')) = 0 := by
    rw [← sumQ_zero n]
    exact sumQ_congr fun i hi => by rw [z1 hi (by omega), Q4.conj_zero, Q4.zero_mul]
  have e2 : sumQ m (fun i => Q4.conj (besQ n a b (n + i) (n + k')) * besQ n a b (n + i) (n + l')) = dl k' l' := by
    rw [← hb k' l' (by omega) (by omega)]
    exact sumQ_congr fun i hi => by rw [y2, y2]
  rw [e1, e2, Q4.zero_add]
  unfold dl
  by_cases h : k' = l'
  · rw [if_pos h, if_pos (by omega)]
  rw [if_neg h, if_neg (by omega)]
theorem mul_assocT (a b c : Nat → Nat → Q4) (i k : Nat) : sumQ n (fun j => (sumQ n fun l => a i l * b l j) * c j k) = sumQ n fun l => a i l * sumQ n fun j => b l j * c j k := by
  have e1 : sumQ n (fun j => (sumQ n fun l => a i l * b l j) * c j k) = sumQ n fun j => sumQ n fun l => a i l * (b l j * c j k) :=
    sumQ_congr fun j _ => by
      rw [← sumQ_mulr]
      exact sumQ_congr fun l _ => Q4.mul_assoc _ _ _
  rw [e1, sumQ_swap]
  exact sumQ_congr fun l _ => sumQ_mul n (a i l) _
theorem mul_dagT (a b : Nat → Nat → Q4) (i k : Nat) : sumQ n (fun j => Q4.conj (b j i) * Q4.conj (a k j)) = Q4.conj (sumQ n fun j => a k j * b j i) := by
  rw [sumQ_conj]
  exact sumQ_congr fun j _ => by rw [Q4.conj_mul, Q4.mul_comm]
/-- Light keeps its length. -/
theorem un_light {m : Nat → Nat → Q4} (h : UnC n m) (v : Nat → Q4) : sumQ n (fun i => (sumQ n fun k => m i k * v k) * Q4.conj (sumQ n fun k => m i k * v k)) = sumQ n fun k => v k * Q4.conj (v k) := by
  have e := un_keep h v v
  have e1 : sumQ n (fun i => (sumQ n fun k => m i k * v k) * Q4.conj (sumQ n fun k => m i k * v k)) = sumQ n fun i => Q4.conj (sumQ n fun k => m i k * v k) * sumQ n fun l => m i l * v l :=
    sumQ_congr fun i _ => Q4.mul_comm _ _
  rw [e1, e]
  exact sumQ_congr fun k _ => Q4.mul_comm _ _
end

/-! ### Numbers -/
/-- The sum of products, one after the other. -/
def prodsR (x y : Nat → Nm) : Nat → NR
  | 0 => .ok Nm.zero
  | k + 1 => match prodsR x y k with
    | .error c => .error c
    | .ok s => match (x k).mul (y k) with
      | .error c => .error c
      | .ok p => s.add p
theorem prodsR_err {x y : Nat → Nm} {k : Nat} {c : Int} (h : prodsR x y k = .error c) : ∀ m, k ≤ m → prodsR x y m = .error c := by
  intro m hm
  induction m with
  | zero => obtain rfl : k = 0 := by omega
            exact h
  | succ m ih =>
    rcases (by omega : k = m + 1 ∨ k ≤ m) with rfl | hm
    · exact h
    · simp only [prodsR, ih hm]
theorem prodsR_val {x y : Nat → Nm} (hx : ∀ k, (x k).Ok) (hy : ∀ k, (y k).Ok) : ∀ {n : Nat} {z : Nm}, prodsR x y n = .ok z → z.Ok ∧ z.val = sumQ n fun k => (x k).val * (y k).val
  | 0, z, h => by
    cases h
    exact ⟨zero_ok, val_zero⟩
  | n + 1, z, h => by
    simp only [prodsR] at h
    split at h
    · cases h
    · next s hs =>
      split at h
      · cases h
      · next p hp =>
        obtain ⟨so, sv⟩ := prodsR_val hx hy hs
        obtain ⟨po, -, pe⟩ := mk_ok (mulR_k (hx n).k0 (hy n).k0) hp
        obtain ⟨zo, -, ze⟩ := mk_ok (addR_k so.k0) h
        refine ⟨zo, ?_⟩
        show _ = sumQ n _ + _
        rw [val_eqv zo.k0 (addR_k so.k0) ze, val_addR so.k0 po.k0, sv, val_eqv po.k0 (mulR_k (hx n).k0 (hy n).k0) pe, val_mulR (hx n).k0 (hy n).k0]
theorem prodsR_code {x y : Nat → Nm} : ∀ {n : Nat} {c : Int}, prodsR x y n = .error c → c = 4
  | 0, c, h => by cases h
  | n + 1, c, h => by
    simp only [prodsR] at h
    split at h
    · next c' hc => cases h; exact prodsR_code hc
    · split at h
      · next c' hc => cases h; exact mk_err hc
      · exact mk_err h
/-- The sum of powers, one after the other. -/
def lenR (v : Nat → Nm) : Nat → NR
  | 0 => .ok Nm.zero
  | k + 1 => match lenR v k with
    | .error c => .error c
    | .ok s => match (v k).power with
      | .error c => .error c
      | .ok p => s.add p
theorem lenR_err {v : Nat → Nm} {k : Nat} {c : Int} (h : lenR v k = .error c) : ∀ m, k ≤ m → lenR v m = .error c := by
  intro m hm
  induction m with
  | zero => obtain rfl : k = 0 := by omega
            exact h
  | succ m ih =>
    rcases (by omega : k = m + 1 ∨ k ≤ m) with rfl | hm
    · exact h
    · simp only [lenR, ih hm]
theorem power_val {z p : Nm} (hz : z.Ok) (h : z.power = .ok p) : p.Ok ∧ p.val = z.val * Q4.conj z.val := by
  have hc := conj_ok hz
  obtain ⟨po, -, pe⟩ := mk_ok (mulR_k hz.k0 hc.k0) h
  exact ⟨po, by rw [val_eqv po.k0 (mulR_k hz.k0 hc.k0) pe, val_mulR hz.k0 hc.k0, val_conj]⟩
theorem lenR_val {v : Nat → Nm} (hv : ∀ k, (v k).Ok) : ∀ {n : Nat} {z : Nm}, lenR v n = .ok z → z.Ok ∧ z.val = sumQ n fun k => (v k).val * Q4.conj (v k).val
  | 0, z, h => by
    cases h
    exact ⟨zero_ok, val_zero⟩
  | n + 1, z, h => by
    simp only [lenR] at h
    split at h
    · cases h
    · next s hs =>
      split at h
      · cases h
      · next p hp =>
        obtain ⟨so, sv⟩ := lenR_val hv hs
        obtain ⟨po, pv⟩ := power_val (hv n) hp
        obtain ⟨zo, -, ze⟩ := mk_ok (addR_k so.k0) h
        refine ⟨zo, ?_⟩
        show _ = sumQ n _ + _
        rw [val_eqv zo.k0 (addR_k so.k0) ze, val_addR so.k0 po.k0, sv, pv]
end Go.Proofs.Ytccbinnlnkpplaa
