/- Plain: whole numbers of any size as digits to the base 2^32. -/
namespace Go.Proofs.Ytjeijnjaleldkaa
set_option linter.all false

abbrev b32 : Int := 4294967296
def dval : List Int → Int
  | [] => 0
  | x :: xs => x + 4294967296 * dval xs
/-- Digits. -/
def Dg (xs : List Int) : Prop := ∀ x ∈ xs, 0 ≤ x ∧ x < 4294967296
def dig (xs : List Int) (k : Nat) : Int := xs.getD k 0
/-- The digits of a number, without zeros at the end. -/
def digs (n : Nat) : List Int := if h : n = 0 then [] else (n % 4294967296 : Nat) :: digs (n / 4294967296)
termination_by n
decreasing_by omega

theorem pw_pos (n : Nat) : (0 : Int) < 4294967296 ^ n := Int.pow_pos (by omega)
theorem pw_succ (n : Nat) : (4294967296 : Int) ^ (n + 1) = 4294967296 * 4294967296 ^ n := by rw [Int.pow_succ, Int.mul_comm]
theorem Dg.nil : Dg [] := fun _ h => nomatch h
theorem Dg.tail {x : Int} {xs : List Int} (h : Dg (x :: xs)) : Dg xs := fun y hy => h y (by simp [hy])
theorem Dg.app {xs ys : List Int} (h : Dg xs) (k : Dg ys) : Dg (xs ++ ys) := fun x hx => (List.mem_append.1 hx).elim (h x) (k x)
theorem Dg.snoc {xs : List Int} {y : Int} (h : Dg xs) (h0 : 0 ≤ y) (h1 : y < 4294967296) : Dg (xs ++ [y]) := h.app fun x hx => by simp at hx; subst hx; exact ⟨h0, h1⟩
theorem Dg.take {xs : List Int} (h : Dg xs) (n : Nat) : Dg (xs.take n) := fun x hx => h x (List.mem_of_mem_take hx)
theorem Dg.drop {xs : List Int} (h : Dg xs) (n : Nat) : Dg (xs.drop n) := fun x hx => h x (List.mem_of_mem_drop hx)
theorem dig_mem {xs : List Int} {k : Nat} (h : k < xs.length) : dig xs k ∈ xs := by
  unfold dig; rw [List.getD_eq_getElem?_getD, List.getElem?_eq_getElem h]; exact List.getElem_mem h
theorem dig_out {xs : List Int} {k : Nat} (h : xs.length ≤ k) : dig xs k = 0 := by
  unfold dig; rw [List.getD_eq_getElem?_getD, List.getElem?_eq_none h]; rfl
theorem Dg.at {xs : List Int} (h : Dg xs) (k : Nat) : 0 ≤ dig xs k ∧ dig xs k < 4294967296 := by
  rcases Nat.lt_or_ge k xs.length with hk | hk
  · exact h _ (dig_mem hk)
  · rw [dig_out hk]; omega
theorem dval_app : ∀ (xs ys : List Int), dval (xs ++ ys) = dval xs + 4294967296 ^ xs.length * dval ys
  | [], ys => by simp [dval]
  | x :: xs, ys => by
    have := dval_app xs ys
    simp only [List.cons_append, dval, List.length_cons]
    rw [this, pw_succ]
    grind
theorem dval_snoc (xs : List Int) (y : Int) : dval (xs ++ [y]) = dval xs + 4294967296 ^ xs.length * y := by
  rw [dval_app]; simp [dval]
theorem dval_range : ∀ {xs : List Int}, Dg xs → 0 ≤ dval xs ∧ dval xs < 4294967296 ^ xs.length
  | [], _ => by simp [dval]
  | x :: xs, h => by
    have h1 := dval_range h.tail
    have h2 := h x (by simp)
    simp only [dval, List.length_cons]
    rw [pw_succ]
    omega
theorem take_snoc {xs : List Int} {k : Nat} (h : k < xs.length) : xs.take (k + 1) = xs.take k ++ [dig xs k] := by
  unfold dig
  rw [List.take_succ, List.getD_eq_getElem?_getD, List.getElem?_eq_getElem h]
  rfl
theorem dval_take {xs : List Int} {k : Nat} (h : k < xs.length) : dval (xs.take (k + 1)) = dval (xs.take k) + 4294967296 ^ k * dig xs k := by
  rw [take_snoc h, dval_snoc, List.length_take, Nat.min_eq_left (by omega)]
theorem dval_take_out {xs : List Int} {k : Nat} (h : xs.length ≤ k) : dval (xs.take k) = dval xs := by rw [List.take_of_length_le h]
/-- A digit more, be it beyond the end. -/
theorem dval_take' (xs : List Int) (k : Nat) : dval (xs.take (k + 1)) = dval (xs.take k) + 4294967296 ^ k * dig xs k := by
  rcases Nat.lt_or_ge k xs.length with h | h
  · exact dval_take h
  · rw [dval_take_out h, dval_take_out (by omega), dig_out h]; omega
theorem dval_split (xs : List Int) (k : Nat) : dval xs = dval (xs.take k) + 4294967296 ^ k * dval (xs.drop k) := by
  rcases Nat.lt_or_ge k xs.length with h | h
  · have := dval_app (xs.take k) (xs.drop k)
    rw [List.take_append_drop, List.length_take, Nat.min_eq_left (by omega)] at this
    exact this
  · rw [dval_take_out h, List.drop_of_length_le h]; simp [dval]
theorem dval_zero : ∀ {xs : List Int}, (∀ j, dig xs j = 0) → dval xs = 0
  | [], _ => rfl
  | x :: xs, h => by
    have h1 : dval xs = 0 := dval_zero fun j => h (j + 1)
    have h2 : x = 0 := h 0
    simp only [dval, h1, h2]
    omega
theorem dig_drop (xs : List Int) (k j : Nat) : dig (xs.drop k) j = dig xs (k + j) := by
  unfold dig; rw [List.getD_eq_getElem?_getD, List.getD_eq_getElem?_getD, List.getElem?_drop]
theorem dig_take {xs : List Int} {k j : Nat} (h : j < k) : dig (xs.take k) j = dig xs j := by
  unfold dig; rw [List.getD_eq_getElem?_getD, List.getD_eq_getElem?_getD, List.getElem?_take_of_lt h]
theorem dval_cut {xs : List Int} {k : Nat} (h : ∀ j, k ≤ j → dig xs j = 0) : dval xs = dval (xs.take k) := by
  rw [dval_split xs k, dval_zero (xs := xs.drop k) fun j => by rw [dig_drop]; exact h _ (by omega)]; simp

theorem digs_zero : digs 0 = [] := by unfold digs; simp
theorem digs_pos {n : Nat} (h : n ≠ 0) : digs n = ((n % 4294967296 : Nat) : Int) :: digs (n / 4294967296) := by rw [digs]; simp [h]
theorem digs_dg (n : Nat) : Dg (digs n) := by
  induction n using Nat.strongRecOn with
  | _ n ih =>
    by_cases h : n = 0
    · subst h; rw [digs_zero]; exact Dg.nil
    · rw [digs_pos h]
      intro x hx
      rcases List.mem_cons.1 hx with rfl | hx
      · omega
      · exact ih _ (by omega) x hx
theorem dval_digs (n : Nat) : dval (digs n) = n := by
  induction n using Nat.strongRecOn with
  | _ n ih =>
    by_cases h : n = 0
    · subst h; rw [digs_zero]; rfl
    · rw [digs_pos h]
      simp only [dval]
      rw [ih _ (by omega)]
      omega
/-- Without zeros at the end. -/
def Trim (xs : List Int) : Prop := xs = [] ∨ dig xs (xs.length - 1) ≠ 0
theorem digs_trim (n : Nat) : Trim (digs n) := by
  induction n using Nat.strongRecOn with
  | _ n ih =>
    by_cases h : n = 0
    · subst h; exact .inl digs_zero
    · rw [digs_pos h]
      refine .inr ?_
      rcases ih (n / 4294967296) (by omega) with he | he
      · rw [he]
        have : n / 4294967296 = 0 := by
          have := dval_digs (n / 4294967296)
          rw [he] at this
          simp [dval] at this
          omega
        show ((n % 4294967296 : Nat) : Int) ≠ 0
        omega
      · have h0 : 0 < (digs (n / 4294967296)).length := by
          rcases Nat.eq_zero_or_pos (digs (n / 4294967296)).length with h0 | h0
          · rw [List.eq_nil_of_length_eq_zero h0] at he; exact absurd rfl he
          · exact h0
        rw [show (((n % 4294967296 : Nat) : Int) :: digs (n / 4294967296)).length - 1 = ((digs (n / 4294967296)).length - 1) + 1 by simp; omega]
        exact he
theorem digs_unique : ∀ {xs : List Int}, Dg xs → Trim xs → xs = digs (dval xs).toNat
  | [], _, _ => by simp [dval, digs_zero]
  | x :: xs, h, ht => by
    have hx := h x (by simp)
    have hr := dval_range h.tail
    have ht' : Trim xs := by
      by_cases he : xs = []
      · exact .inl he
      · refine .inr ?_
        have h0 : 0 < xs.length := List.length_pos_iff.2 he
        rcases ht with ht | ht
        · cases ht
        · rw [show (x :: xs).length - 1 = (xs.length - 1) + 1 by simp; omega] at ht
          exact ht
    have hne : (dval (x :: xs)).toNat ≠ 0 := by
      simp only [dval]
      intro h0
      have hx0 : x = 0 := by omega
      have hv0 : dval xs = 0 := by omega
      have := digs_unique h.tail ht'
      rw [hv0] at this
      simp only [Int.toNat_zero, digs_zero] at this
      subst this
      rcases ht with ht | ht
      · cases ht
      · exact ht hx0
    rw [digs_pos hne]
    have e1 : (((dval (x :: xs)).toNat % 4294967296 : Nat) : Int) = x := by simp only [dval]; omega
    have e2 : (dval (x :: xs)).toNat / 4294967296 = (dval xs).toNat := by simp only [dval]; omega
    rw [e1, e2, ← digs_unique h.tail ht']
theorem trim_eq {xs : List Int} {m : Nat} (h : Dg xs) (hm : m ≤ xs.length) (hz : ∀ j, m ≤ j → dig xs j = 0) (hl : m = 0 ∨ dig xs (m - 1) ≠ 0) : xs.take m = digs (dval xs).toNat := by
  rw [dval_cut hz]
  refine digs_unique (h.take m) ?_
  rcases hl with rfl | hl
  · exact .inl (by simp)
  · by_cases h0 : m = 0
    · subst h0; exact .inl (by simp)
    · refine .inr ?_
      rw [List.length_take, Nat.min_eq_left hm, dig_take (by omega)]
      exact hl
theorem digs_len_le {n L : Nat} (h : (n : Int) < 4294967296 ^ L) : (digs n).length ≤ L := by
  rcases Nat.lt_or_ge L (digs n).length with hl | hl
  · exfalso
    have h1 := dval_digs n
    have h2 := digs_trim n
    rcases h2 with h2 | h2
    · rw [h2] at hl; simp at hl
    · have h3 := dval_split (digs n) ((digs n).length - 1)
      have h4 := (dval_range ((digs_dg n).take ((digs n).length - 1))).1
      have h5 : dval ((digs n).drop ((digs n).length - 1)) = dig (digs n) ((digs n).length - 1) := by
        have e : dval ((digs n).drop ((digs n).length - 1)) = dval (((digs n).drop ((digs n).length - 1)).take 1) := by rw [List.take_of_length_le (by simp; omega)]
        rw [e, dval_take (by simp; omega), dig_drop]
        simp [dval]
      have h6 := ((digs_dg n).at ((digs n).length - 1)).1
      rw [h5] at h3
      have h7 : (4294967296 : Int) ^ L ≤ 4294967296 ^ ((digs n).length - 1) := by
        obtain ⟨d, hd⟩ : ∃ d, (digs n).length - 1 = L + d := ⟨(digs n).length - 1 - L, by omega⟩
        rw [hd, Int.pow_add]
        have := pw_pos d
        have := pw_pos L
        have h9 : (1 : Int) ≤ 4294967296 ^ d := by omega
        have := Int.mul_le_mul_of_nonneg_left h9 (c := (4294967296 : Int) ^ L) (by omega)
        omega
      have h8 : (4294967296 : Int) ^ ((digs n).length - 1) * 1 ≤ 4294967296 ^ ((digs n).length - 1) * dig (digs n) ((digs n).length - 1) :=
        Int.mul_le_mul_of_nonneg_left (by omega) (by have := pw_pos ((digs n).length - 1); omega)
      omega
  · exact hl
theorem digs_lt_of_len {m n : Nat} (h : (digs m).length < (digs n).length) : m < n := by
  rcases Nat.lt_or_ge m n with hl | hl
  · exact hl
  · exfalso
    have h1 := dval_digs m
    have h2 := (dval_range (digs_dg m)).2
    have := digs_len_le (n := n) (L := (digs m).length) (by omega)
    omega
/-- The highest unlike digit decides. -/
theorem lt_of_dig {xs ys : List Int} {i : Nat} (hx : Dg xs) (hy : Dg ys) (hi : i < xs.length) (hl : xs.length = ys.length) (hj : ∀ j, i < j → dig xs j = dig ys j) (h : dig xs i < dig ys i) : dval xs < dval ys := by
  have e1 := dval_split xs (i + 1)
  have e2 := dval_split ys (i + 1)
  have e3 : xs.drop (i + 1) = ys.drop (i + 1) := by
    apply List.ext_getElem
    · simp [hl]
    · intro j h1 h2
      have := hj (i + 1 + j) (by omega)
      simp only [List.length_drop] at h1 h2
      unfold dig at this
      rw [List.getD_eq_getElem?_getD, List.getD_eq_getElem?_getD, List.getElem?_eq_getElem (by omega), List.getElem?_eq_getElem (by omega)] at this
      simpa using this
  rw [dval_take hi] at e1
  rw [dval_take (by omega)] at e2
  rw [e3] at e1
  have r1 := (dval_range (hx.take i)).2
  have r2 := (dval_range (hy.take i)).1
  rw [List.length_take, Nat.min_eq_left (by omega)] at r1
  have := pw_pos i
  have h8 : (4294967296 : Int) ^ i * (dig xs i + 1) ≤ 4294967296 ^ i * dig ys i := Int.mul_le_mul_of_nonneg_left (by omega) (by omega)
  rw [Int.mul_add] at h8
  omega
theorem eq_of_dig {xs ys : List Int} (hl : xs.length = ys.length) (hj : ∀ j, dig xs j = dig ys j) : xs = ys := by
  apply List.ext_getElem hl
  intro j h1 h2
  have := hj j
  unfold dig at this
  rw [List.getD_eq_getElem?_getD, List.getD_eq_getElem?_getD, List.getElem?_eq_getElem h1, List.getElem?_eq_getElem h2] at this
  simpa using this
/-- One digit becomes another. -/
theorem dval_set : ∀ {xs : List Int} {j : Nat} (y : Int), j < xs.length → dval (xs.set j y) = dval xs + 4294967296 ^ j * (y - dig xs j)
  | x :: xs, 0, y, _ => by simp [dval, dig]; omega
  | x :: xs, j + 1, y, h => by
    have := dval_set (xs := xs) (j := j) y (by simpa using h)
    simp only [List.set_cons_succ, dval]
    rw [this, pw_succ]
    have e : dig (x :: xs) (j + 1) = dig xs j := rfl
    rw [e]
    grind
theorem dig_set {xs : List Int} {j : Nat} (y : Int) (k : Nat) (h : j < xs.length) : dig (xs.set j y) k = if k = j then y else dig xs k := by
  unfold dig
  rw [List.getD_eq_getElem?_getD, List.getElem?_set, List.getD_eq_getElem?_getD]
  split
  · next e => subst e; simp [h]
  · next e => rw [if_neg (Ne.symm e)]
theorem Dg.set {xs : List Int} (h : Dg xs) (j : Nat) {y : Int} (h0 : 0 ≤ y) (h1 : y < 4294967296) : Dg (xs.set j y) := fun x hx => by
  rcases List.mem_or_eq_of_mem_set hx with h' | rfl
  · exact h x h'
  · exact ⟨h0, h1⟩
theorem digs_nil_iff {n : Nat} : digs n = [] ↔ n = 0 := by
  constructor
  · intro h; have := dval_digs n; rw [h] at this; simp [dval] at this; omega
  · rintro rfl; exact digs_zero
/-- The lowest digit tells whether a number is even. -/
theorem digs_even (n : Nat) : dig (digs n) 0 % 2 = (n : Int) % 2 := by
  by_cases h : n = 0
  · subst h; rw [digs_zero]; rfl
  · rw [digs_pos h]
    show ((n % 4294967296 : Nat) : Int) % 2 = _
    omega
theorem plus_step {xs ys zs : List Int} {i : Nat} {cy t : Int} (hl : zs.length = i) (h : dval zs + 4294967296 ^ i * cy = dval (xs.take i) + dval (ys.take i)) (ht : t = cy + dig xs i + dig ys i) :
    dval (zs ++ [t % 4294967296]) + 4294967296 ^ (i + 1) * (t / 4294967296) = dval (xs.take (i + 1)) + dval (ys.take (i + 1)) := by
  rw [dval_snoc, hl, dval_take', dval_take', pw_succ]
  have e : 4294967296 ^ i * (t % 4294967296) + 4294967296 * 4294967296 ^ i * (t / 4294967296) = 4294967296 ^ i * t := by
    have := Int.mul_ediv_add_emod t 4294967296
    grind
  have e2 : (4294967296 : Int) ^ i * t = 4294967296 ^ i * cy + 4294967296 ^ i * dig xs i + 4294967296 ^ i * dig ys i := by rw [ht]; grind
  omega
theorem minus_step {xs ys zs : List Int} {i : Nat} {bo t : Int} (hl : zs.length = i) (h : dval zs = dval (xs.take i) - dval (ys.take i) + 4294967296 ^ i * bo) (ht : t = dig xs i - bo - dig ys i) (q : Int) :
    dval (zs ++ [t + 4294967296 * q]) = dval (xs.take (i + 1)) - dval (ys.take (i + 1)) + 4294967296 ^ (i + 1) * q := by
  rw [dval_snoc, hl, dval_take', dval_take', pw_succ, ht, h]
  grind
end Go.Proofs.Ytjeijnjaleldkaa
