/- Several texts in one. -/
import Derived.Test.YtccbinnlnkpplaaSq
import Derived.Test.YtccbinnlnkpplaaEq
import Derived.Test.YtccbinnlnkpplaaSg
/- Plain: whole numbers of any size as digits to the base 2^32. -/
namespace Go.Proofs.Ytccbinnlnkpplaa
set_option linter.all false

abbrev b32 : Int := 4294967296
def dval : List Int → Int
  | [] => 0
  | x :: xs => x + 4294967296 * dval xs
/-- Digits. -/
def Dg (xs : List Int) : Prop := ∀ x ∈ xs, 0 ≤ x ∧ x < 4294967296
def dig (xs : List Int) (k : Nat) : Int := xs.getD k 0
/-- The digits of a number, without zeros at the end. -/
def digs (n : Nat) : List Int := if h : n = 0 then [] else (n % 4294967296 : Nat) :: digs (n / 4294967296)
termination_by n
decreasing_by omega

theorem pw_pos (n : Nat) : (0 : Int) < 4294967296 ^ n := Int.pow_pos (by omega)
theorem pw_succ (n : Nat) : (4294967296 : Int) ^ (n + 1) = 4294967296 * 4294967296 ^ n := by rw [Int.pow_succ, Int.mul_comm]
theorem Dg.nil : Dg [] := fun _ h => nomatch h
theorem Dg.tail {x : Int} {xs : List Int} (h : Dg (x :: xs)) : Dg xs := fun y hy => h y (by simp [hy])
theorem Dg.app {xs ys : List Int} (h : Dg xs) (k : Dg ys) : Dg (xs ++ ys) := fun x hx => (List.mem_append.1 hx).elim (h x) (k x)
theorem Dg.snoc {xs : List Int} {y : Int} (h : Dg xs) (h0 : 0 ≤ y) (h1 : y < 4294967296) : Dg (xs ++ [y]) := h.app fun x hx => by simp at hx; subst hx; exact ⟨h0, h1⟩
theorem Dg.take {xs : List Int} (h : Dg xs) (n : Nat) : Dg (xs.take n) := fun x hx => h x (List.mem_of_mem_take hx)
theorem Dg.drop {xs : List Int} (h : Dg xs) (n : Nat) : Dg (xs.drop n) := fun x hx => h x (List.mem_of_mem_drop hx)
theorem dig_mem {xs : List Int} {k : Nat} (h : k < xs.length) : dig xs k ∈ xs := by
  unfold dig; rw [List.getD_eq_getElem?_getD, List.getElem?_eq_getElem h]; exact List.getElem_mem h
theorem dig_out {xs : List Int} {k : Nat} (h : xs.length ≤ k) : dig xs k = 0 := by
  unfold dig; rw [List.getD_eq_getElem?_getD, List.getElem?_eq_none h]; rfl
theorem Dg.at {xs : List Int} (h : Dg xs) (k : Nat) : 0 ≤ dig xs k ∧ dig xs k < 4294967296 := by
  rcases Nat.lt_or_ge k xs.length with hk | hk
  · exact h _ (dig_mem hk)
  · rw [dig_out hk]; omega
theorem dval_app : ∀ (xs ys : List Int), dval (xs ++ ys) = dval xs + 4294967296 ^ xs.length * dval ys
  | [], ys => by simp [dval]
  | x :: xs, ys => by
    have := dval_app xs ys
    simp only [List.cons_append, dval, List.length_cons]
    rw [this, pw_succ]
    grind
theorem dval_snoc (xs : List Int) (y : Int) : dval (xs ++ [y]) = dval xs + 4294967296 ^ xs.length * y := by
  rw [dval_app]; simp [dval]
theorem dval_range : ∀ {xs : List Int}, Dg xs → 0 ≤ dval xs ∧ dval xs < 4294967296 ^ xs.length
  | [], _ => by simp [dval]
  | x :: xs, h => by
    have h1 := dval_range h.tail
    have h2 := h x (by simp)
    simp only [dval, List.length_cons]
    rw [pw_succ]
    omega
theorem take_snoc {xs : List Int} {k : Nat} (h : k < xs.length) : xs.take (k + 1) = xs.take k ++ [dig xs k] := by
  unfold dig
  rw [List.take_succ, List.getD_eq_getElem?_getD, List.getElem?_eq_getElem h]
  rfl
theorem dval_take {xs : List Int} {k : Nat} (h : k < xs.length) : dval (xs.take (k + 1)) = dval (xs.take k) + 4294967296 ^ k * dig xs k := by
  rw [take_snoc h, dval_snoc, List.length_take, Nat.min_eq_left (by omega)]
theorem dval_take_out {xs : List Int} {k : Nat} (h : xs.length ≤ k) : dval (xs.take k) = dval xs := by rw [List.take_of_length_le h]
/-- A digit more, be it beyond the end. -/
theorem dval_take' (xs : List Int) (k : Nat) : dval (xs.take (k + 1)) = dval (xs.take k) + 4294967296 ^ k * dig xs k := by
  rcases Nat.lt_or_ge k xs.length with h | h
  · exact dval_take h
  · rw [dval_take_out h, dval_take_out (by omega), dig_out h]; omega
theorem dval_split (xs : List Int) (k : Nat) : dval xs = dval (xs.take k) + 4294967296 ^ k * dval (xs.drop k) := by
  rcases Nat.lt_or_ge k xs.length with h | h
  · have := dval_app (xs.take k) (xs.drop k)
    rw [List.take_append_drop, List.length_take, Nat.min_eq_left (by omega)] at this
    exact this
  · rw [dval_take_out h, List.drop_of_length_le h]; simp [dval]
theorem dval_zero : ∀ {xs : List Int}, (∀ j, dig xs j = 0) → dval xs = 0
  | [], _ => rfl
  | x :: xs, h => by
    have h1 : dval xs = 0 := dval_zero fun j => h (j + 1)
    have h2 : x = 0 := h 0
    simp only [dval, h1, h2]
    omega
theorem dig_drop (xs : List Int) (k j : Nat) : dig (xs.drop k) j = dig xs (k + j) := by
  unfold dig; rw [List.getD_eq_getElem?_getD, List.getD_eq_getElem?_getD, List.getElem?_drop]
theorem dig_take {xs : List Int} {k j : Nat} (h : j < k) : dig (xs.take k) j = dig xs j := by
  unfold dig; rw [List.getD_eq_getElem?_getD, List.getD_eq_getElem?_getD, List.getElem?_take_of_lt h]
theorem dval_cut {xs : List Int} {k : Nat} (h : ∀ j, k ≤ j → dig xs j = 0) : dval xs = dval (xs.take k) := by
  rw [dval_split xs k, dval_zero (xs := xs.drop k) fun j => by rw [dig_drop]; exact h _ (by omega)]; simp

theorem digs_zero : digs 0 = [] := by unfold digs; simp
theorem digs_pos {n : Nat} (h : n ≠ 0) : digs n = ((n % 4294967296 : Nat) : Int) :: digs (n / 4294967296) := by rw [digs]; simp [h]
theorem digs_dg (n : Nat) : Dg (digs n) := by
  induction n using Nat.strongRecOn with
  | _ n ih =>
    by_cases h : n = 0
    · subst h; rw [digs_zero]; exact Dg.nil
    · rw [digs_pos h]
      intro x hx
      rcases List.mem_cons.1 hx with rfl | hx
      · omega
      · exact ih _ (by omega) x hx
theorem dval_digs (n : Nat) : dval (digs n) = n := by
  induction n using Nat.strongRecOn with
  | _ n ih =>
    by_cases h : n = 0
    · subst h; rw [digs_zero]; rfl
    · rw [digs_pos h]
      simp only [dval]
      rw [ih _ (by omega)]
      omega
/-- Without zeros at the end. -/
def Trim (xs : List Int) : Prop := xs = [] ∨ dig xs (xs.length - 1) ≠ 0
theorem digs_trim (n : Nat) : Trim (digs n) := by
  induction n using Nat.strongRecOn with
  | _ n ih =>
    by_cases h : n = 0
    · subst h; exact .inl digs_zero
    · rw [digs_pos h]
      refine .inr ?_
      rcases ih (n / 4294967296) (by omega) with he | he
      · rw [he]
        have : n / 4294967296 = 0 := by
          have := dval_digs (n / 4294967296)
          rw [he] at this
          simp [dval] at this
          omega
        show ((n % 4294967296 : Nat) : Int) ≠ 0
        omega
      · have h0 : 0 < (digs (n / 4294967296)).length := by
          rcases Nat.eq_zero_or_pos (digs (n / 4294967296)).length with h0 | h0
          · rw [List.eq_nil_of_length_eq_zero h0] at he; exact absurd rfl he
          · exact h0
        rw [show (((n % 4294967296 : Nat) : Int) :: digs (n / 4294967296)).length - 1 = ((digs (n / 4294967296)).length - 1) + 1 by simp; omega]
        exact he
theorem digs_unique : ∀ {xs : List Int}, Dg xs → Trim xs → xs = digs (dval xs).toNat
  | [], _, _ => by simp [dval, digs_zero]
  | x :: xs, h, ht => by
    have hx := h x (by simp)
    have hr := dval_range h.tail
    have ht' : Trim xs := by
      by_cases he : xs = []
      · exact .inl he
      · refine .inr ?_
        have h0 : 0 < xs.length := List.length_pos_iff.2 he
        rcases ht with ht | ht
        · cases ht
        · rw [show (x :: xs).length - 1 = (xs.length - 1) + 1 by simp; omega] at ht
          exact ht
    have hne : (dval (x :: xs)).toNat ≠ 0 := by
      simp only [dval]
      intro h0
      have hx0 : x = 0 := by omega
      have hv0 : dval xs = 0 := by omega
      have := digs_unique h.tail ht'
      rw [hv0] at this
      simp only [Int.toNat_zero, digs_zero] at this
      subst this
      rcases ht with ht | ht
      · cases ht
      · exact ht hx0
    rw [digs_pos hne]
    have e1 : (((dval (x :: xs)).toNat % 4294967296 : Nat) : Int) = x := by simp only [dval]; omega
    have e2 : (dval (x :: xs)).toNat / 4294967296 = (dval xs).toNat := by simp only [dval]; omega
    rw [e1, e2, ← digs_unique h.tail ht']
theorem trim_eq {xs : List Int} {m : Nat} (h : Dg xs) (hm : m ≤ xs.length) (hz : ∀ j, m ≤ j → dig xs j = 0) (hl : m = 0 ∨ dig xs (m - 1) ≠ 0) : xs.take m = digs (dval xs).toNat := by
  rw [dval_cut hz]
  refine digs_unique (h.take m) ?_
  rcases hl with rfl | hl
  · exact .inl (by simp)
  · by_cases h0 : m = 0
    · subst h0; exact .inl (by simp)
    · refine .inr ?_
      rw [List.length_take, Nat.min_eq_left hm, dig_take (by omega)]
      exact hl
theorem digs_len_le {n L : Nat} (h : (n : Int) < 4294967296 ^ L) : (digs n).length ≤ L := by
  rcases Nat.lt_or_ge L (digs n).length with hl | hl
  · exfalso
    have h1 := dval_digs n
    have h2 := digs_trim n
    rcases h2 with h2 | h2
    · rw [h2] at hl; simp at hl
    · have h3 := dval_split (digs n) ((digs n).length - 1)
      have h4 := (dval_range ((digs_dg n).take ((digs n).length - 1))).1
      have h5 : dval ((digs n).drop ((digs n).length - 1)) = dig (digs n) ((digs n).length - 1) := by
        have e : dval ((digs n).drop ((digs n).length - 1)) = dval (((digs n).drop ((digs n).length - 1)).take 1) := by rw [List.take_of_length_le (by simp; omega)]
        rw [e, dval_take (by simp; omega), dig_drop]
        simp [dval]
      have h6 := ((digs_dg n).at ((digs n).length - 1)).1
      rw [h5] at h3
      have h7 : (4294967296 : Int) ^ L ≤ 4294967296 ^ ((digs n).length - 1) := by
        obtain ⟨d, hd⟩ : ∃ d, (digs n).length - 1 = L + d := ⟨(digs n).length - 1 - L, by omega⟩
        rw [hd, Int.pow_add]
        have := pw_pos d
        have := pw_pos L
        have h9 : (1 : Int) ≤ 4294967296 ^ d := by omega
        have := Int.mul_le_mul_of_nonneg_left h9 (c := (4294967296 : Int) ^ L) (by omega)
        omega
      have h8 : (4294967296 : Int) ^ ((digs n).length - 1) * 1 ≤ 4294967296 ^ ((digs n).length - 1) * dig (digs n) ((digs n).length - 1) :=
        Int.mul_le_mul_of_nonneg_left (by omega) (by have := pw_pos ((digs n).length - 1); omega)
      omega
  · exact hl
theorem digs_lt_of_len {m n : Nat} (h : (digs m).length < (digs n).length) : m < n := by
  rcases Nat.lt_or_ge m n with hl | hl
  · exact hl
  · exfalso
    have h1 := dval_digs m
    have h2 := (dval_range (digs_dg m)).2
    have := digs_len_le (n := n) (L := (digs m).length) (by omega)
    omega
/-- The highest unlike digit decides. -/
theorem lt_of_dig {xs ys : List Int} {i : Nat} (hx : Dg xs) (hy : Dg ys) (hi : i < xs.length) (hl : xs.length = ys.length) (hj : ∀ j, i < j → dig xs j = dig ys j) (h : dig xs i < dig ys i) : dval xs < dval ys := by
  have e1 := dval_split xs (i + 1)
  have e2 := dval_split ys (i + 1)
  have e3 : xs.drop (i + 1) = ys.drop (i + 1) := by
    apply List.ext_getElem
    · simp [hl]
    · intro j h1 h2
      have := hj (i + 1 + j) (by omega)
      simp only [List.length_drop] at h1 h2
      unfold dig at this
      rw [List.getD_eq_getElem?_getD, List.getD_eq_getElem?_getD, List.getElem?_eq_getElem (by omega), List.getElem?_eq_getElem (by omega)] at this
      simpa using this
  rw [dval_take hi] at e1
  rw [dval_take (by omega)] at e2
  rw [e3] at e1
  have r1 := (dval_range (hx.take i)).2
  have r2 := (dval_range (hy.take i)).1
  rw [List.length_take, Nat.min_eq_left (by omega)] at r1
  have := pw_pos i
  have h8 : (4294967296 : Int) ^ i * (dig xs i + 1) ≤ 4294967296 ^ i * dig ys i := Int.mul_le_mul_of_nonneg_left (by omega) (by omega)
  rw [Int.mul_add] at h8
  omega
theorem eq_of_dig {xs ys : List Int} (hl : xs.length = ys.length) (hj : ∀ j, dig xs j = dig ys j) : xs = ys := by
  apply List.ext_getElem hl
  intro j h1 h2
  have := hj j
  unfold dig at this
  rw [List.getD_eq_getElem?_getD, List.getD_eq_getElem?_getD, List.getElem?_eq_getElem h1, List.getElem?_eq_getElem h2] at this
  simpa using this
/-- One digit becomes another. -/
theorem dval_set : ∀ {xs : List Int} {j : Nat} (y : Int), j < xs.length → dval (xs.set j y) = dval xs + 4294967296 ^ j * (y - dig xs j)
  | x :: xs, 0, y, _ => by simp [dval, dig]; omega
  | x :: xs, j + 1, y, h => by
    have := dval_set (xs := xs) (j := j) y (by simpa using h)
    simp only [List.set_cons_succ, dval]
    rw [this, pw_succ]
    have e : dig (x :: xs) (j + 1) = dig xs j := rfl
    rw [e]
    grind
theorem dig_set {xs : List Int} {j : Nat} (y : Int) (k : Nat) (h : j < xs.length) : dig (xs.set j y) k = if k = j then y else dig xs k := by
  unfold dig
  rw [List.getD_eq_getElem?_getD, List.getElem?_set, List.getD_eq_getElem?_getD]
  split
  · next e => subst e; simp [h]
  · next e => rw [if_neg (Ne.symm e)]
theorem Dg.set {xs : List Int} (h : Dg xs) (j : Nat) {y : Int} (h0 : 0 ≤ y) (h1 : y < 4294967296) : Dg (xs.set j y) := fun x hx => by
  rcases List.mem_or_eq_of_mem_set hx with h' | rfl
  · exact h x h'
  · exact ⟨h0, h1⟩
theorem digs_nil_iff {n : Nat} : digs n = [] ↔ n = 0 := by
  constructor
  · intro h; have := dval_digs n; rw [h] at this; simp [dval] at this; omega
  · rintro rfl; exact digs_zero
/-- The lowest digit tells whether a number is even. -/
theorem digs_even (n : Nat) : dig (digs n) 0 % 2 = (n : Int) % 2 := by
  by_cases h : n = 0
  · subst h; rw [digs_zero]; rfl
  · rw [digs_pos h]
    show ((n % 4294967296 : Nat) : Int) % 2 = _
    omega
theorem plus_step {xs ys zs : List Int} {i : Nat} {cy t : Int} (hl : zs.length = i) (h : dval zs + 4294967296 ^ i * cy = dval (xs.take i) + dval (ys.take i)) (ht : t = cy + dig xs i + dig ys i) :
    dval (zs ++ [t % 4294967296]) + 4294967296 ^ (i + 1) * (t / 4294967296) = dval (xs.take (i + 1)) + dval (ys.take (i + 1)) := by
  rw [dval_snoc, hl, dval_take', dval_take', pw_succ]
  have e : 4294967296 ^ i * (t % 4294967296) + 4294967296 * 4294967296 ^ i * (t / 4294967296) = 4294967296 ^ i * t := by
    have := Int.mul_ediv_add_emod t 4294967296
    grind
  have e2 : (4294967296 : Int) ^ i * t = 4294967296 ^ i * cy + 4294967296 ^ i * dig xs i + 4294967296 ^ i * dig ys i := by rw [ht]; grind
  omega
theorem minus_step {xs ys zs : List Int} {i : Nat} {bo t : Int} (hl : zs.length = i) (h : dval zs = dval (xs.take i) - dval (ys.take i) + 4294967296 ^ i * bo) (ht : t = dig xs i - bo - dig ys i) (q : Int) :
    dval (zs ++ [t + 4294967296 * q]) = dval (xs.take (i + 1)) - dval (ys.take (i + 1)) + 4294967296 ^ (i + 1) * q := by
  rw [dval_snoc, hl, dval_take', dval_take', pw_succ, ht, h]
  grind
end Go.Proofs.Ytccbinnlnkpplaa
namespace Go.Proofs.Ytccbinnlnkpplaa
set_option linter.all false
open Go.RowKit

abbrev DgE : El Int := ⟨1, fun x => [.int .u32 x], 0, by decide, fun _ => rfl, fun x v hv => by simp at hv; subst hv; rfl⟩
abbrev us (xs : List Int) : List Value := DgE.flat xs
theorem us_get (xs : List Int) (k : Nat) (h : k < xs.length) : (us xs)[k]? = some (.int .u32 (dig xs k)) := by
  have := DgE.get xs k 0 h (by decide)
  simp only [Nat.mul_one, Nat.add_zero] at this
  exact this
theorem us_len (xs : List Int) : (us xs).length = xs.length := by rw [DgE.flat_len]; simp
theorem AS.openU {w : World} {a : Option Addr} {xs : List Int} (h : AS w a (us xs)) (hn : 0 < xs.length) :
    ∃ b off, a = some ⟨b, off, none⟩ ∧ b < w.heap.size ∧ ∀ j, j < xs.length → w.cell? ⟨b, off + j, none⟩ = some (.int .u32 (dig xs j)) := by
  obtain ⟨b, off, ha, hb, hc⟩ := h.openG hn
  exact ⟨b, off, ha, hb, fun j hj => by have := hc j hj 0 (by decide); simpa [dig, El.at] using this⟩
theorem us_take (xs : List Int) (m : Nat) : us (xs.take m) = (us xs).take m := by
  have : ∀ ys : List Int, us ys = ys.map (.int .u32) := fun ys => by
    induction ys with
    | nil => rfl
    | cons y ys ih => rw [us, El.flat_cons, List.map_cons, ← ih]; rfl
  rw [this, this, List.map_take]
theorem AS.take {w : World} {a : Option Addr} {xs : List Int} (h : AS w a (us xs)) (m : Nat) : AS w a (us (xs.take m)) := by
  intro hne
  have hne' : us xs ≠ [] := by intro e; rw [us_take, e] at hne; simp at hne
  obtain ⟨b, off, ha, hb, hc⟩ := h hne'
  refine ⟨b, off, ha, hb, fun j hj => ?_⟩
  rw [us_take] at hj ⊢
  rw [List.length_take] at hj
  rw [hc j Ox, List.getElem?_take, if_pos Ox]
/-- A slice that holds the digits of n. -/
def SA (w : World) (s : Value) (n : Nat) : Prop := ∃ a c, s = .slice a (digs n).length c ∧ AS w a (us (digs n))
/-- The same wherever the blocks u are what they are. -/
def SU (u : List Blk) (s : Value) (n : Nat) : Prop := (∃ a c, s = .slice a (digs n).length c) ∧ ∀ (B : World) (F : List Nat) (w : World), Kn B F u w → SA w s n
theorem SU.mono {u v : List Blk} {s : Value} {n : Nat} (h : SU u s n) (hs : u.Sublist v) : SU v s n := ⟨h.1, fun B F w K => h.2 B F w (K.sub hs)⟩
theorem SU.at {u s : List Blk} {v : Value} {n : Nat} {B w : World} {F : List Nat} (h : SU u v n) (K : Kn B F s w) (hs : u.Sublist s) : SA w v n := h.2 B F w (K.sub hs)
theorem SA.below {w w' : World} {s : Value} {n : Nat} (h : SA w s n) (hb : Below w.heap.size w w') : SA w' s n := let ⟨a, c, e, hA⟩ := h; ⟨a, c, e, hA.below hb⟩
theorem SA.kn {B w : World} {s : List Blk} {v : Value} {n : Nat} (h : SA B v n) (K : Kn B [] s w) : SA w v n := let ⟨a, c, e, hA⟩ := h; ⟨a, c, e, hA.kn0 K⟩
theorem SU.own {e : Nat} {u : List Blk} {v : Value} {n : Nat} {xs : List Int} (h : OwnG DgE e u v xs) (m : Nat) (hm : m ≤ xs.length) (hd : xs.take m = digs n) :
    ∀ {a : Option Addr} {c : Nat}, v = .slice a xs.length c → SU u (.slice a m c) n := by
  intro a c hv
  refine ⟨⟨a, c, by rw [← hd, List.length_take, Nat.min_eq_left hm]⟩, fun B F w K => ?_⟩
  obtain ⟨a', cap, e1, hA⟩ := h.as (s := []) (by simpa using K)
  rw [hv] at e1
  injection e1 with e1 e2 e3
  subst e1 e3
  refine ⟨a, c, ?_, ?_⟩
  · rw [← hd, List.length_take, Nat.min_eq_left hm]
  · rw [← hd]; exact hA.take m
theorem SU.nil : SU [] (.slice none 0 0) 0 := ⟨⟨none, 0, by rw [digs_zero]; rfl⟩, fun B F w K => ⟨none, 0, by rw [digs_zero]; rfl, by rw [digs_zero]; exact AS.nil⟩⟩
theorem SA.nil {w : World} : SA w (.slice none 0 0) 0 := ⟨none, 0, by rw [digs_zero]; rfl, by rw [digs_zero]; exact AS.nil⟩
/-- A whole number as a value; s: its digits. -/
abbrev bgV (n : Int) (s : Value) : Value := .agg #[.bool (decide (n < 0)), s]
/-- A call that hands back a new whole number. -/
def RetB (w : World) (n : Int) (e : Ending) (w' : World) : Prop := ∃ v u, e = .returned v ∧ (∃ s, v = bgV n s ∧ SU u s n.natAbs) ∧ Made w u w'
/-- A call that hands back new digits. -/
def RetD (w : World) (n : Nat) (e : Ending) (w' : World) : Prop := ∃ v u, e = .returned v ∧ SU u v n ∧ Made w u w'
theorem uInfo : (Try.prog.info? 160).map (fun i => (i.zero, i.size, i.bytes)) = some (some (.int .u32 0), 1, 4) := by kernel_rfl
theorem ip {P : Program} {t : TypeId} {z : Option Value} {n b : Nat} (h : (P.info? t).map (fun i => (i.zero, i.size, i.bytes)) = some (z, n, b)) : ∃ i, P.info? t = some i ∧ i.zero = z ∧ i.size = n ∧ i.bytes = b := by
  cases hi : P.info? t with
  | none => rw [hi] at h; cases h
  | some i => rw [hi] at h; simp at h; exact ⟨i, rfl, h.1, h.2.1, h.2.2⟩
theorem OwnG.val {α : Type} {E : El α} {e : Nat} {u : List Blk} {v : Value} {xs : List α} (h : OwnG E e u v xs) : ∃ a cap, v = .slice a xs.length cap ∧ xs.length ≤ cap := Own.val h
theorem OwnG.as' {α : Type} {E : El α} {e : Nat} {u s : List Blk} {a : Option Addr} {n c : Nat} {xs : List α} {B w : World} {F : List Nat} (h : OwnG E e u (.slice a n c) xs) (K : Kn B F (u ++ s) w) : AS w a (E.flat xs) := by
  obtain ⟨a', cap, e1, hA⟩ := h.as K
  injection e1 with e1 e2 e3
  subst e1
  exact hA
section
variable {R : Option Nat} {ops : Array Oper} {Q : Exit → Act → World → Prop} {B : World} {F : List Nat} {s0 : Option (List Blk × List Blk)}
variable {l : List (Oper × Nat)} {a : Act} {s S : List Blk} {d : Option Tmp} {t : TypeId} {p : String} {af : Array Edge} {v : Value}
/-- append of one digit, which stands in a block at the list's head. -/
theorem rg_pushU {so xo : Operand} {u : List Blk} {xs : List Int} {g1 : Nat} {x : Int} {gd : Option (Nat × Bool)} (hg : Region.wanted ⟨d, .call ⟨.builtin .append, #[so, xo], #[65, 65]⟩, t, p, af, gd⟩ (yielded ops a.tmps) = true)
    (hs : a.eval so = v) (hown : OwnG DgE 160 u v xs) (hx : a.eval xo = .slice (some ⟨g1, 0, none⟩) 1 1) (hn : xs.length ≤ 1000000) (hzz : ∀ z ∈ s0, z.1.Sublist s)
    (h : ∀ u' v', OwnG DgE 160 u' v' (xs ++ [x]) → Rg R Try.prog ops Q B F s0 l (a.put d v') (u' ++ s)) :
    Rg R Try.prog ops Q B F s0 ((⟨d, .call ⟨.builtin .append, #[so, xo], #[65, 65]⟩, t, p, af, gd⟩, 1) :: l) a ((g1, .cells #[.int .u32 x] 160) :: (u ++ s)) := by
  obtain ⟨i, hi, hz, hsz, hb⟩ := ip uInfo
  refine rg_append1 (E := DgE) (i := i) (z := .int .u32 0) (u := u) (s := (g1, .cells #[.int .u32 x] 160) :: s) (x := x) (g := g1) hg Try.underlying65 hi hz hsz rfl Ox hs hown hx Ox List.perm_middle.symm (fun w K => Kn.hd0 K)
    (fun z hz' => (hzz z hz').trans (List.sublist_cons_self _ _)) fun u' v' hO => ?_
  exact rg_sub (List.Sublist.append_left (List.sublist_cons_self _ _) _) (fun z hz' => (hzz z hz').trans (List.sublist_append_right _ _)) (h u' v' hO)
end
end Go.Proofs.Ytccbinnlnkpplaa
namespace Go.Proofs.Ytccbinnlnkpplaa
set_option linter.all false
open Go.RowKit

set_option maxRecDepth 100000 in
set_option maxHeartbeats 1000000 in
theorem trimmed_any (xs : List Int) (a : Option Addr) (c : Nat) (hd : Dg xs) (hc : xs.length ≤ c) (hl : xs.length ≤ 1000000) (w : World) (hA : AS w a (us xs)) : Calls Try.prog 150 #[.slice a xs.length c] w fun e w' => ∃ m, m ≤ xs.length ∧ e = .returned (.slice a m c) ∧ (∀ j, m ≤ j → dig xs j = 0) ∧ (m = 0 ∨ dig xs (m - 1) ≠ 0) ∧ Below w.heap.size w w' := by
  go_enter Try.func150, Try.ntmps150
  refine wk_start ?_
  refine wk_seq ?_
  refine wk_region [0] rfl Kx ?_
  simp only [qy]
  refine rg_assign ?_
  simp only [qz]
  refine rg_nil (ek_next (wk_seq (wk_block ?_)))
  refine wk_loopF [0, 3, 4, 5, 6, 7, 8, 9, 10, 11, 12, 13, 14, 15, 16, 17, 18, 19] (fun mz f s => ∃ (m : Nat), f 0 = .slice a m c ∧ f 2 = .slice none 0 0 ∧ s = [] ∧ mz = m ∧ m ≤ xs.length ∧ (∀ j, m ≤ j → dig xs j = 0)) ((fun (m : Nat) => m) (xs.length)) ?_ Kx ?_
  · exact ⟨xs.length, rfl, rfl, rfl, rfl, by omega, fun j hj => dig_out hj⟩
  rintro mz f1 s ⟨m, hs1_0, hs1_2, rfl, hn, hc1, hc2⟩
  simp only [Act.putF, List.foldl_cons, List.foldl_nil, hs1_0, hs1_2, Act.put, Act.eval, q1, q2, q3, q4, q5, q6, q7, q8, q9, q10, q11, q12, q13, q14, q15, q16, q17, q18, Nat.reduceAdd, Bool.not_true, Bool.not_false]
  clear hs1_0 hs1_2
  refine wk_seq (wk_seq ?_)
  refine wk_region [0, 0, 0, 0, 0, 0, 0, 0, 0, 0, 0, 0] rfl Kx ?_
  simp only [qy]
  refine rg_move ?_
  simp only [qz]
  refine rf_len rfl rfl rfl Try.underlying65 ?_
  simp only [qz]
  refine rfb_gtr rfl rfl rfl rfl ?_
  intro x h1
  cases x
  · (try simp only [qd, ne_eq] at h1)
    simp only [qz]
    refine rg_move ?_
    simp only [qz]
    refine rg_skip Rx ?_
    simp only [qz]
    refine rg_skip Rx ?_
    simp only [qz]
    refine rg_skip Rx ?_
    simp only [qz]
    refine rg_skip Rx ?_
    simp only [qz]
    refine rg_skip Rx ?_
    simp only [qz]
    refine rg_skip Rx ?_
    simp only [qz]
    refine rg_skip Rx ?_
    simp only [qz]
    refine rf_pick rfl rfl rfl ?_
    simp only [qz]
    refine rg_nil (ek_next (wk_cond_f rfl (wk_exit (ek_then_exit (ek_then_exit (ek_block_exit (ek_next (wk_seq ?_))))))))
    refine wk_region [0, 0] rfl Kx ?_
    simp only [qy]
    refine rg_move ?_
    simp only [qz]
    refine rg_assign ?_
    simp only [qz]
    refine rg_nil (ek_next (wk_ret ?_))
    refine ek_ret (fun w hw => ⟨rfl, _, res_t _ rfl, ?_⟩)
    (try simp only [qz])
    exact ⟨m, hc1, rfl, hc2, Or.inl Ox, hw.below⟩
  (try simp only [qd, ne_eq] at h1)
  simp only [qz]
  obtain ⟨b, off, rfl, hlt, hcell⟩ := AS.openU hA Ox
  have hdg := hd.at (m - 1)
  refine rg_move ?_
  simp only [qz]
  apply rg_soft_g
  case hg => rfl
  case hy => (intro w hw; go_simp; (try go_bits); exact Yld.mk _ _)
  simp only [qz]
  apply rg_soft_g
  case hg => rfl
  case hy => (intro w hw; go_simp; (try go_bits); exact Yld.mk _ _)
  simp only [qz]
  refine rf_len rfl rfl rfl Try.underlying65 ?_
  simp only [qz]
  refine rf_sub rfl rfl rfl rfl (wrap_ok Ox Ox) ?_
  simp only [qz]
  refine rf_indexS (n := m - 1) (sz := 1) (j := off + (m - 1) * 1) rfl rfl rfl rfl Try.underlying65 Kx Ox Ox rfl ?_
  simp only [qz]
  refine rf_load rfl rfl rfl Try.underlying160 rfl (fun w hw => (by have := (Kn.cellB hw hlt (by simp) (off + (m - 1))).trans (hcell (m - 1) Ox); simpa using this)) ?_
  simp only [qz]
  refine rfb_eql rfl rfl rfl rfl ?_
  intro x h2
  cases x
  · (try simp only [qd, ne_eq] at h2)
    simp only [qz]
    refine rf_pick rfl rfl rfl ?_
    simp only [qz]
    refine rg_nil (ek_next (wk_cond_f rfl (wk_exit (ek_then_exit (ek_then_exit (ek_block_exit (ek_next (wk_seq ?_))))))))
    refine wk_region [0, 0] rfl Kx ?_
    simp only [qy]
    refine rg_move ?_
    simp only [qz]
    refine rg_assign ?_
    simp only [qz]
    refine rg_nil (ek_next (wk_ret ?_))
    refine ek_ret (fun w hw => ⟨rfl, _, res_t _ rfl, ?_⟩)
    (try simp only [qz])
    exact ⟨m, hc1, rfl, hc2, Or.inr Ox, hw.below⟩
  (try simp only [qd, ne_eq] at h2)
  simp only [qz]
  refine rf_pick rfl rfl rfl ?_
  simp only [qz]
  refine rg_nil (ek_next (wk_cond_t rfl (wk_skip (ek_next (wk_block ?_)))))
  refine wk_region [0, 0, 0, 0, 0, 0] rfl Kx ?_
  simp only [qy]
  refine rg_move ?_
  simp only [qz]
  refine rg_move ?_
  simp only [qz]
  refine rf_len rfl rfl rfl Try.underlying65 ?_
  simp only [qz]
  refine rf_sub rfl rfl rfl rfl (wrap_ok Ox Ox) ?_
  simp only [qz]
  refine rf_sliceTo (n := m - 1) (sz := 1) rfl rfl rfl rfl Try.underlying65 Kx Ox Ox ?_
  simp only [qz]
  refine rg_assign ?_
  simp only [qz]
  refine rg_nil (ek_block ?_)
  refine ek_roundF (m - 1) Ox Kx ?_
  exact ⟨m - 1, rfl, rfl, by rfl, by rfl, by omega, fun j hj => if he : j = m - 1 then (by subst he; omega) else hc2 j Ox⟩

end Go.Proofs.Ytccbinnlnkpplaa
namespace Go.Proofs.Ytccbinnlnkpplaa
set_option linter.all false
open Go.RowKit

set_option maxRecDepth 100000 in
set_option maxHeartbeats 1000000 in
theorem bplus_any (xs ys : List Int) (a a2 : Option Addr) (c c2 : Nat) (hd : Dg xs) (hd2 : Dg ys) (hl : xs.length ≤ 100000) (hl2 : ys.length ≤ 100000) (w : World) (hA : AS w a (us xs)) (hA2 : AS w a2 (us ys)) : Calls Try.prog 148 #[.slice a xs.length c, .slice a2 ys.length c2] w fun e w' => RetD w (dval xs + dval ys).toNat e w' := by
  go_enter Try.func148, Try.ntmps148
  refine wk_start ?_
  refine wk_seq ?_
  refine wk_region [0] rfl Kx ?_
  simp only [qy]
  refine rg_assign ?_
  simp only [qz]
  refine rg_nil (ek_next (wk_seq ?_))
  refine wk_region [0] rfl Kx ?_
  simp only [qy]
  refine rg_assign ?_
  simp only [qz]
  refine rg_nil (ek_next (wk_seq ?_))
  refine wk_region [0] rfl Kx ?_
  simp only [qy]
  refine rg_assign ?_
  simp only [qz]
  refine rg_nil (ek_next (wk_seq (wk_seq ?_)))
  refine wk_region [0] rfl Kx ?_
  simp only [qy]
  refine rg_assign ?_
  simp only [qz]
  refine rg_nil (ek_next (wk_block ?_))
  refine wk_loopF [5, 6, 7, 8, 9, 10, 11, 12, 13, 14, 15, 16, 17, 18, 19, 20, 21, 22, 23, 24, 25, 26, 27, 28, 29, 30, 31, 32, 33, 34, 35, 36, 37, 38, 39, 40, 41, 42, 43, 44, 45, 46, 47, 48, 49, 50, 51, 52] (fun mz f s => ∃ (i : Nat) (cy : Int) (v : Value) (u : List Blk) (zs : List Int), f 5 = v ∧ f 6 = .int .u64 cy ∧ f 7 = .int .i64 i ∧ s = (u ++ []) ∧ mz = 1000000 - i ∧ OwnG DgE 160 u v zs ∧ Dg zs ∧ zs.length ≤ i ∧ i ≤ zs.length ∧ 0 ≤ cy ∧ cy ≤ 1 ∧ dval zs + 4294967296 ^ i * cy = dval (xs.take i) + dval (ys.take i) ∧ (i ≤ 100000 ∨ i ≤ 100001 ∧ cy = 0)) ((fun (i : Nat) (cy : Int) (v : Value) (u : List Blk) (zs : List Int) => 1000000 - i) (0) (0) (.slice none 0 0) ([]) ([])) ?_ Kx ?_
  · exact ⟨0, 0, .slice none 0 0, [], [], rfl, rfl, rfl, rfl, rfl, OwnG.nil, Dg.nil, by simp, by simp, by omega, by omega, by simp [dval], by omega⟩
  rintro mz f1 s ⟨i, cy, v, u, zs, hs1_5, hs1_6, hs1_7, rfl, hn, hc1, hc2, hc3, hc4, hc5, hc6, hc7, hc8⟩
  simp only [Act.putF, List.foldl_cons, List.foldl_nil, hs1_5, hs1_6, hs1_7, Act.put, Act.eval, q1, q2, q3, q4, q5, q6, q7, q8, q9, q10, q11, q12, q13, q14, q15, q16, q17, q18, Nat.reduceAdd, Bool.not_true, Bool.not_false]
  clear hs1_5 hs1_6 hs1_7
  have hO := hc1
  have hdz := hc2
  have heq := Lib.hid hc7
  clear hc2 hc7
  refine wk_seq (wk_seq ?_)
  refine wk_region [0, 0, 0, 0, 0, 0, 0, 0, 0, 0, 0, 0, 0, 0] rfl Kx ?_
  simp only [qy]
  refine rg_move ?_
  simp only [qz]
  refine rg_move ?_
  simp only [qz]
  refine rf_len rfl rfl rfl Try.underlying65 ?_
  simp only [qz]
  refine rfb_lss rfl rfl rfl rfl ?_
  intro x h1
  cases x
  · (try simp only [qd, ne_eq] at h1)
    simp only [qz]
    refine rg_move ?_
    simp only [qz]
    apply rg_soft_g
    case hg => rfl
    case hy => (intro w hw; go_simp; (try go_bits); exact Yld.mk _ _)
    simp only [qz]
    apply rg_soft_g
    case hg => rfl
    case hy => (intro w hw; go_simp; (try go_bits); exact Yld.mk _ _)
    simp only [qz]
    refine rf_len rfl rfl rfl Try.underlying65 ?_
    simp only [qz]
    refine rfb_lss rfl rfl rfl rfl ?_
    intro x h2
    cases x
    · (try simp only [qd, ne_eq] at h2)
      simp only [qz]
      refine rf_pick rfl rfl rfl ?_
      simp only [qz]
      refine rg_move ?_
      simp only [qz]
      apply rg_soft_g
      case hg => rfl
      case hy => (intro w hw; go_simp; (try go_bits); exact Yld.mk _ _)
      simp only [qz]
      refine rfb_gtr rfl rfl rfl rfl ?_
      intro x h3
      cases x
      · (try simp only [qd, ne_eq] at h3)
        simp only [qz]
        refine rf_pick rfl rfl rfl ?_
        simp only [qz]
        refine rg_nil (ek_next (wk_cond_f rfl (wk_exit (ek_then_exit (ek_then_exit (ek_block_exit (ek_next (wk_seq ?_))))))))
        refine wk_region [0, 1, 0] rfl Kx ?_
        simp only [qy]
        refine rg_move ?_
        simp only [qz]
        obtain ⟨a0, c0, rfl, hcap⟩ := hO.val
        apply (rg_or (X := fun v => ∃ m, m ≤ zs.length ∧ v = .slice a0 m c0 ∧ (∀ j, m ≤ j → dig zs j = 0) ∧ (m = 0 ∨ dig zs (m - 1) ≠ 0))) Rx Kx
        case hargs => exact Ax
        case h => exact fun w hw => (trimmed_any zs a0 c0 hdz hcap Ox w (hO.as' hw)).mono fun e w' ⟨m, h1, h2, h3, h4, h5⟩ => ⟨_, h2, ⟨m, h1, rfl, h3, h4⟩, h5⟩
        case hz => exact Nz
        rintro v ⟨m, hm1, rfl, hm2, hm3⟩
        simp only [qz]
        refine rg_assign ?_
        simp only [qz]
        refine rg_nil (ek_next (wk_ret ?_))
        refine ek_ret (fun w hw => ⟨rfl, _, res_t _ rfl, ?_⟩)
        (try simp only [qz])
        have e1 : dval zs = dval xs + dval ys := by
          have h1 := heq.out
          rw [List.take_of_length_le Ox, List.take_of_length_le Ox, show cy = 0 by omega] at h1
          omega
        exact ⟨_, u, rfl, e1 ▸ SU.own hO m hm1 (trim_eq hdz hm1 hm2 hm3) rfl, hw.made (by simp)⟩
      (try simp only [qd, ne_eq] at h3)
      simp only [qz]
      refine rf_pick rfl rfl rfl ?_
      simp only [qz]
      refine rg_nil (ek_next (wk_cond_t rfl (wk_skip (ek_next (wk_seq (wk_block (wk_seq (wk_seq ?_))))))))
      refine wk_region [0, 0, 0, 0] rfl Kx ?_
      simp only [qy]
      refine rg_move ?_
      simp only [qz]
      refine rg_move ?_
      simp only [qz]
      refine rf_len rfl rfl rfl Try.underlying65 ?_
      simp only [qz]
      refine rfb_lss rfl rfl rfl rfl ?_
      intro x h4
      cases x
      · (try simp only [qd, ne_eq] at h4)
        simp only [qz]
        have dx := hd.at i
        have dy := hd2.at i
        have zx := dig_out (xs := xs) (k := i) Ox
        refine rg_nil (ek_next (wk_cond_f rfl (wk_skip (ek_next (wk_seq (wk_seq ?_))))))
        refine wk_region [0, 0, 0, 0] rfl Kx ?_
        simp only [qy]
        refine rg_move ?_
        simp only [qz]
        refine rg_move ?_
        simp only [qz]
        refine rf_len rfl rfl rfl Try.underlying65 ?_
        simp only [qz]
        refine rfb_lss rfl rfl rfl rfl ?_
        intro x h5
        cases x
        · (try simp only [qd, ne_eq] at h5)
          simp only [qz]
          have zy := dig_out (xs := ys) (k := i) Ox
          refine rg_nil (ek_next (wk_cond_f rfl (wk_skip (ek_next (wk_seq ?_)))))
          refine wk_region [0, 0, 0, 1, 1, 0] rfl Kx ?_
          simp only [qy]
          refine rg_move ?_
          simp only [qz]
          refine rg_move ?_
          simp only [qz]
          refine rf_conv rfl rfl rfl Try.underlying99 Try.underlying160 (IntKind.wrap_u32 _) ?_
          simp only [qz]
          refine rg_newS (cs := ?_) (ty := ?_) (n := 1) (c := 1) Rx (fun w => ?_) Nz (fun g1 => ?_); rotate_left 2
          focus (go_simp; rfl)
          simp only [qz]
          refine rg_pushU rfl rfl hc1 rfl Ox Nz (fun u2 v2 hO2 => ?_)
          simp only [qz]
          refine rg_assign ?_
          simp only [qz]
          refine rg_nil (ek_next ?_)
          refine wk_region [0, 0, 0] rfl Kx ?_
          simp only [qy]
          refine rg_move ?_
          simp only [qz]
          refine rf_shr (c := 32) (q := 4294967296) rfl rfl rfl rfl rfl (by decide) ?_
          simp only [qz]
          refine rg_assign ?_
          simp only [qz]
          refine rg_nil (ek_block (ek_next ?_))
          refine wk_region [0, 0, 0] rfl Kx ?_
          simp only [qy]
          refine rg_move ?_
          simp only [qz]
          refine rf_add rfl rfl rfl rfl (wrap_ok Ox Ox) ?_
          simp only [qz]
          refine rg_assign ?_
          simp only [qz]
          refine rg_nil ?_
          have hdz' := hdz.snoc (y := (cy) % 4294967296) Ox Ox
          have hst := plus_step (t := cy) Ox heq.out Ox
          refine ek_roundF (1000000 - (i + 1)) Ox Kx ?_
          exact ⟨i + 1, (cy) / 4294967296, v2, u2, zs ++ [(cy) % 4294967296], rfl, rfl, rfl, by rfl, by rfl, hO2, hdz', (by simp; omega), (by simp; omega), Ox, Ox, hst, Ox⟩
        (try simp only [qd, ne_eq] at h5)
        simp only [qz]
        exfalso; omega
      (try simp only [qd, ne_eq] at h4)
      simp only [qz]
      exfalso; omega
    (try simp only [qd, ne_eq] at h2)
    simp only [qz]
    refine rf_pick rfl rfl rfl ?_
    simp only [qz]
    refine rg_move ?_
    simp only [qz]
    refine rg_skip Rx ?_
    simp only [qz]
    refine rg_skip Rx ?_
    simp only [qz]
    refine rf_pick rfl rfl rfl ?_
    simp only [qz]
    refine rg_nil (ek_next (wk_cond_t rfl (wk_skip (ek_next (wk_seq (wk_block (wk_seq (wk_seq ?_))))))))
    refine wk_region [0, 0, 0, 0] rfl Kx ?_
    simp only [qy]
    refine rg_move ?_
    simp only [qz]
    refine rg_move ?_
    simp only [qz]
    refine rf_len rfl rfl rfl Try.underlying65 ?_
    simp only [qz]
    refine rfb_lss rfl rfl rfl rfl ?_
    intro x h6
    cases x
    · (try simp only [qd, ne_eq] at h6)
      simp only [qz]
      have dx := hd.at i
      have dy := hd2.at i
      have zx := dig_out (xs := xs) (k := i) Ox
      refine rg_nil (ek_next (wk_cond_f rfl (wk_skip (ek_next (wk_seq (wk_seq ?_))))))
      refine wk_region [0, 0, 0, 0] rfl Kx ?_
      simp only [qy]
      refine rg_move ?_
      simp only [qz]
      refine rg_move ?_
      simp only [qz]
      refine rf_len rfl rfl rfl Try.underlying65 ?_
      simp only [qz]
      refine rfb_lss rfl rfl rfl rfl ?_
      intro x h7
      cases x
      · (try simp only [qd, ne_eq] at h7)
        simp only [qz]
        exfalso; omega
      (try simp only [qd, ne_eq] at h7)
      simp only [qz]
      obtain ⟨b2, off2, rfl, hlt2, hcell2⟩ := AS.openU hA2 Ox
      refine rg_nil (ek_next (wk_cond_t rfl ?_))
      refine wk_region [0, 0, 0, 0, 0, 0, 0, 0] rfl Kx ?_
      simp only [qy]
      refine rg_move ?_
      simp only [qz]
      refine rg_move ?_
      simp only [qz]
      refine rg_move ?_
      simp only [qz]
      refine rf_indexS (n := i) (sz := 1) (j := off2 + i * 1) rfl rfl rfl rfl Try.underlying65 Kx Ox Ox rfl ?_
      simp only [qz]
      refine rf_load rfl rfl rfl Try.underlying160 rfl (fun w hw => (by have := (Kn.cellB hw hlt2 (by simp) (off2 + i)).trans (hcell2 i Ox); simpa using this)) ?_
      simp only [qz]
      refine rf_conv rfl rfl rfl Try.underlying160 Try.underlying99 (wrap_okU Ox Ox) ?_
      simp only [qz]
      refine rf_add rfl rfl rfl rfl (wrap_okU Ox Ox) ?_
      simp only [qz]
      refine rg_assign ?_
      simp only [qz]
      refine rg_nil (ek_next (wk_seq ?_))
      refine wk_region [0, 0, 0, 1, 1, 0] rfl Kx ?_
      simp only [qy]
      refine rg_move ?_
      simp only [qz]
      refine rg_move ?_
      simp only [qz]
      refine rf_conv rfl rfl rfl Try.underlying99 Try.underlying160 (IntKind.wrap_u32 _) ?_
      simp only [qz]
      refine rg_newS (cs := ?_) (ty := ?_) (n := 1) (c := 1) Rx (fun w => ?_) Nz (fun g3 => ?_); rotate_left 2
      focus (go_simp; rfl)
      simp only [qz]
      refine rg_pushU rfl rfl hc1 rfl Ox Nz (fun u4 v4 hO4 => ?_)
      simp only [qz]
      refine rg_assign ?_
      simp only [qz]
      refine rg_nil (ek_next ?_)
      refine wk_region [0, 0, 0] rfl Kx ?_
      simp only [qy]
      refine rg_move ?_
      simp only [qz]
      refine rf_shr (c := 32) (q := 4294967296) rfl rfl rfl rfl rfl (by decide) ?_
      simp only [qz]
      refine rg_assign ?_
      simp only [qz]
      refine rg_nil (ek_block (ek_next ?_))
      refine wk_region [0, 0, 0] rfl Kx ?_
      simp only [qy]
      refine rg_move ?_
      simp only [qz]
      refine rf_add rfl rfl rfl rfl (wrap_ok Ox Ox) ?_
      simp only [qz]
      refine rg_assign ?_
      simp only [qz]
      refine rg_nil ?_
      have hdz' := hdz.snoc (y := (cy + dig ys i) % 4294967296) Ox Ox
      have hst := plus_step (t := cy + dig ys i) Ox heq.out Ox
      refine ek_roundF (1000000 - (i + 1)) Ox Kx ?_
      exact ⟨i + 1, (cy + dig ys i) / 4294967296, v4, u4, zs ++ [(cy + dig ys i) % 4294967296], rfl, rfl, rfl, by rfl, by rfl, hO4, hdz', (by simp; omega), (by simp; omega), Ox, Ox, hst, Ox⟩
    (try simp only [qd, ne_eq] at h6)
    simp only [qz]
    exfalso; omega
  (try simp only [qd, ne_eq] at h1)
  simp only [qz]
  refine rg_move ?_
  simp only [qz]
  refine rg_skip Rx ?_
  simp only [qz]
  refine rg_skip Rx ?_
  simp only [qz]
  refine rg_skip Rx ?_
  simp only [qz]
  refine rg_skip Rx ?_
  simp only [qz]
  refine rf_pick rfl rfl rfl ?_
  simp only [qz]
  refine rg_move ?_
  simp only [qz]
  refine rg_skip Rx ?_
  simp only [qz]
  refine rg_skip Rx ?_
  simp only [qz]
  refine rf_pick rfl rfl rfl ?_
  simp only [qz]
  refine rg_nil (ek_next (wk_cond_t rfl (wk_skip (ek_next (wk_seq (wk_block (wk_seq (wk_seq ?_))))))))
  refine wk_region [0, 0, 0, 0] rfl Kx ?_
  simp only [qy]
  refine rg_move ?_
  simp only [qz]
  refine rg_move ?_
  simp only [qz]
  refine rf_len rfl rfl rfl Try.underlying65 ?_
  simp only [qz]
  refine rfb_lss rfl rfl rfl rfl ?_
  intro x h8
  cases x
  · (try simp only [qd, ne_eq] at h8)
    simp only [qz]
    exfalso; omega
  (try simp only [qd, ne_eq] at h8)
  simp only [qz]
  have dx := hd.at i
  have dy := hd2.at i
  obtain ⟨b, off, rfl, hlt, hcell⟩ := AS.openU hA Ox
  refine rg_nil (ek_next (wk_cond_t rfl ?_))
  refine wk_region [0, 0, 0, 0, 0, 0, 0, 0] rfl Kx ?_
  simp only [qy]
  refine rg_move ?_
  simp only [qz]
  refine rg_move ?_
  simp only [qz]
  refine rg_move ?_
  simp only [qz]
  refine rf_indexS (n := i) (sz := 1) (j := off + i * 1) rfl rfl rfl rfl Try.underlying65 Kx Ox Ox rfl ?_
  simp only [qz]
  refine rf_load rfl rfl rfl Try.underlying160 rfl (fun w hw => (by have := (Kn.cellB hw hlt (by simp) (off + i)).trans (hcell i Ox); simpa using this)) ?_
  simp only [qz]
  refine rf_conv rfl rfl rfl Try.underlying160 Try.underlying99 (wrap_okU Ox Ox) ?_
  simp only [qz]
  refine rf_add rfl rfl rfl rfl (wrap_okU Ox Ox) ?_
  simp only [qz]
  refine rg_assign ?_
  simp only [qz]
  refine rg_nil (ek_next (wk_seq (wk_seq ?_)))
  refine wk_region [0, 0, 0, 0] rfl Kx ?_
  simp only [qy]
  refine rg_move ?_
  simp only [qz]
  refine rg_move ?_
  simp only [qz]
  refine rf_len rfl rfl rfl Try.underlying65 ?_
  simp only [qz]
  refine rfb_lss rfl rfl rfl rfl ?_
  intro x h9
  cases x
  · (try simp only [qd, ne_eq] at h9)
    simp only [qz]
    have zy := dig_out (xs := ys) (k := i) Ox
    refine rg_nil (ek_next (wk_cond_f rfl (wk_skip (ek_next (wk_seq ?_)))))
    refine wk_region [0, 0, 0, 1, 1, 0] rfl Kx ?_
    simp only [qy]
    refine rg_move ?_
    simp only [qz]
    refine rg_move ?_
    simp only [qz]
    refine rf_conv rfl rfl rfl Try.underlying99 Try.underlying160 (IntKind.wrap_u32 _) ?_
    simp only [qz]
    refine rg_newS (cs := ?_) (ty := ?_) (n := 1) (c := 1) Rx (fun w => ?_) Nz (fun g5 => ?_); rotate_left 2
    focus (go_simp; rfl)
    simp only [qz]
    refine rg_pushU rfl rfl hc1 rfl Ox Nz (fun u6 v6 hO6 => ?_)
    simp only [qz]
    refine rg_assign ?_
    simp only [qz]
    refine rg_nil (ek_next ?_)
    refine wk_region [0, 0, 0] rfl Kx ?_
    simp only [qy]
    refine rg_move ?_
    simp only [qz]
    refine rf_shr (c := 32) (q := 4294967296) rfl rfl rfl rfl rfl (by decide) ?_
    simp only [qz]
    refine rg_assign ?_
    simp only [qz]
    refine rg_nil (ek_block (ek_next ?_))
    refine wk_region [0, 0, 0] rfl Kx ?_
    simp only [qy]
    refine rg_move ?_
    simp only [qz]
    refine rf_add rfl rfl rfl rfl (wrap_ok Ox Ox) ?_
    simp only [qz]
    refine rg_assign ?_
    simp only [qz]
    refine rg_nil ?_
    have hdz' := hdz.snoc (y := (cy + dig xs i) % 4294967296) Ox Ox
    have hst := plus_step (t := cy + dig xs i) Ox heq.out Ox
    refine ek_roundF (1000000 - (i + 1)) Ox Kx ?_
    exact ⟨i + 1, (cy + dig xs i) / 4294967296, v6, u6, zs ++ [(cy + dig xs i) % 4294967296], rfl, rfl, rfl, by rfl, by rfl, hO6, hdz', (by simp; omega), (by simp; omega), Ox, Ox, hst, Ox⟩
  (try simp only [qd, ne_eq] at h9)
  simp only [qz]
  obtain ⟨b2, off2, rfl, hlt2, hcell2⟩ := AS.openU hA2 Ox
  refine rg_nil (ek_next (wk_cond_t rfl ?_))
  refine wk_region [0, 0, 0, 0, 0, 0, 0, 0] rfl Kx ?_
  simp only [qy]
  refine rg_move ?_
  simp only [qz]
  refine rg_move ?_
  simp only [qz]
  refine rg_move ?_
  simp only [qz]
  refine rf_indexS (n := i) (sz := 1) (j := off2 + i * 1) rfl rfl rfl rfl Try.underlying65 Kx Ox Ox rfl ?_
  simp only [qz]
  refine rf_load rfl rfl rfl Try.underlying160 rfl (fun w hw => (by have := (Kn.cellB hw hlt2 (by simp) (off2 + i)).trans (hcell2 i Ox); simpa using this)) ?_
  simp only [qz]
  refine rf_conv rfl rfl rfl Try.underlying160 Try.underlying99 (wrap_okU Ox Ox) ?_
  simp only [qz]
  refine rf_add rfl rfl rfl rfl (wrap_okU Ox Ox) ?_
  simp only [qz]
  refine rg_assign ?_
  simp only [qz]
  refine rg_nil (ek_next (wk_seq ?_))
  refine wk_region [0, 0, 0, 1, 1, 0] rfl Kx ?_
  simp only [qy]
  refine rg_move ?_
  simp only [qz]
  refine rg_move ?_
  simp only [qz]
  refine rf_conv rfl rfl rfl Try.underlying99 Try.underlying160 (IntKind.wrap_u32 _) ?_
  simp only [qz]
  refine rg_newS (cs := ?_) (ty := ?_) (n := 1) (c := 1) Rx (fun w => ?_) Nz (fun g7 => ?_); rotate_left 2
  focus (go_simp; rfl)
  simp only [qz]
  refine rg_pushU rfl rfl hc1 rfl Ox Nz (fun u8 v8 hO8 => ?_)
  simp only [qz]
  refine rg_assign ?_
  simp only [qz]
  refine rg_nil (ek_next ?_)
  refine wk_region [0, 0, 0] rfl Kx ?_
  simp only [qy]
  refine rg_move ?_
  simp only [qz]
  refine rf_shr (c := 32) (q := 4294967296) rfl rfl rfl rfl rfl (by decide) ?_
  simp only [qz]
  refine rg_assign ?_
  simp only [qz]
  refine rg_nil (ek_block (ek_next ?_))
  refine wk_region [0, 0, 0] rfl Kx ?_
  simp only [qy]
  refine rg_move ?_
  simp only [qz]
  refine rf_add rfl rfl rfl rfl (wrap_ok Ox Ox) ?_
  simp only [qz]
  refine rg_assign ?_
  simp only [qz]
  refine rg_nil ?_
  have hdz' := hdz.snoc (y := (cy + dig xs i + dig ys i) % 4294967296) Ox Ox
  have hst := plus_step (t := cy + dig xs i + dig ys i) Ox heq.out Ox
  refine ek_roundF (1000000 - (i + 1)) Ox Kx ?_
  exact ⟨i + 1, (cy + dig xs i + dig ys i) / 4294967296, v8, u8, zs ++ [(cy + dig xs i + dig ys i) % 4294967296], rfl, rfl, rfl, by rfl, by rfl, hO8, hdz', (by simp; omega), (by simp; omega), Ox, Ox, hst, Ox⟩

theorem minus_end {x y bo : Int} {i : Nat} {zs : List Int} (h : dval zs = x - y + 4294967296 ^ i * bo) (hd : Dg zs) (hl : zs.length = i) (hge : y ≤ x) (h0 : 0 ≤ bo) (h1 : bo ≤ 1) : dval zs = x - y := by
  have := (dval_range hd).2
  rw [hl] at this
  rcases (by omega : bo = 0 ∨ bo = 1) with rfl | rfl
  · omega
  omega
theorem wrap32_ok {n : Int} (h0 : 0 ≤ n) (h1 : n < 4294967296) : IntKind.u32.wrap n = n := by rw [IntKind.wrap_u32]; omega
set_option maxRecDepth 100000 in
set_option maxHeartbeats 1000000 in
theorem bminus_any (xs ys : List Int) (a a2 : Option Addr) (c c2 : Nat) (hd : Dg xs) (hd2 : Dg ys) (hl : xs.length ≤ 100000) (hl2 : ys.length ≤ 100000) (hge : dval ys ≤ dval xs) (hlen : ys.length ≤ xs.length) (w : World) (hA : AS w a (us xs)) (hA2 : AS w a2 (us ys)) : Calls Try.prog 149 #[.slice a xs.length c, .slice a2 ys.length c2] w fun e w' => RetD w (dval xs - dval ys).toNat e w' := by
  go_enter Try.func149, Try.ntmps149
  refine wk_start ?_
  refine wk_seq ?_
  refine wk_region [0] rfl Kx ?_
  simp only [qy]
  refine rg_assign ?_
  simp only [qz]
  refine rg_nil (ek_next (wk_seq ?_))
  refine wk_region [0] rfl Kx ?_
  simp only [qy]
  refine rg_assign ?_
  simp only [qz]
  refine rg_nil (ek_next (wk_seq ?_))
  refine wk_region [0] rfl Kx ?_
  simp only [qy]
  refine rg_assign ?_
  simp only [qz]
  refine rg_nil (ek_next (wk_seq (wk_seq ?_)))
  refine wk_region [0] rfl Kx ?_
  simp only [qy]
  refine rg_assign ?_
  simp only [qz]
  refine rg_nil (ek_next (wk_block ?_))
  refine wk_loopF [5, 6, 7, 8, 9, 10, 11, 12, 13, 14, 15, 16, 17, 18, 19, 20, 21, 22, 23, 24, 25, 26, 27, 28, 29, 30, 31, 32, 33, 34, 35, 36, 37, 38, 39, 40, 41] (fun mz f s => ∃ (i : Nat) (bo : Int) (v : Value) (u : List Blk) (zs : List Int), f 5 = v ∧ f 6 = .int .i64 bo ∧ f 7 = .int .i64 i ∧ s = (u ++ []) ∧ mz = xs.length - i ∧ OwnG DgE 160 u v zs ∧ Dg zs ∧ zs.length ≤ i ∧ i ≤ zs.length ∧ 0 ≤ bo ∧ bo ≤ 1 ∧ dval zs = dval (xs.take i) - dval (ys.take i) + 4294967296 ^ i * bo ∧ i ≤ xs.length) ((fun (i : Nat) (bo : Int) (v : Value) (u : List Blk) (zs : List Int) => xs.length - i) (0) (0) (.slice none 0 0) ([]) ([])) ?_ Kx ?_
  · exact ⟨0, 0, .slice none 0 0, [], [], rfl, rfl, rfl, rfl, rfl, OwnG.nil, Dg.nil, by simp, by simp, by omega, by omega, by simp [dval], by omega⟩
  rintro mz f1 s ⟨i, bo, v, u, zs, hs1_5, hs1_6, hs1_7, rfl, hn, hc1, hc2, hc3, hc4, hc5, hc6, hc7, hc8⟩
  simp only [Act.putF, List.foldl_cons, List.foldl_nil, hs1_5, hs1_6, hs1_7, Act.put, Act.eval, q1, q2, q3, q4, q5, q6, q7, q8, q9, q10, q11, q12, q13, q14, q15, q16, q17, q18, Nat.reduceAdd, Bool.not_true, Bool.not_false]
  clear hs1_5 hs1_6 hs1_7
  have hO := hc1
  have hdz := hc2
  have heq := Lib.hid hc7
  clear hc2 hc7
  refine wk_seq (wk_seq ?_)
  refine wk_region [0, 0, 0, 0] rfl Kx ?_
  simp only [qy]
  refine rg_move ?_
  simp only [qz]
  refine rg_move ?_
  simp only [qz]
  refine rf_len rfl rfl rfl Try.underlying65 ?_
  simp only [qz]
  refine rfb_lss rfl rfl rfl rfl ?_
  intro x h1
  cases x
  · (try simp only [qd, ne_eq] at h1)
    simp only [qz]
    refine rg_nil (ek_next (wk_cond_f rfl (wk_exit (ek_then_exit (ek_then_exit (ek_block_exit (ek_next (wk_seq ?_))))))))
    refine wk_region [0, 1, 0] rfl Kx ?_
    simp only [qy]
    refine rg_move ?_
    simp only [qz]
    obtain ⟨a0, c0, rfl, hcap⟩ := hO.val
    apply (rg_or (X := fun v => ∃ m, m ≤ zs.length ∧ v = .slice a0 m c0 ∧ (∀ j, m ≤ j → dig zs j = 0) ∧ (m = 0 ∨ dig zs (m - 1) ≠ 0))) Rx Kx
    case hargs => exact Ax
    case h => exact fun w hw => (trimmed_any zs a0 c0 hdz hcap Ox w (hO.as' hw)).mono fun e w' ⟨m, h1, h2, h3, h4, h5⟩ => ⟨_, h2, ⟨m, h1, rfl, h3, h4⟩, h5⟩
    case hz => exact Nz
    rintro v ⟨m, hm1, rfl, hm2, hm3⟩
    simp only [qz]
    refine rg_assign ?_
    simp only [qz]
    refine rg_nil (ek_next (wk_ret ?_))
    refine ek_ret (fun w hw => ⟨rfl, _, res_t _ rfl, ?_⟩)
    (try simp only [qz])
    have e1 : dval zs = dval xs - dval ys := by
      have h1 := heq.out
      rw [List.take_of_length_le Ox, List.take_of_length_le (show ys.length ≤ i by omega)] at h1
      exact minus_end h1 hdz Ox hge hc5 hc6
    exact ⟨_, u, rfl, e1 ▸ SU.own hO m hm1 (trim_eq hdz hm1 hm2 hm3) rfl, hw.made (by simp)⟩
  (try simp only [qd, ne_eq] at h1)
  simp only [qz]
  have dx := hd.at i
  have dy := hd2.at i
  obtain ⟨b, off, rfl, hlt, hcell⟩ := AS.openU hA Ox
  refine rg_nil (ek_next (wk_cond_t rfl (wk_skip (ek_next (wk_seq (wk_block (wk_seq ?_)))))))
  refine wk_region [0, 0, 0, 0, 0, 0, 0, 0] rfl Kx ?_
  simp only [qy]
  refine rg_move ?_
  simp only [qz]
  refine rg_move ?_
  simp only [qz]
  refine rf_indexS (n := i) (sz := 1) (j := off + i * 1) rfl rfl rfl rfl Try.underlying65 Kx Ox Ox rfl ?_
  simp only [qz]
  refine rf_load rfl rfl rfl Try.underlying160 rfl (fun w hw => (by have := (Kn.cellB hw hlt (by simp) (off + i)).trans (hcell i Ox); simpa using this)) ?_
  simp only [qz]
  refine rf_conv rfl rfl rfl Try.underlying160 Try.underlying2 (wrap_ok Ox Ox) ?_
  simp only [qz]
  refine rg_move ?_
  simp only [qz]
  refine rf_sub rfl rfl rfl rfl (wrap_ok Ox Ox) ?_
  simp only [qz]
  refine rg_assign ?_
  simp only [qz]
  refine rg_nil (ek_next (wk_seq (wk_seq ?_)))
  refine wk_region [0, 0, 0, 0] rfl Kx ?_
  simp only [qy]
  refine rg_move ?_
  simp only [qz]
  refine rg_move ?_
  simp only [qz]
  refine rf_len rfl rfl rfl Try.underlying65 ?_
  simp only [qz]
  refine rfb_lss rfl rfl rfl rfl ?_
  intro x h2
  cases x
  · (try simp only [qd, ne_eq] at h2)
    simp only [qz]
    have zy := dig_out (xs := ys) (k := i) Ox
    refine rg_nil (ek_next (wk_cond_f rfl (wk_skip (ek_next (wk_seq ?_)))))
    refine wk_region [0] rfl Kx ?_
    simp only [qy]
    refine rg_assign ?_
    simp only [qz]
    refine rg_nil (ek_next (wk_seq (wk_seq ?_)))
    refine wk_region [0, 0] rfl Kx ?_
    simp only [qy]
    refine rg_move ?_
    simp only [qz]
    refine rfb_lss rfl rfl rfl rfl ?_
    intro x h3
    cases x
    · (try simp only [qd, ne_eq] at h3)
      simp only [qz]
      refine rg_nil (ek_next (wk_cond_f rfl (wk_skip (ek_next ?_))))
      refine wk_region [0, 0, 0, 1, 1, 0] rfl Kx ?_
      simp only [qy]
      refine rg_move ?_
      simp only [qz]
      refine rg_move ?_
      simp only [qz]
      refine rf_conv rfl rfl rfl Try.underlying2 Try.underlying160 (wrap32_ok Ox Ox) ?_
      simp only [qz]
      refine rg_newS (cs := ?_) (ty := ?_) (n := 1) (c := 1) Rx (fun w => ?_) Nz (fun g1 => ?_); rotate_left 2
      focus (go_simp; rfl)
      simp only [qz]
      refine rg_pushU rfl rfl hc1 rfl Ox Nz (fun u2 v2 hO2 => ?_)
      simp only [qz]
      refine rg_assign ?_
      simp only [qz]
      refine rg_nil (ek_block (ek_next ?_))
      refine wk_region [0, 0, 0] rfl Kx ?_
      simp only [qy]
      refine rg_move ?_
      simp only [qz]
      refine rf_add rfl rfl rfl rfl (wrap_ok Ox Ox) ?_
      simp only [qz]
      refine rg_assign ?_
      simp only [qz]
      refine rg_nil ?_
      have hdz' := hdz.snoc (y := dig xs i - bo) Ox Ox
      have hst := minus_step (t := dig xs i - bo) Ox heq.out Ox 0
      rw [show dig xs i - bo + 4294967296 * 0 = dig xs i - bo by omega] at hst
      refine ek_roundF (xs.length - (i + 1)) Ox Kx ?_
      exact ⟨i + 1, 0, v2, u2, zs ++ [dig xs i - bo], rfl, rfl, rfl, by rfl, by rfl, hO2, hdz', (by simp; omega), (by simp; omega), Ox, Ox, hst, Ox⟩
    (try simp only [qd, ne_eq] at h3)
    simp only [qz]
    refine rg_nil (ek_next (wk_cond_t rfl (wk_seq ?_)))
    refine wk_region [0, 0, 0] rfl Kx ?_
    simp only [qy]
    refine rg_move ?_
    simp only [qz]
    refine rf_add rfl rfl rfl rfl (wrap_ok Ox Ox) ?_
    simp only [qz]
    refine rg_assign ?_
    simp only [qz]
    refine rg_nil (ek_next ?_)
    refine wk_region [0] rfl Kx ?_
    simp only [qy]
    refine rg_assign ?_
    simp only [qz]
    refine rg_nil (ek_next ?_)
    refine wk_region [0, 0, 0, 1, 1, 0] rfl Kx ?_
    simp only [qy]
    refine rg_move ?_
    simp only [qz]
    refine rg_move ?_
    simp only [qz]
    refine rf_conv rfl rfl rfl Try.underlying2 Try.underlying160 (wrap32_ok Ox Ox) ?_
    simp only [qz]
    refine rg_newS (cs := ?_) (ty := ?_) (n := 1) (c := 1) Rx (fun w => ?_) Nz (fun g3 => ?_); rotate_left 2
    focus (go_simp; rfl)
    simp only [qz]
    refine rg_pushU rfl rfl hc1 rfl Ox Nz (fun u4 v4 hO4 => ?_)
    simp only [qz]
    refine rg_assign ?_
    simp only [qz]
    refine rg_nil (ek_block (ek_next ?_))
    refine wk_region [0, 0, 0] rfl Kx ?_
    simp only [qy]
    refine rg_move ?_
    simp only [qz]
    refine rf_add rfl rfl rfl rfl (wrap_ok Ox Ox) ?_
    simp only [qz]
    refine rg_assign ?_
    simp only [qz]
    refine rg_nil ?_
    have hdz' := hdz.snoc (y := dig xs i - bo + 4294967296) Ox Ox
    have hst := minus_step (t := dig xs i - bo) Ox heq.out Ox 1
    rw [show dig xs i - bo + 4294967296 * 1 = dig xs i - bo + 4294967296 by omega] at hst
    refine ek_roundF (xs.length - (i + 1)) Ox Kx ?_
    exact ⟨i + 1, 1, v4, u4, zs ++ [dig xs i - bo + 4294967296], rfl, rfl, rfl, by rfl, by rfl, hO4, hdz', (by simp; omega), (by simp; omega), Ox, Ox, hst, Ox⟩
  (try simp only [qd, ne_eq] at h2)
  simp only [qz]
  obtain ⟨b2, off2, rfl, hlt2, hcell2⟩ := AS.openU hA2 Ox
  refine rg_nil (ek_next (wk_cond_t rfl ?_))
  refine wk_region [0, 0, 0, 0, 0, 0, 0, 0] rfl Kx ?_
  simp only [qy]
  refine rg_move ?_
  simp only [qz]
  refine rg_move ?_
  simp only [qz]
  refine rg_move ?_
  simp only [qz]
  refine rf_indexS (n := i) (sz := 1) (j := off2 + i * 1) rfl rfl rfl rfl Try.underlying65 Kx Ox Ox rfl ?_
  simp only [qz]
  refine rf_load rfl rfl rfl Try.underlying160 rfl (fun w hw => (by have := (Kn.cellB hw hlt2 (by simp) (off2 + i)).trans (hcell2 i Ox); simpa using this)) ?_
  simp only [qz]
  refine rf_conv rfl rfl rfl Try.underlying160 Try.underlying2 (wrap_ok Ox Ox) ?_
  simp only [qz]
  refine rf_sub rfl rfl rfl rfl (wrap_ok Ox Ox) ?_
  simp only [qz]
  refine rg_assign ?_
  simp only [qz]
  refine rg_nil (ek_next (wk_seq ?_))
  refine wk_region [0] rfl Kx ?_
  simp only [qy]
  refine rg_assign ?_
  simp only [qz]
  refine rg_nil (ek_next (wk_seq (wk_seq ?_)))
  refine wk_region [0, 0] rfl Kx ?_
  simp only [qy]
  refine rg_move ?_
  simp only [qz]
  refine rfb_lss rfl rfl rfl rfl ?_
  intro x h4
  cases x
  · (try simp only [qd, ne_eq] at h4)
    simp only [qz]
    refine rg_nil (ek_next (wk_cond_f rfl (wk_skip (ek_next ?_))))
    refine wk_region [0, 0, 0, 1, 1, 0] rfl Kx ?_
    simp only [qy]
    refine rg_move ?_
    simp only [qz]
    refine rg_move ?_
    simp only [qz]
    refine rf_conv rfl rfl rfl Try.underlying2 Try.underlying160 (wrap32_ok Ox Ox) ?_
    simp only [qz]
    refine rg_newS (cs := ?_) (ty := ?_) (n := 1) (c := 1) Rx (fun w => ?_) Nz (fun g5 => ?_); rotate_left 2
    focus (go_simp; rfl)
    simp only [qz]
    refine rg_pushU rfl rfl hc1 rfl Ox Nz (fun u6 v6 hO6 => ?_)
    simp only [qz]
    refine rg_assign ?_
    simp only [qz]
    refine rg_nil (ek_block (ek_next ?_))
    refine wk_region [0, 0, 0] rfl Kx ?_
    simp only [qy]
    refine rg_move ?_
    simp only [qz]
    refine rf_add rfl rfl rfl rfl (wrap_ok Ox Ox) ?_
    simp only [qz]
    refine rg_assign ?_
    simp only [qz]
    refine rg_nil ?_
    have hdz' := hdz.snoc (y := dig xs i - bo - dig ys i) Ox Ox
    have hst := minus_step (t := dig xs i - bo - dig ys i) Ox heq.out Ox 0
    rw [show dig xs i - bo - dig ys i + 4294967296 * 0 = dig xs i - bo - dig ys i by omega] at hst
    refine ek_roundF (xs.length - (i + 1)) Ox Kx ?_
    exact ⟨i + 1, 0, v6, u6, zs ++ [dig xs i - bo - dig ys i], rfl, rfl, rfl, by rfl, by rfl, hO6, hdz', (by simp; omega), (by simp; omega), Ox, Ox, hst, Ox⟩
  (try simp only [qd, ne_eq] at h4)
  simp only [qz]
  refine rg_nil (ek_next (wk_cond_t rfl (wk_seq ?_)))
  refine wk_region [0, 0, 0] rfl Kx ?_
  simp only [qy]
  refine rg_move ?_
  simp only [qz]
  refine rf_add rfl rfl rfl rfl (wrap_ok Ox Ox) ?_
  simp only [qz]
  refine rg_assign ?_
  simp only [qz]
  refine rg_nil (ek_next ?_)
  refine wk_region [0] rfl Kx ?_
  simp only [qy]
  refine rg_assign ?_
  simp only [qz]
  refine rg_nil (ek_next ?_)
  refine wk_region [0, 0, 0, 1, 1, 0] rfl Kx ?_
  simp only [qy]
  refine rg_move ?_
  simp only [qz]
  refine rg_move ?_
  simp only [qz]
  refine rf_conv rfl rfl rfl Try.underlying2 Try.underlying160 (wrap32_ok Ox Ox) ?_
  simp only [qz]
  refine rg_newS (cs := ?_) (ty := ?_) (n := 1) (c := 1) Rx (fun w => ?_) Nz (fun g7 => ?_); rotate_left 2
  focus (go_simp; rfl)
  simp only [qz]
  refine rg_pushU rfl rfl hc1 rfl Ox Nz (fun u8 v8 hO8 => ?_)
  simp only [qz]
  refine rg_assign ?_
  simp only [qz]
  refine rg_nil (ek_block (ek_next ?_))
  refine wk_region [0, 0, 0] rfl Kx ?_
  simp only [qy]
  refine rg_move ?_
  simp only [qz]
  refine rf_add rfl rfl rfl rfl (wrap_ok Ox Ox) ?_
  simp only [qz]
  refine rg_assign ?_
  simp only [qz]
  refine rg_nil ?_
  have hdz' := hdz.snoc (y := dig xs i - bo - dig ys i + 4294967296) Ox Ox
  have hst := minus_step (t := dig xs i - bo - dig ys i) Ox heq.out Ox 1
  rw [show dig xs i - bo - dig ys i + 4294967296 * 1 = dig xs i - bo - dig ys i + 4294967296 by omega] at hst
  refine ek_roundF (xs.length - (i + 1)) Ox Kx ?_
  exact ⟨i + 1, 1, v8, u8, zs ++ [dig xs i - bo - dig ys i + 4294967296], rfl, rfl, rfl, by rfl, by rfl, hO8, hdz', (by simp; omega), (by simp; omega), Ox, Ox, hst, Ox⟩

end Go.Proofs.Ytccbinnlnkpplaa
namespace Go.Proofs.Ytccbinnlnkpplaa
set_option linter.all false
open Go.RowKit

def ordN (m n : Nat) : Int := if m < n then -1 else if m = n then 0 else 1
theorem ordN_lt {m n : Nat} (h : m < n) : ordN m n = -1 := by unfold ordN; rw [if_pos h]
theorem ordN_eq {m n : Nat} (h : m = n) : ordN m n = 0 := by unfold ordN; rw [if_neg Ox, if_pos h]
theorem ordN_gt {m n : Nat} (h : n < m) : ordN m n = 1 := by unfold ordN; rw [if_neg Ox, if_neg Ox]
theorem digs_inj {m n : Nat} (h : digs m = digs n) : m = n := by
  have h1 := dval_digs m
  rw [h, dval_digs] at h1
  omega
theorem of_dig {m n i : Nat} (hi : i < (digs m).length) (hl : (digs m).length = (digs n).length) (hj : ∀ j, i < j → dig (digs m) j = dig (digs n) j) (h : dig (digs m) i < dig (digs n) i) : m < n := by
  have := lt_of_dig (digs_dg m) (digs_dg n) hi hl hj h
  rw [dval_digs, dval_digs] at this
  omega
set_option maxRecDepth 100000 in
set_option maxHeartbeats 1000000 in
theorem border_any (m n : Nat) (a a2 : Option Addr) (c c2 : Nat) (hl : (digs m).length ≤ 100000) (hl2 : (digs n).length ≤ 100000) (w : World) (hA : AS w a (us (digs m))) (hA2 : AS w a2 (us (digs n))) : Calls Try.prog 143 #[.slice a (digs m).length c, .slice a2 (digs n).length c2] w fun e w' => e = .returned (.int .i64 (ordN m n)) ∧ Below w.heap.size w w' := by
  go_enter Try.func143, Try.ntmps143
  refine wk_start ?_
  refine wk_seq ?_
  refine wk_region [0] rfl Kx ?_
  simp only [qy]
  refine rg_assign ?_
  simp only [qz]
  refine rg_nil (ek_next (wk_seq (wk_seq ?_)))
  refine wk_region [0, 0, 0, 0, 0] rfl Kx ?_
  simp only [qy]
  refine rg_move ?_
  simp only [qz]
  refine rf_len rfl rfl rfl Try.underlying65 ?_
  simp only [qz]
  refine rg_move ?_
  simp only [qz]
  refine rf_len rfl rfl rfl Try.underlying65 ?_
  simp only [qz]
  refine rfb_neq rfl rfl rfl rfl ?_
  intro x h1
  cases x
  · (try simp only [qd, ne_eq] at h1)
    simp only [qz]
    refine rg_nil (ek_next (wk_cond_f rfl (wk_skip (ek_next (wk_seq (wk_seq ?_))))))
    refine wk_region [0, 0, 0, 0] rfl Kx ?_
    simp only [qy]
    refine rg_move ?_
    simp only [qz]
    refine rf_len rfl rfl rfl Try.underlying65 ?_
    simp only [qz]
    refine rf_sub rfl rfl rfl rfl (wrap_ok Ox Ox) ?_
    simp only [qz]
    refine rg_assign ?_
    simp only [qz]
    refine rg_nil (ek_next (wk_block ?_))
    refine wk_loopF [4, 5, 19, 20, 21, 22, 23, 24, 25, 26, 27, 28, 29, 30, 31, 32, 33, 34, 35, 36, 37, 38, 39, 40] (fun mz f s => ∃ (k : Nat) (j : Int), f 5 = .int .i64 j ∧ s = [] ∧ mz = k ∧ k ≤ (digs m).length ∧ (∀ t, k ≤ t → dig (digs m) t = dig (digs n) t) ∧ j + 1 ≤ k ∧ (k : Int) ≤ j + 1) ((fun (k : Nat) (j : Int) => k) ((digs m).length) (((digs m).length : Int) - 1)) ?_ Kx ?_
    · exact ⟨(digs m).length, ((digs m).length : Int) - 1, rfl, rfl, rfl, by omega, fun t ht => by rw [dig_out Ox, dig_out Ox], by omega, by omega⟩
    rintro mz f1 s ⟨k, j, hs1_5, rfl, hn, hc1, hc2, hc3, hc4⟩
    simp only [Act.putF, List.foldl_cons, List.foldl_nil, hs1_5, Act.put, Act.eval, q1, q2, q3, q4, q5, q6, q7, q8, q9, q10, q11, q12, q13, q14, q15, q16, q17, q18, Nat.reduceAdd, Bool.not_true, Bool.not_false]
    clear hs1_5
    refine wk_seq (wk_seq ?_)
    refine wk_region [0, 0] rfl Kx ?_
    simp only [qy]
    refine rg_move ?_
    simp only [qz]
    refine rfb_geq rfl rfl rfl rfl ?_
    intro x h2
    cases x
    · (try simp only [qd, ne_eq] at h2)
      simp only [qz]
      refine rg_nil (ek_next (wk_cond_f rfl (wk_exit (ek_then_exit (ek_then_exit (ek_block_exit (ek_next (wk_seq ?_))))))))
      refine wk_region [0] rfl Kx ?_
      simp only [qy]
      refine rg_assign ?_
      simp only [qz]
      refine rg_nil (ek_next (wk_ret ?_))
      refine ek_ret (fun w hw => ⟨rfl, _, res_t _ rfl, ?_⟩)
      (try simp only [qz])
      exact ⟨by rw [ordN_eq (digs_inj (eq_of_dig Ox (fun j => hc2 j Ox)))], hw.below⟩
    (try simp only [qd, ne_eq] at h2)
    simp only [qz]
    obtain ⟨b, off, rfl, hlt, hcell⟩ := AS.openU hA Ox
    obtain ⟨b2, off2, rfl, hlt2, hcell2⟩ := AS.openU hA2 Ox
    refine rg_nil (ek_next (wk_cond_t rfl (wk_skip (ek_next (wk_seq (wk_block (wk_seq ?_)))))))
    refine wk_draws _ _ [(0, 0), (1, 0), (2, 0), (3, 0), (4, 0), (5, 0), (6, 0), (7, 0), (8, 0)] [] Kx Kx (fun c d v a w h => by cases d <;> exact h) (sn) (fun e => by first | exact absurd e (by decide) | rfl) ?_
    simp only [List.map_cons, List.map_nil, List.getD_cons_zero, List.getD_cons_succ]
    refine rg_move ?_
    simp only [qz]
    refine rg_move ?_
    simp only [qz]
    refine rf_indexS (n := k - 1) (sz := 1) (j := off + (k - 1) * 1) rfl rfl rfl rfl Try.underlying65 Kx Ox Ox rfl ?_
    simp only [qz]
    refine rf_load rfl rfl rfl Try.underlying160 rfl (fun w hw => (by have := (Kn.cellB hw hlt (by simp) (off + (k - 1))).trans (hcell (k - 1) Ox); simpa using this)) ?_
    simp only [qz]
    refine rg_move ?_
    simp only [qz]
    refine rg_move ?_
    simp only [qz]
    refine rf_indexS (n := k - 1) (sz := 1) (j := off2 + (k - 1) * 1) rfl rfl rfl rfl Try.underlying65 Kx Ox Ox rfl ?_
    simp only [qz]
    refine rf_load rfl rfl rfl Try.underlying160 rfl (fun w hw => (by have := (Kn.cellB hw hlt2 (by simp) (off2 + (k - 1))).trans (hcell2 (k - 1) Ox); simpa using this)) ?_
    simp only [qz]
    refine rfb_neq rfl rfl rfl rfl ?_
    intro x h3
    cases x
    · (try simp only [qd, ne_eq] at h3)
      simp only [qz]
      refine rg_nil (ek_next (wk_cond_f rfl (wk_skip (ek_block (ek_next ?_)))))
      refine wk_region [0, 0, 0] rfl Kx ?_
      simp only [qy]
      refine rg_move ?_
      simp only [qz]
      refine rf_sub rfl rfl rfl rfl (wrap_ok Ox Ox) ?_
      simp only [qz]
      refine rg_assign ?_
      simp only [qz]
      refine rg_nil ?_
      refine ek_roundF (k - 1) Ox Kx ?_
      exact ⟨k - 1, j - 1, rfl, by rfl, by rfl, Ox, fun t ht => if he : t = k - 1 then (by subst he; omega) else hc2 t Ox, Ox, Ox⟩
    (try simp only [qd, ne_eq] at h3)
    simp only [qz]
    refine rg_nil (ek_next (wk_cond_t rfl (wk_seq (wk_seq ?_))))
    refine wk_draws _ _ [(0, 0), (1, 0), (2, 0), (3, 0), (4, 0), (5, 0), (6, 0), (7, 0), (8, 0)] [] Kx Kx (fun c d v a w h => by cases d <;> exact h) (sn) (fun e => by first | exact absurd e (by decide) | rfl) ?_
    simp only [List.map_cons, List.map_nil, List.getD_cons_zero, List.getD_cons_succ]
    refine rg_move ?_
    simp only [qz]
    refine rg_move ?_
    simp only [qz]
    refine rf_indexS (n := k - 1) (sz := 1) (j := off + (k - 1) * 1) rfl rfl rfl rfl Try.underlying65 Kx Ox Ox rfl ?_
    simp only [qz]
    refine rf_load rfl rfl rfl Try.underlying160 rfl (fun w hw => (by have := (Kn.cellB hw hlt (by simp) (off + (k - 1))).trans (hcell (k - 1) Ox); simpa using this)) ?_
    simp only [qz]
    refine rg_move ?_
    simp only [qz]
    refine rg_move ?_
    simp only [qz]
    refine rf_indexS (n := k - 1) (sz := 1) (j := off2 + (k - 1) * 1) rfl rfl rfl rfl Try.underlying65 Kx Ox Ox rfl ?_
    simp only [qz]
    refine rf_load rfl rfl rfl Try.underlying160 rfl (fun w hw => (by have := (Kn.cellB hw hlt2 (by simp) (off2 + (k - 1))).trans (hcell2 (k - 1) Ox); simpa using this)) ?_
    simp only [qz]
    refine rfb_lss rfl rfl rfl rfl ?_
    intro x h4
    cases x
    · (try simp only [qd, ne_eq] at h4)
      simp only [qz]
      refine rg_nil (ek_next (wk_cond_f rfl (wk_skip (ek_next (wk_seq ?_)))))
      refine wk_region [0] rfl Kx ?_
      simp only [qy]
      refine rg_assign ?_
      simp only [qz]
      refine rg_nil (ek_next (wk_ret (ek_block_ret (ek_then_ret (ek_then_ret (ek_block_ret (ek_then_ret ?_)))))))
      refine ek_ret (fun w hw => ⟨rfl, _, res_t _ rfl, ?_⟩)
      (try simp only [qz])
      exact ⟨by rw [ordN_gt (of_dig (i := k - 1) Ox Ox (fun j hj => (hc2 j Ox).symm) Ox)], hw.below⟩
    (try simp only [qd, ne_eq] at h4)
    simp only [qz]
    refine rg_nil (ek_next (wk_cond_t rfl (wk_seq ?_)))
    refine wk_region [0] rfl Kx ?_
    simp only [qy]
    refine rg_assign ?_
    simp only [qz]
    refine rg_nil (ek_next (wk_ret (ek_then_ret (ek_block_ret (ek_then_ret (ek_then_ret (ek_block_ret (ek_then_ret ?_))))))))
    refine ek_ret (fun w hw => ⟨rfl, _, res_t _ rfl, ?_⟩)
    (try simp only [qz])
    exact ⟨by rw [ordN_lt (of_dig (i := k - 1) Ox Ox (fun j hj => hc2 j Ox) Ox)], hw.below⟩
  (try simp only [qd, ne_eq] at h1)
  simp only [qz]
  refine rg_nil (ek_next (wk_cond_t rfl (wk_seq (wk_seq ?_))))
  refine wk_region [0, 0, 0, 0, 0] rfl Kx ?_
  simp only [qy]
  refine rg_move ?_
  simp only [qz]
  refine rf_len rfl rfl rfl Try.underlying65 ?_
  simp only [qz]
  refine rg_move ?_
  simp only [qz]
  refine rf_len rfl rfl rfl Try.underlying65 ?_
  simp only [qz]
  refine rfb_lss rfl rfl rfl rfl ?_
  intro x h5
  cases x
  · (try simp only [qd, ne_eq] at h5)
    simp only [qz]
    refine rg_nil (ek_next (wk_cond_f rfl (wk_skip (ek_next (wk_seq ?_)))))
    refine wk_region [0] rfl Kx ?_
    simp only [qy]
    refine rg_assign ?_
    simp only [qz]
    refine rg_nil (ek_next (wk_ret (ek_then_ret ?_)))
    refine ek_ret (fun w hw => ⟨rfl, _, res_t _ rfl, ?_⟩)
    (try simp only [qz])
    exact ⟨by rw [ordN_gt (digs_lt_of_len Ox)], hw.below⟩
  (try simp only [qd, ne_eq] at h5)
  simp only [qz]
  refine rg_nil (ek_next (wk_cond_t rfl (wk_seq ?_)))
  refine wk_region [0] rfl Kx ?_
  simp only [qy]
  refine rg_assign ?_
  simp only [qz]
  refine rg_nil (ek_next (wk_ret (ek_then_ret (ek_then_ret ?_))))
  refine ek_ret (fun w hw => ⟨rfl, _, res_t _ rfl, ?_⟩)
  (try simp only [qz])
  exact ⟨by rw [ordN_lt (digs_lt_of_len Ox)], hw.below⟩

theorem push_digs {t : Int} {zs : List Int} (h : 0 < t) : (zs ++ [t % 4294967296]) ++ digs (t / 4294967296).toNat = zs ++ digs t.toNat := by
  rw [List.append_assoc, digs_pos (n := t.toNat) Ox]
  have e1 : ((t.toNat % 4294967296 : Nat) : Int) = t % 4294967296 := by omega
  have e2 : t.toNat / 4294967296 = (t / 4294967296).toNat := by omega
  rw [e1, e2]
  rfl
set_option maxRecDepth 100000 in
set_option maxHeartbeats 1000000 in
theorem bigOf_any (n : Int) (h0 : -9223372036854775808 ≤ n) (h1 : n ≤ 9223372036854775807) (w : World) : Calls Try.prog 97 #[.int .i64 n] w fun e w' => RetB w n e w' := by
  go_enter Try.func97, Try.ntmps97
  refine wk_start ?_
  refine wk_seq ?_
  refine wk_region [1] rfl Kx ?_
  simp only [qy]
  refine Rgn fun g1 => ?_
  simp only [qz]
  refine rg_nil (ek_next (wk_seq ?_))
  refine wk_region [0, 0, 0, 1, 1] rfl Kx ?_
  simp only [qy]
  refine rg_move ?_
  simp only [qz]
  refine rf_lss rfl rfl rfl rfl rfl ?_
  simp only [qz]
  refine rf_build (cs := fun a => #[a.eval (.tmp 6), .slice none 0 0]) rfl rfl Kx ?_
  simp only [qz]
  refine Rgn fun g2 => ?_
  simp only [qz]
  refine rf_storeR (n := 2) rfl rfl Kx rfl rfl (UpdR.here _ _ _ Nl) Nz ?_
  simp only [qz, Nat.reduceAdd]
  refine rg_nil (ek_next (wk_seq ?_))
  refine wk_region [0, 0, 0] rfl Kx ?_
  simp only [qy]
  refine rg_move ?_
  simp only [qz]
  refine rf_conv rfl rfl rfl Try.underlying3 Try.underlying99 (IntKind.wrap_u64 _) ?_
  simp only [qz]
  refine rg_assign ?_
  simp only [qz]
  refine rg_nil (ek_next (wk_seq (wk_seq ?_)))
  refine wk_region [0, 0] rfl Kx ?_
  simp only [qy]
  refine rf_field (n := 0) (j := 0) rfl rfl rfl Try.underlying67 rfl Kx rfl ?_
  simp only [qz]
  refine rf_load rfl rfl rfl Try.underlying4 rfl (fun w hw => (Kn.hd0 hw).at rfl) ?_
  simp only [qz]
  refine rg_nil (ek_next ?_)
  refine wk_cond (t := _) rfl (fun h1 => ?_) (fun h1 => ?_)
  · (try simp only [qd] at h1)
    refine wk_region [0, 0, 0] rfl Kx ?_
    simp only [qy]
    refine rg_move ?_
    simp only [qz]
    refine rf_neg rfl rfl rfl (IntKind.wrap_u64 _) ?_
    simp only [qz]
    refine rg_assign ?_
    simp only [qz]
    refine rg_nil (ek_next (wk_seq (wk_block ?_)))
    refine wk_loopF [4, 14, 15, 16, 17, 18, 19, 20, 21, 22, 23, 24] (fun mz f s => ∃ (t : Int) (va : Option Addr) (vl vc : Nat) (u : List Blk) (zs : List Int), f 4 = .int .u64 t ∧ s = (u ++ ((g2, .cells #[.bool (decide (n < 0)), .slice va vl vc] 67) :: ((g1, .cells #[.bool false, .slice none 0 0] 67) :: []))) ∧ mz = t.toNat ∧ OwnG DgE 160 u (.slice va vl vc) zs ∧ zs ++ digs t.toNat = digs n.natAbs ∧ 0 ≤ t ∧ t < 18446744073709551616) ((fun (t : Int) (va : Option Addr) (vl vc : Nat) (u : List Blk) (zs : List Int) => t.toNat) ((-(n % 18446744073709551616)) % 18446744073709551616) (none) (0) (0) ([]) ([])) ?_ Kx ?_
    · exact ⟨(-(n % 18446744073709551616)) % 18446744073709551616, none, 0, 0, [], [], rfl, rfl, rfl, OwnG.nil, (by simp; congr 1; omega), Ox, Ox⟩
    rintro mz f1 s ⟨t, va, vl, vc, u, zs, hs1_4, rfl, hn, hc1, hc2, hc3, hc4⟩
    simp only [Act.putF, List.foldl_cons, List.foldl_nil, hs1_4, Act.put, Act.eval, q1, q2, q3, q4, q5, q6, q7, q8, q9, q10, q11, q12, q13, q14, q15, q16, q17, q18, Nat.reduceAdd, Bool.not_true, Bool.not_false]
    clear hs1_4
    have hO := hc1
    have hzl : zs.length ≤ 2 := by (have h1 := congrArg List.length hc2; rw [List.length_append] at h1; have h2 := digs_len_le (n := n.natAbs) (L := 2) Ox; omega)
    have heq := Lib.hid hc2
    clear hc2
    refine wk_seq (wk_seq ?_)
    refine wk_region [0, 0] rfl Kx ?_
    simp only [qy]
    refine rg_move ?_
    simp only [qz]
    refine rfb_gtr rfl rfl rfl rfl ?_
    intro x h2
    cases x
    · (try simp only [qd, ne_eq] at h2)
      simp only [qz]
      refine rg_nil (ek_next (wk_cond_f rfl (wk_exit (ek_then_exit (ek_then_exit (ek_block_exit (ek_next (wk_seq ?_))))))))
      refine wk_region [0, 1] rfl Kx ?_
      simp only [qy]
      refine rf_loadR (n := 2) rfl rfl rfl Try.underlying67 rfl Kx (fun w hw => Kn.hd0 (Kn.tlU hw)) rfl rfl ?_
      simp only [qz]
      refine rf_storeR (n := 2) rfl rfl Kx rfl rfl (UpdR.app _ (UpdR.there _ (UpdR.here _ _ _ Nl))) Nz ?_
      simp only [qz, Nat.reduceAdd]
      refine rg_nil (ek_next (wk_ret ?_))
      refine ek_ret (fun w hw => ⟨rfl, _, run_results1 rfl rfl (Kn.hd0 (Kn.tl (Kn.tlU hw))) Try.underlying67 rfl Kx, ?_⟩)
      (try simp only [qz])
      have ht : t = 0 := by omega
      subst ht
      have e1 : zs = digs n.natAbs := by (have := heq.out; rwa [show (0 : Int).toNat = 0 from rfl, digs_zero, List.append_nil] at this)
      subst e1
      obtain ⟨a0, c0, e0, hcap⟩ := hO.val
      injection e0 with e1 e2 e3
      subst e1 e2 e3
      exact ⟨_, u, rfl, ⟨.slice va _ vc, rfl, SU.own hO _ (Nat.le_refl _) (List.take_length ..) rfl⟩, hw.made (by simp)⟩
    (try simp only [qd, ne_eq] at h2)
    simp only [qz]
    refine rg_nil (ek_next (wk_cond_t rfl (wk_skip (ek_next (wk_block (wk_seq ?_))))))
    refine wk_region [0, 0, 0, 0, 1, 1, 0, 1] rfl Kx ?_
    simp only [qy]
    refine rf_field (n := 0) (j := 1) rfl rfl rfl Try.underlying67 rfl Kx rfl ?_
    simp only [qz]
    refine rf_load rfl rfl rfl Try.underlying65 rfl (fun w hw => (Kn.hd0 (Kn.tlU hw)).at rfl) ?_
    simp only [qz]
    refine rg_move ?_
    simp only [qz]
    refine rf_conv rfl rfl rfl Try.underlying99 Try.underlying160 (IntKind.wrap_u32 _) ?_
    simp only [qz]
    refine rg_newS (cs := ?_) (ty := ?_) (n := 1) (c := 1) Rx (fun w => ?_) Nz (fun g3 => ?_); rotate_left 2
    focus (go_simp; rfl)
    simp only [qz]
    refine rg_pushU rfl rfl hc1 rfl Ox Nz (fun u4 v4 hO4 => ?_)
    simp only [qz]
    obtain ⟨va4, vc4, rfl, hcap4⟩ := hO4.val
    refine rf_field (n := 0) (j := 1) rfl rfl rfl Try.underlying67 rfl Kx rfl ?_
    simp only [qz]
    refine rf_store rfl rfl Kx rfl rfl (UpdR.app _ (UpdR.here _ _ _ Nl)) Nz ?_
    simp only [qz]
    refine rg_nil (ek_next ?_)
    refine wk_region [0, 0, 0] rfl Kx ?_
    simp only [qy]
    refine rg_move ?_
    simp only [qz]
    refine rf_shr (c := 32) (q := 4294967296) rfl rfl rfl rfl rfl (by decide) ?_
    simp only [qz]
    refine rg_assign ?_
    simp only [qz]
    refine rg_nil (ek_block ?_)
    have hst : (zs ++ [t % 4294967296]) ++ digs (t / 4294967296).toNat = digs n.natAbs := by rw [← heq.out, push_digs Ox]
    refine ek_roundF ((t / 4294967296).toNat) (Ox) Kx ?_
    exact ⟨t / 4294967296, va4, _, vc4, u4, zs ++ [t % 4294967296], rfl, by rfl, by rfl, hO4, hst, Ox, Ox⟩
  (try simp only [qd] at h1)
  refine wk_skip (ek_next (wk_seq (wk_block ?_)))
  refine wk_loopF [4, 14, 15, 16, 17, 18, 19, 20, 21, 22, 23, 24] (fun mz f s => ∃ (t : Int) (va : Option Addr) (vl vc : Nat) (u : List Blk) (zs : List Int), f 4 = .int .u64 t ∧ s = (u ++ ((g2, .cells #[.bool (decide (n < 0)), .slice va vl vc] 67) :: ((g1, .cells #[.bool false, .slice none 0 0] 67) :: []))) ∧ mz = t.toNat ∧ OwnG DgE 160 u (.slice va vl vc) zs ∧ zs ++ digs t.toNat = digs n.natAbs ∧ 0 ≤ t ∧ t < 18446744073709551616) ((fun (t : Int) (va : Option Addr) (vl vc : Nat) (u : List Blk) (zs : List Int) => t.toNat) (n % 18446744073709551616) (none) (0) (0) ([]) ([])) ?_ Kx ?_
  · exact ⟨n % 18446744073709551616, none, 0, 0, [], [], rfl, rfl, rfl, OwnG.nil, (by simp; congr 1; omega), Ox, Ox⟩
  rintro mz f1 s ⟨t, va, vl, vc, u, zs, hs1_4, rfl, hn, hc1, hc2, hc3, hc4⟩
  simp only [Act.putF, List.foldl_cons, List.foldl_nil, hs1_4, Act.put, Act.eval, q1, q2, q3, q4, q5, q6, q7, q8, q9, q10, q11, q12, q13, q14, q15, q16, q17, q18, Nat.reduceAdd, Bool.not_true, Bool.not_false]
  clear hs1_4
  have hO := hc1
  have hzl : zs.length ≤ 2 := by (have h1 := congrArg List.length hc2; rw [List.length_append] at h1; have h2 := digs_len_le (n := n.natAbs) (L := 2) Ox; omega)
  have heq := Lib.hid hc2
  clear hc2
  refine wk_seq (wk_seq ?_)
  refine wk_region [0, 0] rfl Kx ?_
  simp only [qy]
  refine rg_move ?_
  simp only [qz]
  refine rfb_gtr rfl rfl rfl rfl ?_
  intro x h3
  cases x
  · (try simp only [qd, ne_eq] at h3)
    simp only [qz]
    refine rg_nil (ek_next (wk_cond_f rfl (wk_exit (ek_then_exit (ek_then_exit (ek_block_exit (ek_next (wk_seq ?_))))))))
    refine wk_region [0, 1] rfl Kx ?_
    simp only [qy]
    refine rf_loadR (n := 2) rfl rfl rfl Try.underlying67 rfl Kx (fun w hw => Kn.hd0 (Kn.tlU hw)) rfl rfl ?_
    simp only [qz]
    refine rf_storeR (n := 2) rfl rfl Kx rfl rfl (UpdR.app _ (UpdR.there _ (UpdR.here _ _ _ Nl))) Nz ?_
    simp only [qz, Nat.reduceAdd]
    refine rg_nil (ek_next (wk_ret ?_))
    refine ek_ret (fun w hw => ⟨rfl, _, run_results1 rfl rfl (Kn.hd0 (Kn.tl (Kn.tlU hw))) Try.underlying67 rfl Kx, ?_⟩)
    (try simp only [qz])
    have ht : t = 0 := by omega
    subst ht
    have e1 : zs = digs n.natAbs := by (have := heq.out; rwa [show (0 : Int).toNat = 0 from rfl, digs_zero, List.append_nil] at this)
    subst e1
    obtain ⟨a0, c0, e0, hcap⟩ := hO.val
    injection e0 with e1 e2 e3
    subst e1 e2 e3
    exact ⟨_, u, rfl, ⟨.slice va _ vc, rfl, SU.own hO _ (Nat.le_refl _) (List.take_length ..) rfl⟩, hw.made (by simp)⟩
  (try simp only [qd, ne_eq] at h3)
  simp only [qz]
  refine rg_nil (ek_next (wk_cond_t rfl (wk_skip (ek_next (wk_block (wk_seq ?_))))))
  refine wk_region [0, 0, 0, 0, 1, 1, 0, 1] rfl Kx ?_
  simp only [qy]
  refine rf_field (n := 0) (j := 1) rfl rfl rfl Try.underlying67 rfl Kx rfl ?_
  simp only [qz]
  refine rf_load rfl rfl rfl Try.underlying65 rfl (fun w hw => (Kn.hd0 (Kn.tlU hw)).at rfl) ?_
  simp only [qz]
  refine rg_move ?_
  simp only [qz]
  refine rf_conv rfl rfl rfl Try.underlying99 Try.underlying160 (IntKind.wrap_u32 _) ?_
  simp only [qz]
  refine rg_newS (cs := ?_) (ty := ?_) (n := 1) (c := 1) Rx (fun w => ?_) Nz (fun g5 => ?_); rotate_left 2
  focus (go_simp; rfl)
  simp only [qz]
  refine rg_pushU rfl rfl hc1 rfl Ox Nz (fun u6 v6 hO6 => ?_)
  simp only [qz]
  obtain ⟨va6, vc6, rfl, hcap6⟩ := hO6.val
  refine rf_field (n := 0) (j := 1) rfl rfl rfl Try.underlying67 rfl Kx rfl ?_
  simp only [qz]
  refine rf_store rfl rfl Kx rfl rfl (UpdR.app _ (UpdR.here _ _ _ Nl)) Nz ?_
  simp only [qz]
  refine rg_nil (ek_next ?_)
  refine wk_region [0, 0, 0] rfl Kx ?_
  simp only [qy]
  refine rg_move ?_
  simp only [qz]
  refine rf_shr (c := 32) (q := 4294967296) rfl rfl rfl rfl rfl (by decide) ?_
  simp only [qz]
  refine rg_assign ?_
  simp only [qz]
  refine rg_nil (ek_block ?_)
  have hst : (zs ++ [t % 4294967296]) ++ digs (t / 4294967296).toNat = digs n.natAbs := by rw [← heq.out, push_digs Ox]
  refine ek_roundF ((t / 4294967296).toNat) (Ox) Kx ?_
  exact ⟨t / 4294967296, va6, _, vc6, u6, zs ++ [t % 4294967296], rfl, by rfl, by rfl, hO6, hst, Ox, Ox⟩

end Go.Proofs.Ytccbinnlnkpplaa
namespace Go.Proofs.Ytccbinnlnkpplaa
set_option linter.all false

def sel4 {α : Type} (a b c d : α) : Nat → α
  | 0 => a
  | 1 => b
  | 2 => c
  | _ => d
def upd {α : Type} (T : Nat → α) (j : Nat) (t : α) : Nat → α := fun m => if m = j then t else T m
theorem upd_same {α : Type} (T : Nat → α) (j : Nat) (t : α) : upd T j t j = t := if_pos rfl
theorem upd_other {α : Type} (T : Nat → α) {j m : Nat} (t : α) (h : m ≠ j) : upd T j t m = T m := if_neg h
theorem lt4 {m : Nat} (h : m < 4) : m = 0 ∨ m = 1 ∨ m = 2 ∨ m = 3 := by omega
/-- The sum of the first n products. -/
def acc (X Y : Nat → Int) : Nat → Nat → Int
  | 0, _ => 0
  | n + 1, m => if m = (n / 4 + n % 4) % 4 then acc X Y n m + (if 4 ≤ n / 4 + n % 4 then -(X (n / 4) * Y (n % 4)) else X (n / 4) * Y (n % 4)) else acc X Y n m
theorem acc_bound {X Y : Nat → Int} {M : Int} (h0 : 0 ≤ M) (h : ∀ i k, i < 4 → k < 4 → -M ≤ X i * Y k ∧ X i * Y k ≤ M) : ∀ n m, n ≤ 16 → -(n * M) ≤ acc X Y n m ∧ acc X Y n m ≤ n * M
  | 0, m, _ => by simp [acc]
  | n + 1, m, hn => by
    have ih := acc_bound h0 h n m (by omega)
    have hb := h (n / 4) (n % 4) (by omega) (by omega)
    have e : ((n + 1 : Nat) : Int) * M = n * M + M := by rw [Int.natCast_add, Int.add_mul]; simp
    rw [e]
    simp only [acc]
    split
    · split <;> omega
    · omega
theorem acc_16 (x y : Nm) : (⟨acc (sel4 x.a x.b x.c x.d) (sel4 y.a y.b y.c y.d) 16 0, acc (sel4 x.a x.b x.c x.d) (sel4 y.a y.b y.c y.d) 16 1, acc (sel4 x.a x.b x.c x.d) (sel4 y.a y.b y.c y.d) 16 2, acc (sel4 x.a x.b x.c x.d) (sel4 y.a y.b y.c y.d) 16 3, x.k + y.k⟩ : Nm) = x.mulR y := by
  unfold Nm.mulR
  congr 1 <;> simp [acc, sel4] <;> omega
theorem acc_step {X Y T : Nat → Int} {i k : Nat} (hk : k < 4) (h : acc X Y (i * 4 + k) = T) : acc X Y (i * 4 + (k + 1)) = upd T ((i + k) % 4) (T ((i + k) % 4) + (if 4 ≤ i + k then -(X i * Y k) else X i * Y k)) := by
  funext m
  have e1 : (i * 4 + k) / 4 = i := by omega
  have e2 : (i * 4 + k) % 4 = k := by omega
  rw [show i * 4 + (k + 1) = i * 4 + k + 1 by omega]
  simp only [acc]
  rw [e1, e2, h]
  unfold upd
  split
  · next hm => rw [hm]
  · rfl
theorem sel_cases {p : Nat → Prop} (h0 : p 0) (h1 : p 1) (h2 : p 2) (h3 : p 3) : ∀ m, m < 4 → p m := fun m hm => by
  rcases lt4 hm with rfl | rfl | rfl | rfl <;> assumption
def smB (n : Int) : Bool := decide (-1000000000 ≤ n) && decide (n ≤ 1000000000)
def numOk (y : Nm) : Bool := smB y.a && (smB y.b && (smB y.c && smB y.d))
def wnum (z : Nm) : Nm × Bool := if numOk z.nf = true then (z.nf, decide (z.nf.k ≤ 40)) else (Nm.zero, false)
theorem wnum_numV {z : Nm} : numV z.mk' = if (wnum z).2 = true then .tuple #[nmV (wnum z).1, .int .i64 0] else .tuple #[nmV Nm.zero, .int .i64 4] := by
  have hs : z.nf.small = (decide (z.nf.k ≤ 40) && numOk z.nf) := by
    rw [Bool.eq_iff_iff, small_iff]
    simp only [numOk, smB, Bool.and_eq_true, decide_eq_true_eq]
    constructor
    · rintro ⟨h, h1, h2, h3, h4, h5, h6, h7, h8⟩
      exact ⟨h, ⟨h1, h2⟩, ⟨h3, h4⟩, ⟨h5, h6⟩, h7, h8⟩
    · rintro ⟨h, ⟨h1, h2⟩, ⟨h3, h4⟩, ⟨h5, h6⟩, h7, h8⟩
      exact ⟨h, h1, h2, h3, h4, h5, h6, h7, h8⟩
  unfold Nm.mk' wnum
  rw [hs]
  cases numOk z.nf with
  | false => simp [numV]
  | true =>
    by_cases h : z.nf.k ≤ 40
    · simp [h, numV]
    · simp [h, numV]
end Go.Proofs.Ytccbinnlnkpplaa
namespace Go.Proofs.Ytccbinnlnkpplaa
set_option linter.all false
open Go.RowKit

theorem us_map : ∀ ys : List Int, us ys = ys.map (.int .u32)
  | [] => rfl
  | y :: ys => by rw [us, El.flat_cons, List.map_cons, ← us_map ys]; rfl
theorem made_us (n : Nat) : madeCells (Value.int .u32 0).cells n = (us (List.replicate n 0)).toArray := by
  rw [us_map]
  unfold madeCells
  apply Array.ext'
  simp only [Array.toList_map, Array.toList_range]
  apply List.ext_getElem
  · simp
  intro i h1 h2
  simp [Value.cells, Nat.mod_one]
theorem set_us (zs : List Int) (i : Nat) (x : Int) : (us zs).toArray.setIfInBounds i (.int .u32 x) = (us (zs.set i x)).toArray := by
  rw [us_map, us_map]; simp [List.map_set]
theorem us_getA (zs : List Int) (k : Nat) (h : k < zs.length) : (us zs)[k]? = some (.int .u32 (dig zs k)) := us_get zs k h
theorem Rep.toUpd {g i t : Nat} {v : Value} {cs : Array Value} {s s' : List Blk} (h : Rep g (.cells cs t) (.cells (cs.setIfInBounds i v) t) s s') : Upd g i v s s' := by
  generalize ho : Obj.cells cs t = o at h
  generalize ho' : Obj.cells (cs.setIfInBounds i v) t = o' at h
  induction h with
  | here s => subst ho ho'; exact Upd.here t cs s
  | there b _ ih => exact .there b ih
theorem OwnG.wholeU {g : Nat} {zs : List Int} (h : zs.length ≤ 1000000) : OwnG DgE 160 [(g, .cells (us zs).toArray 160)] (.slice (some ⟨g, 0, none⟩) zs.length zs.length) zs :=
  Own.whole (cur := (us zs).toArray) (by simp [us_len]) (by simp only [maxLen]; omega)
section
variable {R : Option Nat} {ops : Array Oper} {Q : Exit → Act → World → Prop} {B : World} {F : List Nat} {s0 : Option (List Blk × List Blk)}
variable {l : List (Oper × Nat)} {a : Act} {s s' : List Blk} {d : Option Tmp} {t : TypeId} {p : String} {af : Array Edge} {v : Value}
theorem rg_makeU {lo co : Operand} {n : Nat} {z : Int} {gd : Option (Nat × Bool)} (hg : Region.wanted ⟨d, .makeSlice 65 lo co, t, p, af, gd⟩ (yielded ops a.tmps) = true) (hl : a.eval lo = .int .i64 z) (hc : a.eval co = .int .i64 z) (hz' : z = (n : Int)) (hn : n ≤ 1000000)
    (hzz : ∀ z ∈ s0, z.1.Sublist s) (h : ∀ g, Rg R Try.prog ops Q B F s0 l (a.put d (.slice (some ⟨g, 0, none⟩) n n)) ((g, .cells (us (List.replicate n 0)).toArray 160) :: s)) :
    Rg R Try.prog ops Q B F s0 ((⟨d, .makeSlice 65 lo co, t, p, af, gd⟩, 1) :: l) a s := by
  subst hz'
  obtain ⟨i, hi, hz, hs, hb⟩ := ip uInfo
  refine rg_make (i := i) (z := .int .u32 0) (n := n) hg Try.underlying65 hi hz hl hc (by rw [hb]; omega) Ox hzz fun g => ?_
  have : madeCells (Value.int .u32 0).cells (n * i.size) = (us (List.replicate n 0)).toArray := by rw [hs, Nat.mul_one]; exact made_us n
  rw [this]
  exact h g
/-- A store into digits that the call has made. -/
theorem rf_storeU {x y : Operand} {g i : Nat} {zs : List Int} {z : Int} (hx : a.eval x = .pointer (some ⟨g, i, none⟩)) (hy : a.eval y = .int .u32 z) (hi : i < zs.length)
    (hr : Rep g (.cells (us zs).toArray 160) (.cells (us (zs.set i z)).toArray 160) s s') (hz : ∀ z ∈ s0, z.1.Sublist s') (h : Rg R Try.prog ops Q B F s0 l (a.put d undef) s') :
    Rg R Try.prog ops Q B F s0 ((⟨d, .store 160 x y, t, p, af, none⟩, 1) :: l) a s := by
  rw [← set_us] at hr
  refine rg_store (fun w K => ⟨w.setCell ⟨g, i, none⟩ (.int .u32 z), ?_, K.set hr.toUpd⟩) hz h
  exact run_store1 hx hy Kx rfl rfl (there_of (K.hd hr.mem) (by simp [us_len]; omega))
/-- The same, marked. -/
theorem rf_storeUM {zz : List Blk × List Blk} {x y : Operand} {g i : Nat} {zs : List Int} {z : Int} (hx : a.eval x = .pointer (some ⟨g, i, none⟩)) (hy : a.eval y = .int .u32 z) (hi : i < zs.length)
    (hr : Rep g (.cells (us zs).toArray 160) (.cells (us (zs.set i z)).toArray 160) s s') (hz : zz.2.Sublist s') (h : Rg R Try.prog ops Q B F (some (zz.2, zz.2)) l (a.put d undef) s') :
    Rg R Try.prog ops Q B F (some zz) ((⟨d, .store 160 x y, t, p, af, none⟩, 2) :: l) a s := by
  rw [← set_us] at hr
  refine rg_storeM (fun w K => ⟨w.setCell ⟨g, i, none⟩ (.int .u32 z), ?_, K.set hr.toUpd⟩) hz h
  exact run_store1 hx hy Kx rfl rfl (there_of (K.hd hr.mem) (by simp [us_len]; omega))
end
theorem or_u32 {x y : Int} (h0 : 0 ≤ x) (h1 : x < 2147483648) (hy : y = 0 ∨ y = 2147483648) : bits .or .u32 x y = x + y := by
  show IntKind.u32.wrap ((BitVec.ofInt 32 x ||| BitVec.ofInt 32 y).toNat : Int) = _
  obtain ⟨n, rfl⟩ : ∃ n : Nat, x = n := ⟨x.toNat, by omega⟩
  rw [BitVec.toNat_or, IntKind.wrap_u32]
  have e1 : (BitVec.ofInt 32 (n : Int)).toNat = n := by rw [BitVec.toNat_ofInt]; omega
  rw [e1]
  rcases hy with rfl | rfl
  · have : (BitVec.ofInt 32 (0 : Int)).toNat = 0 := by decide
    rw [this, Nat.or_zero]; omega
  have : (BitVec.ofInt 32 (2147483648 : Int)).toNat = 2 ^ 31 := by decide
  have h2 := Nat.two_pow_add_eq_or_of_lt (i := 31) (b := n) Ox 1
  rw [Nat.mul_one] at h2
  rw [this, Nat.or_comm, ← h2]
  omega
end Go.Proofs.Ytccbinnlnkpplaa
namespace Go.Proofs.Ytccbinnlnkpplaa
set_option linter.all false
open Go.RowKit

set_option maxRecDepth 100000 in
set_option maxHeartbeats 1000000 in
theorem bneg_any (n : Int) (s : Value) (hl : (digs n.natAbs).length ≤ 1000) (w : World) (hs : SA w s n.natAbs) : Calls Try.prog 141 #[bgV n s] w fun e w' => e = .returned (bgV (-n) s) ∧ Below w.heap.size w w' := by
  obtain ⟨a, c, rfl, hA⟩ := hs
  have hlen := digs_nil_iff (n := n.natAbs)
  have hlz : (digs n.natAbs).length = 0 ↔ n = 0 := by rw [List.length_eq_zero_iff, hlen]; omega
  clear hlen
  go_enter Try.func141, Try.ntmps141
  refine wk_start ?_
  refine wk_seq ?_
  refine wk_region [1, 1] rfl Kx ?_
  simp only [qy]
  refine Rgn fun g1 => ?_
  simp only [qz]
  refine Rgn fun g2 => ?_
  simp only [qz]
  refine rg_nil (ek_next (wk_seq (wk_seq ?_)))
  refine wk_region [0, 0, 0, 0] rfl Kx ?_
  simp only [qy]
  refine rf_field (n := 0) (j := 1) rfl rfl rfl Try.underlying67 rfl Kx rfl ?_
  simp only [qz]
  refine rf_load rfl rfl rfl Try.underlying65 rfl (fun w hw => (Kn.hd0 (Kn.tl hw)).at rfl) ?_
  simp only [qz]
  refine rf_len rfl rfl rfl Try.underlying65 ?_
  simp only [qz]
  refine rfb_eql rfl rfl rfl rfl ?_
  intro x h1
  cases x
  · (try simp only [qd, ne_eq] at h1)
    simp only [qz]
    refine rg_nil (ek_next (wk_cond_f rfl (wk_skip (ek_next (wk_seq ?_)))))
    refine wk_region [0, 0, 0, 0, 0, 0, 1] rfl Kx ?_
    simp only [qy]
    refine rf_field (n := 0) (j := 0) rfl rfl rfl Try.underlying67 rfl Kx rfl ?_
    simp only [qz]
    refine rf_load rfl rfl rfl Try.underlying4 rfl (fun w hw => (Kn.hd0 (Kn.tl hw)).at rfl) ?_
    simp only [qz]
    refine rf_not rfl rfl rfl ?_
    simp only [qz]
    refine rf_field (n := 0) (j := 1) rfl rfl rfl Try.underlying67 rfl Kx rfl ?_
    simp only [qz]
    refine rf_load rfl rfl rfl Try.underlying65 rfl (fun w hw => (Kn.hd0 (Kn.tl hw)).at rfl) ?_
    simp only [qz]
    refine rf_build (cs := fun a => #[a.eval (.tmp 10), a.eval (.tmp 12)]) rfl rfl Kx ?_
    simp only [qz]
    refine rf_storeR (n := 2) rfl rfl Kx rfl rfl (UpdR.here _ _ _ Nl) Nz ?_
    simp only [qz, Nat.reduceAdd]
    refine rg_nil (ek_next (wk_ret ?_))
    refine ek_ret (fun w hw => ⟨rfl, _, run_results1 rfl rfl (Kn.hd0 hw) Try.underlying67 rfl Kx, ?_⟩)
    (try simp only [qz])
    have h0 : n ≠ 0 := fun e => by have := hlz.2 e; omega
    exact ⟨by (unfold bgV; rw [show decide (-n < 0) = !decide (n < 0) by (by_cases h : n < 0 <;> simp [h] <;> omega)]), hw.below⟩
  (try simp only [qd, ne_eq] at h1)
  simp only [qz]
  refine rg_nil (ek_next (wk_cond_t rfl (wk_seq ?_)))
  refine wk_region [0, 1] rfl Kx ?_
  simp only [qy]
  refine rf_loadR (n := 2) rfl rfl rfl Try.underlying67 rfl Kx (fun w hw => Kn.hd0 (Kn.tl hw)) rfl rfl ?_
  simp only [qz]
  refine rf_storeR (n := 2) rfl rfl Kx rfl rfl (UpdR.here _ _ _ Nl) Nz ?_
  simp only [qz, Nat.reduceAdd]
  refine rg_nil (ek_next (wk_ret (ek_then_ret ?_)))
  refine ek_ret (fun w hw => ⟨rfl, _, run_results1 rfl rfl (Kn.hd0 hw) Try.underlying67 rfl Kx, ?_⟩)
  (try simp only [qz])
  have h0 : n = 0 := hlz.1 Ox
  subst h0
  exact ⟨rfl, hw.below⟩

set_option maxRecDepth 100000 in
set_option maxHeartbeats 1000000 in
theorem beven_any (n : Int) (s : Value) (hl : (digs n.natAbs).length ≤ 1000) (w : World) (hs : SA w s n.natAbs) : Calls Try.prog 100 #[bgV n s] w fun e w' => e = .returned (.bool (decide (n % 2 = 0))) ∧ Below w.heap.size w w' := by
  obtain ⟨a, c, rfl, hA⟩ := hs
  have hlen := digs_nil_iff (n := n.natAbs)
  have hlz : (digs n.natAbs).length = 0 ↔ n = 0 := by rw [List.length_eq_zero_iff, hlen]; omega
  clear hlen
  go_enter Try.func100, Try.ntmps100
  refine wk_start ?_
  refine wk_seq ?_
  refine wk_region [1, 0] rfl Kx ?_
  simp only [qy]
  refine Rgn fun g1 => ?_
  simp only [qz]
  refine rg_assign ?_
  simp only [qz]
  refine rg_nil (ek_next (wk_seq ?_))
  refine wk_region [0, 0, 0, 0, 0, 0, 0, 0, 0, 0, 0, 0, 0] rfl Kx ?_
  simp only [qy]
  refine rf_field (n := 0) (j := 1) rfl rfl rfl Try.underlying67 rfl Kx rfl ?_
  simp only [qz]
  refine rf_load rfl rfl rfl Try.underlying65 rfl (fun w hw => (Kn.hd0 hw).at rfl) ?_
  simp only [qz]
  refine rf_len rfl rfl rfl Try.underlying65 ?_
  simp only [qz]
  refine rfb_eql rfl rfl rfl rfl ?_
  intro x h1
  cases x
  · (try simp only [qd, ne_eq] at h1)
    simp only [qz]
    have hpos : 0 < (digs n.natAbs).length := by omega
    obtain ⟨b, off, rfl, hlt, hcell⟩ := AS.openU hA hpos
    have hd0 := (digs_dg n.natAbs).at 0
    have hev := digs_even n.natAbs
    refine rg_move ?_
    simp only [qz]
    refine rf_field (n := 0) (j := 1) rfl rfl rfl Try.underlying67 rfl Kx rfl ?_
    simp only [qz]
    refine rf_load rfl rfl rfl Try.underlying65 rfl (fun w hw => (Kn.hd0 hw).at rfl) ?_
    simp only [qz]
    refine rf_indexS (n := 0) (sz := 1) (j := off + 0 * 1) rfl rfl rfl rfl Try.underlying65 Kx Ox Ox rfl ?_
    simp only [qz]
    refine rf_load rfl rfl rfl Try.underlying160 rfl (fun w hw => (by have := (Kn.cellB hw hlt (by simp) (off + 0)).trans (hcell 0 Ox); simpa using this)) ?_
    simp only [qz]
    apply rg_soft_g
    case hg => rfl
    case hy => (intro w hw; go_simp; (try go_bits); exact Yld.mk _ _)
    simp only [qz]
    refine rf_eql rfl rfl rfl rfl rfl ?_
    simp only [qz]
    refine rf_pick rfl rfl rfl ?_
    simp only [qz]
    refine rg_assign ?_
    simp only [qz]
    refine rg_nil (ek_next (wk_ret ?_))
    refine ek_ret (fun w hw => ⟨rfl, _, res_t _ rfl, ?_⟩)
    (try simp only [qz])
    refine ⟨?_, hw.below⟩
    congr 2
    first | exact decide_eq_decide.2 Ox | (apply Bool.eq_iff_iff.2; simp; omega)
  (try simp only [qd, ne_eq] at h1)
  simp only [qz]
  refine rg_move ?_
  simp only [qz]
  refine rg_skip Rx ?_
  simp only [qz]
  refine rg_skip Rx ?_
  simp only [qz]
  refine rg_skip Rx ?_
  simp only [qz]
  refine rg_skip Rx ?_
  simp only [qz]
  refine rg_skip Rx ?_
  simp only [qz]
  refine rg_skip Rx ?_
  simp only [qz]
  refine rf_pick rfl rfl rfl ?_
  simp only [qz]
  refine rg_assign ?_
  simp only [qz]
  refine rg_nil (ek_next (wk_ret ?_))
  refine ek_ret (fun w hw => ⟨rfl, _, res_t _ rfl, ?_⟩)
  (try simp only [qz])
  have h0 : n = 0 := hlz.1 Ox
  subst h0
  exact ⟨rfl, hw.below⟩

theorem dig_one {N : Nat} (h : (digs N).length = 1) : dig (digs N) 0 = N := by
  have h1 := dval_digs N
  rw [← List.take_of_length_le (show (digs N).length ≤ 1 by omega), dval_take (k := 0) Ox] at h1
  simpa [dval] using h1
theorem smB_no {n : Int} (h : ¬ (-1000000000 ≤ n ∧ n ≤ 1000000000)) : smB n = false := by
  unfold smB
  rw [Bool.and_eq_false_iff, decide_eq_false_iff_not, decide_eq_false_iff_not]
  omega
theorem smB_yes {n : Int} (h : -1000000000 ≤ n) (h' : n ≤ 1000000000) : smB n = true := by
  unfold smB; rw [decide_eq_true h, decide_eq_true h']; rfl
set_option maxRecDepth 100000 in
set_option maxHeartbeats 1000000 in
theorem bsmall_any (n : Int) (s : Value) (hl : (digs n.natAbs).length ≤ 1000) (w : World) (hs : SA w s n.natAbs) : Calls Try.prog 102 #[bgV n s] w fun e w' => e = .returned (.tuple #[.int .i64 (if smB n = true then n else 0), .bool (smB n)]) ∧ Below w.heap.size w w' := by
  obtain ⟨a, c, rfl, hA⟩ := hs
  have hlen := digs_nil_iff (n := n.natAbs)
  have hlz : (digs n.natAbs).length = 0 ↔ n = 0 := by rw [List.length_eq_zero_iff, hlen]; omega
  clear hlen
  have hbig : ¬ (digs n.natAbs).length ≤ 1 → 4294967296 ≤ (n.natAbs : Int) := fun h1 => by rcases Int.lt_or_le (n.natAbs : Int) 4294967296 with h2 | h2; exact absurd (digs_len_le (L := 1) Ox) h1; exact h2
  have hone : (digs n.natAbs).length = 1 → dig (digs n.natAbs) 0 = n.natAbs := dig_one
  go_enter Try.func102, Try.ntmps102
  refine wk_start ?_
  refine wk_seq ?_
  refine wk_region [1, 0, 0] rfl Kx ?_
  simp only [qy]
  refine Rgn fun g1 => ?_
  simp only [qz]
  refine rg_assign ?_
  simp only [qz]
  refine rg_assign ?_
  simp only [qz]
  refine rg_nil (ek_next (wk_seq (wk_seq ?_)))
  refine wk_region [0, 0, 0, 0] rfl Kx ?_
  simp only [qy]
  refine rf_field (n := 0) (j := 1) rfl rfl rfl Try.underlying67 rfl Kx rfl ?_
  simp only [qz]
  refine rf_load rfl rfl rfl Try.underlying65 rfl (fun w hw => (Kn.hd0 hw).at rfl) ?_
  simp only [qz]
  refine rf_len rfl rfl rfl Try.underlying65 ?_
  simp only [qz]
  refine rfb_gtr rfl rfl rfl rfl ?_
  intro x h1
  cases x
  · (try simp only [qd, ne_eq] at h1)
    simp only [qz]
    refine rg_nil (ek_next (wk_cond_f rfl (wk_skip (ek_next (wk_seq ?_)))))
    refine wk_region [0] rfl Kx ?_
    simp only [qy]
    refine rg_assign ?_
    simp only [qz]
    refine rg_nil (ek_next (wk_seq (wk_seq ?_)))
    refine wk_region [0, 0, 0, 0] rfl Kx ?_
    simp only [qy]
    refine rf_field (n := 0) (j := 1) rfl rfl rfl Try.underlying67 rfl Kx rfl ?_
    simp only [qz]
    refine rf_load rfl rfl rfl Try.underlying65 rfl (fun w hw => (Kn.hd0 hw).at rfl) ?_
    simp only [qz]
    refine rf_len rfl rfl rfl Try.underlying65 ?_
    simp only [qz]
    refine rfb_eql rfl rfl rfl rfl ?_
    intro x h2
    cases x
    · (try simp only [qd, ne_eq] at h2)
      simp only [qz]
      refine rg_nil (ek_next (wk_cond_f rfl (wk_skip (ek_next (wk_seq (wk_seq ?_))))))
      refine wk_region [0, 0] rfl Kx ?_
      simp only [qy]
      refine rg_move ?_
      simp only [qz]
      refine rf_gtr (b := false) rfl rfl rfl rfl (by decide) ?_
      simp only [qz]
      refine rg_nil (ek_next (wk_cond_f rfl (wk_skip (ek_next (wk_seq (wk_seq ?_))))))
      refine wk_region [0, 0] rfl Kx ?_
      simp only [qy]
      refine rf_field (n := 0) (j := 0) rfl rfl rfl Try.underlying67 rfl Kx rfl ?_
      simp only [qz]
      refine rf_load rfl rfl rfl Try.underlying4 rfl (fun w hw => (Kn.hd0 hw).at rfl) ?_
      simp only [qz]
      refine rg_nil (ek_next ?_)
      refine wk_cond (t := _) rfl (fun h3 => ?_) (fun h3 => ?_)
      · (try simp only [qd] at h3)
        refine wk_region [0, 0, 0] rfl Kx ?_
        simp only [qy]
        refine rg_move ?_
        simp only [qz]
        refine rf_neg rfl rfl rfl (wrap_ok Ox Ox) ?_
        simp only [qz]
        refine rg_assign ?_
        simp only [qz]
        refine rg_nil (ek_next (wk_seq ?_))
        refine wk_region [0, 0, 0] rfl Kx ?_
        simp only [qy]
        refine rg_move ?_
        simp only [qz]
        refine rg_assign ?_
        simp only [qz]
        refine rg_assign ?_
        simp only [qz]
        refine rg_nil (ek_next (wk_ret ?_))
        refine ek_ret (fun w hw => ⟨rfl, _, res_tt _ _ rfl, ?_⟩)
        (try simp only [qz])
        refine ⟨?_, hw.below⟩
        exfalso; have := hlz.1 Ox; omega
      (try simp only [qd] at h3)
      refine wk_skip (ek_next (wk_seq ?_))
      refine wk_region [0, 0, 0] rfl Kx ?_
      simp only [qy]
      refine rg_move ?_
      simp only [qz]
      refine rg_assign ?_
      simp only [qz]
      refine rg_assign ?_
      simp only [qz]
      refine rg_nil (ek_next (wk_ret ?_))
      refine ek_ret (fun w hw => ⟨rfl, _, res_tt _ _ rfl, ?_⟩)
      (try simp only [qz])
      refine ⟨?_, hw.below⟩
      have e1 : 0 = n := by (first | omega | (have := hlz.1 Ox; omega))
      rw [e1, smB_yes (n := n) Ox Ox]
      rfl
    (try simp only [qd, ne_eq] at h2)
    simp only [qz]
    have hpos : 0 < (digs n.natAbs).length := by omega
    obtain ⟨b, off, rfl, hlt, hcell⟩ := AS.openU hA hpos
    have hd0 := (digs_dg n.natAbs).at 0
    have hdv := hone Ox
    refine rg_nil (ek_next (wk_cond_t rfl ?_))
    refine wk_region [0, 0, 0, 0, 0, 0] rfl Kx ?_
    simp only [qy]
    refine rf_field (n := 0) (j := 1) rfl rfl rfl Try.underlying67 rfl Kx rfl ?_
    simp only [qz]
    refine rf_load rfl rfl rfl Try.underlying65 rfl (fun w hw => (Kn.hd0 hw).at rfl) ?_
    simp only [qz]
    refine rf_indexS (n := 0) (sz := 1) (j := off + 0 * 1) rfl rfl rfl rfl Try.underlying65 Kx Ox Ox rfl ?_
    simp only [qz]
    refine rf_load rfl rfl rfl Try.underlying160 rfl (fun w hw => (by have := (Kn.cellB hw hlt (by simp) (off + 0)).trans (hcell 0 Ox); simpa using this)) ?_
    simp only [qz]
    refine rf_conv rfl rfl rfl Try.underlying160 Try.underlying3 (wrap_ok Ox Ox) ?_
    simp only [qz]
    refine rg_assign ?_
    simp only [qz]
    refine rg_nil (ek_next (wk_seq (wk_seq ?_)))
    refine wk_region [0, 0] rfl Kx ?_
    simp only [qy]
    refine rg_move ?_
    simp only [qz]
    refine rfb_gtr rfl rfl rfl rfl ?_
    intro x h4
    cases x
    · (try simp only [qd, ne_eq] at h4)
      simp only [qz]
      refine rg_nil (ek_next (wk_cond_f rfl (wk_skip (ek_next (wk_seq (wk_seq ?_))))))
      refine wk_region [0, 0] rfl Kx ?_
      simp only [qy]
      refine rf_field (n := 0) (j := 0) rfl rfl rfl Try.underlying67 rfl Kx rfl ?_
      simp only [qz]
      refine rf_load rfl rfl rfl Try.underlying4 rfl (fun w hw => (Kn.hd0 hw).at rfl) ?_
      simp only [qz]
      refine rg_nil (ek_next ?_)
      refine wk_cond (t := _) rfl (fun h5 => ?_) (fun h5 => ?_)
      · (try simp only [qd] at h5)
        refine wk_region [0, 0, 0] rfl Kx ?_
        simp only [qy]
        refine rg_move ?_
        simp only [qz]
        refine rf_neg rfl rfl rfl (wrap_ok Ox Ox) ?_
        simp only [qz]
        refine rg_assign ?_
        simp only [qz]
        refine rg_nil (ek_next (wk_seq ?_))
        refine wk_region [0, 0, 0] rfl Kx ?_
        simp only [qy]
        refine rg_move ?_
        simp only [qz]
        refine rg_assign ?_
        simp only [qz]
        refine rg_assign ?_
        simp only [qz]
        refine rg_nil (ek_next (wk_ret ?_))
        refine ek_ret (fun w hw => ⟨rfl, _, res_tt _ _ rfl, ?_⟩)
        (try simp only [qz])
        refine ⟨?_, hw.below⟩
        have e1 : -dig (digs n.natAbs) 0 = n := by (first | omega | (have := hlz.1 Ox; omega))
        rw [e1, smB_yes (n := n) Ox Ox]
        rfl
      (try simp only [qd] at h5)
      refine wk_skip (ek_next (wk_seq ?_))
      refine wk_region [0, 0, 0] rfl Kx ?_
      simp only [qy]
      refine rg_move ?_
      simp only [qz]
      refine rg_assign ?_
      simp only [qz]
      refine rg_assign ?_
      simp only [qz]
      refine rg_nil (ek_next (wk_ret ?_))
      refine ek_ret (fun w hw => ⟨rfl, _, res_tt _ _ rfl, ?_⟩)
      (try simp only [qz])
      refine ⟨?_, hw.below⟩
      have e1 : dig (digs n.natAbs) 0 = n := by (first | omega | (have := hlz.1 Ox; omega))
      rw [e1, smB_yes (n := n) Ox Ox]
      rfl
    (try simp only [qd, ne_eq] at h4)
    simp only [qz]
    refine rg_nil (ek_next (wk_cond_t rfl (wk_seq ?_)))
    refine wk_region [0, 0] rfl Kx ?_
    simp only [qy]
    refine rg_assign ?_
    simp only [qz]
    refine rg_assign ?_
    simp only [qz]
    refine rg_nil (ek_next (wk_ret (ek_then_ret ?_)))
    refine ek_ret (fun w hw => ⟨rfl, _, res_tt _ _ rfl, ?_⟩)
    (try simp only [qz])
    refine ⟨?_, hw.below⟩
    rw [smB_no (n := n) Ox]
    rfl
  (try simp only [qd, ne_eq] at h1)
  simp only [qz]
  refine rg_nil (ek_next (wk_cond_t rfl (wk_seq ?_)))
  refine wk_region [0, 0] rfl Kx ?_
  simp only [qy]
  refine rg_assign ?_
  simp only [qz]
  refine rg_assign ?_
  simp only [qz]
  refine rg_nil (ek_next (wk_ret (ek_then_ret ?_)))
  refine ek_ret (fun w hw => ⟨rfl, _, res_tt _ _ rfl, ?_⟩)
  (try simp only [qz])
  refine ⟨?_, hw.below⟩
  have hb := hbig Ox
  rw [smB_no (n := n) Ox]
  rfl

end Go.Proofs.Ytccbinnlnkpplaa
namespace Go.Proofs.Ytccbinnlnkpplaa
set_option linter.all false
open Go.RowKit

theorem Dg_zero (n : Nat) : Dg (List.replicate n 0) := fun x hx => by rw [List.mem_replicate] at hx; omega
theorem half_step {xs zs : List Int} {i : Nat} {v : Int} (h : 2 * dval (zs.take i) + dig xs 0 % 2 = dval (xs.take i) + 4294967296 ^ i * (dig xs i % 2)) (hi : i < zs.length)
    (hv : 2 * v = dig xs i - dig xs i % 2 + 4294967296 * (dig xs (i + 1) % 2)) : 2 * dval ((zs.set i v).take (i + 1)) + dig xs 0 % 2 = dval (xs.take (i + 1)) + 4294967296 ^ (i + 1) * (dig xs (i + 1) % 2) := by
  rw [dval_take', dval_take', dig_set _ _ hi, if_pos rfl, pw_succ]
  have e : (zs.set i v).take i = zs.take i := by rw [List.take_set_of_le (Nat.le_refl _)]
  rw [e]
  have e2 : (4294967296 : Int) ^ i * (2 * v) = 4294967296 ^ i * dig xs i - 4294967296 ^ i * (dig xs i % 2) + 4294967296 ^ i * (4294967296 * (dig xs (i + 1) % 2)) := by rw [hv]; grind
  grind
set_option maxRecDepth 100000 in
set_option maxHeartbeats 1000000 in
theorem bhalf_any (n : Int) (s : Value) (hl : (digs n.natAbs).length ≤ 1000) (he : n % 2 = 0) (w : World) (hs : SA w s n.natAbs) : Calls Try.prog 101 #[bgV n s] w fun e w' => RetB w (n / 2) e w' := by
  obtain ⟨a, c, rfl, hA⟩ := hs
  go_enter Try.func101, Try.ntmps101
  refine wk_start ?_
  refine wk_seq ?_
  refine wk_region [1, 1] rfl Kx ?_
  simp only [qy]
  refine Rgn fun g1 => ?_
  simp only [qz]
  refine Rgn fun g2 => ?_
  simp only [qz]
  refine rg_nil (ek_next (wk_seq ?_))
  refine wk_region [0, 0, 0, 1, 0] rfl Kx ?_
  simp only [qy]
  refine rf_field (n := 0) (j := 1) rfl rfl rfl Try.underlying67 rfl Kx rfl ?_
  simp only [qz]
  refine rf_load rfl rfl rfl Try.underlying65 rfl (fun w hw => (Kn.hd0 (Kn.tl hw)).at rfl) ?_
  simp only [qz]
  refine rf_len rfl rfl rfl Try.underlying65 ?_
  simp only [qz]
  refine rg_makeU (n := (digs n.natAbs).length) Rx rfl rfl Ox Ox Nz (fun g3 => ?_)
  simp only [qz]
  refine rg_assign ?_
  simp only [qz]
  refine rg_nil (ek_next (wk_seq (wk_seq ?_)))
  refine wk_region [0] rfl Kx ?_
  simp only [qy]
  refine rg_assign ?_
  simp only [qz]
  refine rg_nil (ek_next (wk_block ?_))
  refine wk_loopF [4, 9, 10, 11, 12, 13, 14, 15, 16, 17, 18, 19, 20, 21, 22, 23, 24, 25, 26, 27, 28, 29, 30, 31, 32, 33, 34, 35, 36, 37, 38, 39, 40, 41, 42, 43, 44, 45] (fun mz f s => ∃ (i : Nat) (zs : List Int), f 3 = .slice (some ⟨g3, 0, none⟩) (digs n.natAbs).length (digs n.natAbs).length ∧ f 4 = .int .i64 i ∧ s = ((g3, .cells (us zs).toArray 160) :: ((g2, .cells #[.bool false, .slice none 0 0] 67) :: ((g1, .cells #[.bool (decide (n < 0)), .slice a (digs n.natAbs).length c] 67) :: []))) ∧ mz = (digs n.natAbs).length - i ∧ zs.length ≤ (digs n.natAbs).length ∧ (digs n.natAbs).length ≤ zs.length ∧ Dg zs ∧ 2 * dval (zs.take i) + dig (digs n.natAbs) 0 % 2 = dval ((digs n.natAbs).take i) + 4294967296 ^ i * (dig (digs n.natAbs) i % 2) ∧ i ≤ (digs n.natAbs).length) ((fun (i : Nat) (zs : List Int) => (digs n.natAbs).length - i) (0) ((List.replicate (digs n.natAbs).length 0))) ?_ Kx ?_
  · exact ⟨0, (List.replicate (digs n.natAbs).length 0), rfl, rfl, rfl, rfl, by simp, by simp, Dg_zero _, by simp [dval], by omega⟩
  rintro mz f1 s ⟨i, zs, hs1_3, hs1_4, rfl, hn, hc1, hc2, hc3, hc4, hc5⟩
  simp only [Act.putF, List.foldl_cons, List.foldl_nil, hs1_3, hs1_4, Act.put, Act.eval, q1, q2, q3, q4, q5, q6, q7, q8, q9, q10, q11, q12, q13, q14, q15, q16, q17, q18, Nat.reduceAdd, Bool.not_true, Bool.not_false]
  clear hs1_3 hs1_4
  have heq := Lib.hid hc4
  clear hc4
  refine wk_seq (wk_seq ?_)
  refine wk_region [0, 0, 0, 0, 0] rfl Kx ?_
  simp only [qy]
  refine rg_move ?_
  simp only [qz]
  refine rf_field (n := 0) (j := 1) rfl rfl rfl Try.underlying67 rfl Kx rfl ?_
  simp only [qz]
  refine rf_load rfl rfl rfl Try.underlying65 rfl (fun w hw => (Kn.hd0 (Kn.tl (Kn.tl hw))).at rfl) ?_
  simp only [qz]
  refine rf_len rfl rfl rfl Try.underlying65 ?_
  simp only [qz]
  refine rfb_lss rfl rfl rfl rfl ?_
  intro x h1
  cases x
  · (try simp only [qd, ne_eq] at h1)
    simp only [qz]
    refine rg_nil (ek_next (wk_cond_f rfl (wk_exit (ek_then_exit (ek_then_exit (ek_block_exit (ek_next (wk_seq ?_))))))))
    refine wk_draws_m (hz1 := (sc _ (sk _ (sc _ sn)))) [(0, 0), (1, 0), (2, 0), (3, 1), (4, 0), (5, 2)] 5 Kx Kx (fun c d v a w h => by cases d <;> exact h) ?_
    simp only [List.map_cons, List.map_nil, List.getD_cons_zero, List.getD_cons_succ]
    refine rf_field (n := 0) (j := 0) rfl rfl rfl Try.underlying67 rfl Kx rfl ?_
    simp only [qz]
    refine rf_load rfl rfl rfl Try.underlying4 rfl (fun w hw => (Kn.hd0 (Kn.tl (Kn.tl hw))).at rfl) ?_
    simp only [qz]
    refine rg_move ?_
    simp only [qz]
    have hO := OwnG.wholeU (g := g3) (zs := zs) Ox
    have hzl : zs.length = (digs n.natAbs).length := by omega
    rw [hzl] at hO
    apply (rg_or (X := fun v => ∃ m, m ≤ zs.length ∧ v = .slice (some ⟨g3, 0, none⟩) m (digs n.natAbs).length ∧ (∀ j, m ≤ j → dig zs j = 0) ∧ (m = 0 ∨ dig zs (m - 1) ≠ 0))) Rx Kx
    case hargs => exact Ax
    case h => exact fun w hw => by have := trimmed_any zs (some ⟨g3, 0, none⟩) (digs n.natAbs).length hc3 Ox Ox w (hO.as' (Kn.sub (s' := [(g3, .cells (us zs).toArray 160)] ++ []) hw (sc _ (sk _ (sk _ sn))))); rw [hzl] at this; exact this.mono fun e w' ⟨m, h1, h2, h3, h4, h5⟩ => ⟨_, h2, ⟨m, hzl ▸ h1, rfl, h3, h4⟩, h5⟩
    case hz => exact (fun _ h => by cases h; exact (sc _ (sc _ (sc _ sn))))
    rintro v ⟨m, hm1, rfl, hm2, hm3⟩
    simp only [qz]
    refine rf_build (cs := fun a => #[a.eval (.tmp 47), a.eval (.tmp 49)]) rfl rfl Kx ?_
    simp only [qz]
    refine rf_storeRM (n := 2) rfl rfl Kx rfl rfl (UpdR.there _ (UpdR.here _ _ _ Nl)) (sc _ (sk _ (sc _ sn))) ?_
    simp only [qz, Nat.reduceAdd]
    refine rg_nil (ek_next (wk_ret ?_))
    refine ek_ret (fun w hw => ⟨rfl, _, run_results1 rfl rfl (Kn.hd0 (Kn.tl hw)) Try.underlying67 rfl Kx, ?_⟩)
    (try simp only [qz])
    have e1 : dval zs = (n / 2).natAbs := by
      have h1 := heq.out
      rw [List.take_of_length_le Ox, List.take_of_length_le Ox, dval_digs, dig_out (k := i) Ox, digs_even] at h1
      have h3 := (dval_range hc3).1
      omega
    have e2 : (dval zs).toNat = (n / 2).natAbs := by omega
    have hS := SU.own hO m hm1 ((trim_eq hc3 hm1 hm2 hm3).trans (by rw [e2])) (a := some ⟨g3, 0, none⟩) (c := (digs n.natAbs).length) (by rw [hzl])
    refine ⟨_, _, rfl, ⟨.slice (some ⟨g3, 0, none⟩) m (digs n.natAbs).length, ?_, hS⟩, hw.made (sc _ (sk _ (sk _ sn)))⟩
    unfold bgV
    rw [show decide (n / 2 < 0) = decide (n < 0) from decide_eq_decide.2 Ox]
  (try simp only [qd, ne_eq] at h1)
  simp only [qz]
  have hpos : 0 < (digs n.natAbs).length := by omega
  obtain ⟨b, off, rfl, hlt, hcell⟩ := AS.openU hA hpos
  have hdi := (digs_dg n.natAbs).at i
  have hdi1 := (digs_dg n.natAbs).at (i + 1)
  refine rg_nil (ek_next (wk_cond_t rfl (wk_skip (ek_next (wk_seq (wk_block (wk_seq ?_)))))))
  refine wk_region [0, 0, 0, 0, 0, 0, 0, 0, 0, 1] rfl Kx ?_
  simp only [qy]
  refine rg_move ?_
  simp only [qz]
  refine rg_move ?_
  simp only [qz]
  refine rf_field (n := 0) (j := 1) rfl rfl rfl Try.underlying67 rfl Kx rfl ?_
  simp only [qz]
  refine rf_load rfl rfl rfl Try.underlying65 rfl (fun w hw => (Kn.hd0 (Kn.tl (Kn.tl hw))).at rfl) ?_
  simp only [qz]
  refine rg_move ?_
  simp only [qz]
  refine rf_indexS (n := i) (sz := 1) (j := off + i * 1) rfl rfl rfl rfl Try.underlying65 Kx Ox Ox rfl ?_
  simp only [qz]
  refine rf_load rfl rfl rfl Try.underlying160 rfl (fun w hw => (by have := (Kn.cellB hw hlt (by simp) (off + i)).trans (hcell i Ox); simpa using this)) ?_
  simp only [qz]
  refine rf_shr (c := 1) (q := 2) rfl rfl rfl rfl rfl (by decide) ?_
  simp only [qz]
  refine rf_indexS (n := i) (sz := 1) (j := i) rfl rfl rfl rfl Try.underlying65 Kx Ox Ox Ox ?_
  simp only [qz]
  refine rf_storeU (i := i) (z := dig (digs n.natAbs) i / 2) rfl rfl (by (try simp only [List.length_set]); omega) (Rep.here _) Nz ?_
  simp only [qz]
  refine rg_nil (ek_next (wk_seq ?_))
  refine wk_region [0, 0, 0, 0, 0, 0] rfl Kx ?_
  simp only [qy]
  refine rg_move ?_
  simp only [qz]
  refine rf_add rfl rfl rfl rfl (wrap_ok Ox Ox) ?_
  simp only [qz]
  refine rf_field (n := 0) (j := 1) rfl rfl rfl Try.underlying67 rfl Kx rfl ?_
  simp only [qz]
  refine rf_load rfl rfl rfl Try.underlying65 rfl (fun w hw => (Kn.hd0 (Kn.tl (Kn.tl hw))).at rfl) ?_
  simp only [qz]
  refine rf_len rfl rfl rfl Try.underlying65 ?_
  simp only [qz]
  refine rfb_lss rfl rfl rfl rfl ?_
  intro x h2
  cases x
  · (try simp only [qd, ne_eq] at h2)
    simp only [qz]
    refine rg_nil (ek_next (wk_cond_f rfl (wk_skip (ek_block (ek_next ?_)))))
    refine wk_region [0, 0, 0] rfl Kx ?_
    simp only [qy]
    refine rg_move ?_
    simp only [qz]
    refine rf_add rfl rfl rfl rfl (wrap_ok Ox Ox) ?_
    simp only [qz]
    refine rg_assign ?_
    simp only [qz]
    refine rg_nil ?_
    have hx1 := dig_out (xs := (digs n.natAbs)) (k := i + 1) Ox
    have hst := half_step (xs := (digs n.natAbs)) (zs := zs) (i := i) (v := dig (digs n.natAbs) i / 2) heq.out Ox Ox
    refine ek_roundF ((digs n.natAbs).length - (i + 1)) Ox Kx ?_
    exact ⟨i + 1, zs.set i (dig (digs n.natAbs) i / 2), rfl, rfl, Rx, by rfl, (by rw [List.length_set]; exact hc1), (by rw [List.length_set]; exact hc2), Dg.set hc3 i Ox Ox, hst, Ox⟩
  (try simp only [qd, ne_eq] at h2)
  simp only [qz]
  have hset : dig (zs.set i (dig (digs n.natAbs) i / 2)) i = dig (digs n.natAbs) i / 2 := by rw [dig_set _ _ Ox, if_pos rfl]
  have hor := or_u32 (x := dig (digs n.natAbs) i / 2) (y := dig (digs n.natAbs) (i + 1) * 2147483648 % 4294967296) Ox Ox Ox
  refine rg_nil (ek_next (wk_cond_t rfl ?_))
  refine wk_draws_m (hz1 := (sk _ (sc _ (sc _ sn)))) [(0, 0), (1, 0), (2, 0), (3, 0), (4, 0), (5, 0), (6, 0), (7, 0), (8, 0), (9, 0), (10, 0), (11, 0), (12, 0), (13, 0), (14, 0), (15, 2)] 15 Kx Kx (fun c d v a w h => by cases d <;> exact h) ?_
  simp only [List.map_cons, List.map_nil, List.getD_cons_zero, List.getD_cons_succ]
  refine rg_move ?_
  simp only [qz]
  refine rg_move ?_
  simp only [qz]
  refine rg_move ?_
  simp only [qz]
  refine rg_move ?_
  simp only [qz]
  refine rf_indexS (n := i) (sz := 1) (j := i) rfl rfl rfl rfl Try.underlying65 Kx Ox Ox Ox ?_
  simp only [qz]
  refine rf_load rfl rfl rfl Try.underlying160 rfl (fun w hw => (Kn.hd0 hw).at (us_getA _ _ (by (try simp only [List.length_set]); omega))) ?_
  simp only [qz]
  refine rf_field (n := 0) (j := 1) rfl rfl rfl Try.underlying67 rfl Kx rfl ?_
  simp only [qz]
  refine rf_load rfl rfl rfl Try.underlying65 rfl (fun w hw => (Kn.hd0 (Kn.tl (Kn.tl hw))).at rfl) ?_
  simp only [qz]
  refine rg_move ?_
  simp only [qz]
  refine rf_add rfl rfl rfl rfl (wrap_ok Ox Ox) ?_
  simp only [qz]
  refine rf_indexS (n := i + 1) (sz := 1) (j := off + (i + 1) * 1) rfl rfl rfl rfl Try.underlying65 Kx Ox Ox rfl ?_
  simp only [qz]
  refine rf_load rfl rfl rfl Try.underlying160 rfl (fun w hw => (by have := (Kn.cellB hw hlt (by simp) (off + (i + 1))).trans (hcell (i + 1) Ox); simpa using this)) ?_
  simp only [qz]
  refine rf_shl (c := 31) (q := 2147483648) rfl rfl rfl rfl rfl (by decide) (IntKind.wrap_u32 _) ?_
  simp only [qz]
  apply rg_soft
  case hy => (intro w hw; go_simp; (try go_bits); exact Yld.mk _ _)
  simp only [qz]
  refine rf_indexS (n := i) (sz := 1) (j := i) rfl rfl rfl rfl Try.underlying65 Kx Ox Ox Ox ?_
  simp only [qz]
  refine rf_storeUM (i := i) (z := dig (digs n.natAbs) i / 2 + dig (digs n.natAbs) (i + 1) * 2147483648 % 4294967296) rfl rfl (by (try simp only [List.length_set]); omega) (Rep.here _) (sk _ (sc _ (sc _ sn))) ?_
  simp only [qz]
  refine rg_nil (ek_block (ek_next ?_))
  refine wk_region [0, 0, 0] rfl Kx ?_
  simp only [qy]
  refine rg_move ?_
  simp only [qz]
  refine rf_add rfl rfl rfl rfl (wrap_ok Ox Ox) ?_
  simp only [qz]
  refine rg_assign ?_
  simp only [qz]
  refine rg_nil ?_
  have hst := half_step (xs := (digs n.natAbs)) (zs := zs) (i := i) (v := dig (digs n.natAbs) i / 2 + dig (digs n.natAbs) (i + 1) * 2147483648 % 4294967296) heq.out Ox Ox
  refine ek_roundF ((digs n.natAbs).length - (i + 1)) Ox Kx ?_
  exact ⟨i + 1, zs.set i (dig (digs n.natAbs) i / 2 + dig (digs n.natAbs) (i + 1) * 2147483648 % 4294967296), rfl, rfl, (by rw [List.set_set]), by rfl, (by rw [List.length_set]; exact hc1), (by rw [List.length_set]; exact hc2), Dg.set hc3 i Ox Ox, hst, Ox⟩

end Go.Proofs.Ytccbinnlnkpplaa
namespace Go.Proofs.Ytccbinnlnkpplaa
set_option linter.all false
open Go.RowKit

theorem dig_rep (n j : Nat) : dig (List.replicate n 0) j = 0 := by
  unfold dig; rw [List.getD_eq_getElem?_getD, List.getElem?_replicate]; split <;> rfl
theorem dig_mul {x y : Int} (h0 : 0 ≤ x) (h1 : x < 4294967296) (h2 : 0 ≤ y) (h3 : y < 4294967296) : 0 ≤ x * y ∧ x * y ≤ 18446744065119617025 :=
  ⟨Int.mul_nonneg h0 h2, Int.mul_le_mul (show x ≤ 4294967295 by omega) (show y ≤ 4294967295 by omega) h2 Ox⟩
theorem mul_step {xs vs zs : List Int} {i k : Nat} {cy t : Int} (hi : i + k < zs.length) (h : dval zs + 4294967296 ^ (i + k) * cy = dval (xs.take i) * dval vs + 4294967296 ^ i * (dig xs i * dval (vs.take k)))
    (ht : t = dig xs i * dig vs k + dig zs (i + k) + cy) : dval (zs.set (i + k) (t % 4294967296)) + 4294967296 ^ (i + (k + 1)) * (t / 4294967296) = dval (xs.take i) * dval vs + 4294967296 ^ i * (dig xs i * dval (vs.take (k + 1))) := by
  rw [dval_set _ hi, dval_take', ← Nat.add_assoc, pw_succ]
  have e : (4294967296 : Int) ^ (i + k) * (t % 4294967296) + 4294967296 * 4294967296 ^ (i + k) * (t / 4294967296) = 4294967296 ^ (i + k) * t := by
    have := Int.mul_ediv_add_emod t 4294967296
    grind
  have e2 : (4294967296 : Int) ^ (i + k) * t = 4294967296 ^ (i + k) * (dig xs i * dig vs k) + 4294967296 ^ (i + k) * dig zs (i + k) + 4294967296 ^ (i + k) * cy := by rw [ht]; grind
  have e3 : (4294967296 : Int) ^ (i + k) = 4294967296 ^ i * 4294967296 ^ k := Int.pow_add ..
  rw [e3] at *
  grind
theorem mul_row {xs vs zs : List Int} {i : Nat} {cy : Int} (hi : i < xs.length) (hl : i + vs.length < zs.length) (hz : ∀ j, i + vs.length ≤ j → dig zs j = 0)
    (h : dval zs + 4294967296 ^ (i + vs.length) * cy = dval (xs.take i) * dval vs + 4294967296 ^ i * (dig xs i * dval (vs.take vs.length))) : dval (zs.set (i + vs.length) cy) = dval (xs.take (i + 1)) * dval vs := by
  rw [dval_set _ hl, hz _ (Nat.le_refl _), dval_take']
  rw [List.take_of_length_le (Nat.le_refl _)] at h
  grind
theorem sgn_mul {m n : Int} (hm : m ≠ 0) (hn : n ≠ 0) : decide (m * n < 0) = (decide (m < 0) != decide (n < 0)) := by
  rcases Int.lt_or_gt_of_ne hm with h1 | h1 <;> rcases Int.lt_or_gt_of_ne hn with h2 | h2
  · have := Int.mul_pos_of_neg_of_neg h1 h2
    rw [decide_eq_true h1, decide_eq_true h2, decide_eq_false Ox]; rfl
  · have := Int.mul_neg_of_neg_of_pos h1 h2
    rw [decide_eq_true h1, decide_eq_false (show ¬ n < 0 by omega), decide_eq_true Ox]; rfl
  · have := Int.mul_neg_of_pos_of_neg h1 h2
    rw [decide_eq_false (show ¬ m < 0 by omega), decide_eq_true h2, decide_eq_true Ox]; rfl
  have := Int.mul_pos h1 h2
  rw [decide_eq_false (show ¬ m < 0 by omega), decide_eq_false (show ¬ n < 0 by omega), decide_eq_false Ox]; rfl
set_option maxRecDepth 100000 in
set_option maxHeartbeats 1000000 in
theorem bmul_any (m n : Int) (s s2 : Value) (hl : (digs m.natAbs).length ≤ 1000) (hl2 : (digs n.natAbs).length ≤ 1000) (w : World) (hs : SA w s m.natAbs) (hs2 : SA w s2 n.natAbs) : Calls Try.prog 144 #[bgV m s, bgV n s2] w fun e w' => RetB w (m * n) e w' := by
  obtain ⟨a, c, rfl, hA⟩ := hs
  obtain ⟨a2, c2, rfl, hA2⟩ := hs2
  have hlm : (digs m.natAbs).length = 0 ↔ m = 0 := by rw [List.length_eq_zero_iff, digs_nil_iff]; omega
  have hln : (digs n.natAbs).length = 0 ↔ n = 0 := by rw [List.length_eq_zero_iff, digs_nil_iff]; omega
  go_enter Try.func144, Try.ntmps144
  refine wk_start ?_
  refine wk_seq ?_
  refine wk_region [1, 1, 1] rfl Kx ?_
  simp only [qy]
  refine Rgn fun g1 => ?_
  simp only [qz]
  refine Rgn fun g2 => ?_
  simp only [qz]
  refine Rgn fun g3 => ?_
  simp only [qz]
  refine rg_nil (ek_next (wk_seq (wk_seq ?_)))
  refine wk_region [0, 0, 0, 0, 0, 0, 0, 0, 0, 0] rfl Kx ?_
  simp only [qy]
  refine rf_field (n := 0) (j := 1) rfl rfl rfl Try.underlying67 rfl Kx rfl ?_
  simp only [qz]
  refine rf_load rfl rfl rfl Try.underlying65 rfl (fun w hw => (Kn.hd0 (Kn.tl (Kn.tl hw))).at rfl) ?_
  simp only [qz]
  refine rf_len rfl rfl rfl Try.underlying65 ?_
  simp only [qz]
  refine rfb_eql rfl rfl rfl rfl ?_
  intro x h1
  cases x
  · (try simp only [qd, ne_eq] at h1)
    simp only [qz]
    refine rg_move ?_
    simp only [qz]
    refine rf_field (n := 0) (j := 1) rfl rfl rfl Try.underlying67 rfl Kx rfl ?_
    simp only [qz]
    refine rf_load rfl rfl rfl Try.underlying65 rfl (fun w hw => (Kn.hd0 (Kn.tl hw)).at rfl) ?_
    simp only [qz]
    refine rf_len rfl rfl rfl Try.underlying65 ?_
    simp only [qz]
    refine rfb_eql rfl rfl rfl rfl ?_
    intro x h2
    cases x
    · (try simp only [qd, ne_eq] at h2)
      simp only [qz]
      obtain ⟨b, off, rfl, hlt, hcell⟩ := AS.openU hA Ox
      obtain ⟨b2, off2, rfl, hlt2, hcell2⟩ := AS.openU hA2 Ox
      have hdx := digs_dg m.natAbs
      have hdy := digs_dg n.natAbs
      refine rf_pick rfl rfl rfl ?_
      simp only [qz]
      refine rg_nil (ek_next (wk_cond_f rfl (wk_skip (ek_next (wk_seq ?_)))))
      refine wk_region [0, 0, 0, 0, 0, 0, 0, 1, 0] rfl Kx ?_
      simp only [qy]
      refine rf_field (n := 0) (j := 1) rfl rfl rfl Try.underlying67 rfl Kx rfl ?_
      simp only [qz]
      refine rf_load rfl rfl rfl Try.underlying65 rfl (fun w hw => (Kn.hd0 (Kn.tl (Kn.tl hw))).at rfl) ?_
      simp only [qz]
      refine rf_len rfl rfl rfl Try.underlying65 ?_
      simp only [qz]
      refine rf_field (n := 0) (j := 1) rfl rfl rfl Try.underlying67 rfl Kx rfl ?_
      simp only [qz]
      refine rf_load rfl rfl rfl Try.underlying65 rfl (fun w hw => (Kn.hd0 (Kn.tl hw)).at rfl) ?_
      simp only [qz]
      refine rf_len rfl rfl rfl Try.underlying65 ?_
      simp only [qz]
      refine rf_add rfl rfl rfl rfl (wrap_ok Ox Ox) ?_
      simp only [qz]
      refine rg_makeU (n := (digs m.natAbs).length + (digs n.natAbs).length) Rx rfl rfl Ox Ox Nz (fun g4 => ?_)
      simp only [qz]
      refine rg_assign ?_
      simp only [qz]
      refine rg_nil (ek_next (wk_seq (wk_seq ?_)))
      refine wk_region [0] rfl Kx ?_
      simp only [qy]
      refine rg_assign ?_
      simp only [qz]
      refine rg_nil (ek_next (wk_block ?_))
      refine wk_loopF [6, 7, 8, 9, 29, 30, 31, 32, 33, 34, 35, 36, 37, 38, 39, 40, 41, 42, 43, 44, 45, 46, 47, 48, 49, 50, 51, 52, 53, 54, 55, 56, 57, 58, 59, 60, 61, 62, 63, 64, 65, 66, 67, 68, 69, 70, 71, 72, 73, 74, 75, 76, 77, 78, 79, 80, 81, 82, 83] (fun mz f s => ∃ (i : Nat) (zs : List Int), f 5 = .slice (some ⟨g4, 0, none⟩) ((digs m.natAbs).length + (digs n.natAbs).length) ((digs m.natAbs).length + (digs n.natAbs).length) ∧ f 6 = .int .i64 i ∧ s = ((g4, .cells (us zs).toArray 160) :: ((g3, .cells #[.bool false, .slice none 0 0] 67) :: ((g2, .cells #[.bool (decide (n < 0)), .slice (some ⟨b2, off2, none⟩) (digs n.natAbs).length c2] 67) :: ((g1, .cells #[.bool (decide (m < 0)), .slice (some ⟨b, off, none⟩) (digs m.natAbs).length c] 67) :: [])))) ∧ mz = (digs m.natAbs).length - i ∧ i ≤ (digs m.natAbs).length ∧ zs.length ≤ (digs m.natAbs).length + (digs n.natAbs).length ∧ (digs m.natAbs).length + (digs n.natAbs).length ≤ zs.length ∧ Dg zs ∧ dval zs = dval ((digs m.natAbs).take i) * dval (digs n.natAbs) ∧ (∀ j, i + (digs n.natAbs).length ≤ j → dig zs j = 0)) ((fun (i : Nat) (zs : List Int) => (digs m.natAbs).length - i) (0) ((List.replicate ((digs m.natAbs).length + (digs n.natAbs).length) 0))) ?_ Kx ?_
      · exact ⟨0, (List.replicate ((digs m.natAbs).length + (digs n.natAbs).length) 0), rfl, rfl, rfl, rfl, by omega, by simp, by simp, Dg_zero _, (by simp [dval, dval_zero (dig_rep _)]), fun j hj => dig_rep _ j⟩
      rintro mz f1 s ⟨i, zs, hs1_5, hs1_6, rfl, hn, hc1, hc2, hc3, hc4, hc5, hc6⟩
      simp only [Act.putF, List.foldl_cons, List.foldl_nil, hs1_5, hs1_6, Act.put, Act.eval, q1, q2, q3, q4, q5, q6, q7, q8, q9, q10, q11, q12, q13, q14, q15, q16, q17, q18, Nat.reduceAdd, Bool.not_true, Bool.not_false]
      clear hs1_5 hs1_6
      have heq := Lib.hid hc5
      clear hc5
      refine wk_seq (wk_seq ?_)
      refine wk_region [0, 0, 0, 0, 0] rfl Kx ?_
      simp only [qy]
      refine rg_move ?_
      simp only [qz]
      refine rf_field (n := 0) (j := 1) rfl rfl rfl Try.underlying67 rfl Kx rfl ?_
      simp only [qz]
      refine rf_load rfl rfl rfl Try.underlying65 rfl (fun w hw => (Kn.hd0 (Kn.tl (Kn.tl (Kn.tl hw)))).at rfl) ?_
      simp only [qz]
      refine rf_len rfl rfl rfl Try.underlying65 ?_
      simp only [qz]
      refine rfb_lss rfl rfl rfl rfl ?_
      intro x h3
      cases x
      · (try simp only [qd, ne_eq] at h3)
        simp only [qz]
        refine rg_nil (ek_next (wk_cond_f rfl (wk_exit (ek_then_exit (ek_then_exit (ek_block_exit (ek_next (wk_seq ?_))))))))
        refine wk_draws_m (hz1 := (sc _ (sk _ (sc _ (sc _ sn))))) [(0, 0), (1, 0), (2, 0), (3, 0), (4, 0), (5, 0), (6, 1), (7, 0), (8, 2)] 8 Kx Kx (fun c d v a w h => by cases d <;> exact h) ?_
        simp only [List.map_cons, List.map_nil, List.getD_cons_zero, List.getD_cons_succ]
        refine rf_field (n := 0) (j := 0) rfl rfl rfl Try.underlying67 rfl Kx rfl ?_
        simp only [qz]
        refine rf_load rfl rfl rfl Try.underlying4 rfl (fun w hw => (Kn.hd0 (Kn.tl (Kn.tl (Kn.tl hw)))).at rfl) ?_
        simp only [qz]
        refine rf_field (n := 0) (j := 0) rfl rfl rfl Try.underlying67 rfl Kx rfl ?_
        simp only [qz]
        refine rf_load rfl rfl rfl Try.underlying4 rfl (fun w hw => (Kn.hd0 (Kn.tl (Kn.tl hw))).at rfl) ?_
        simp only [qz]
        apply rg_soft
        case hy => (intro w hw; go_simp; (try go_bits); exact Yld.mk _ _)
        simp only [qz]
        refine rg_move ?_
        simp only [qz]
        have hO := OwnG.wholeU (g := g4) (zs := zs) Ox
        have hzl : zs.length = (digs m.natAbs).length + (digs n.natAbs).length := by omega
        rw [hzl] at hO
        apply (rg_or (X := fun v => ∃ k, k ≤ zs.length ∧ v = .slice (some ⟨g4, 0, none⟩) k ((digs m.natAbs).length + (digs n.natAbs).length) ∧ (∀ j, k ≤ j → dig zs j = 0) ∧ (k = 0 ∨ dig zs (k - 1) ≠ 0))) Rx Kx
        case hargs => exact Ax
        case h => exact fun w hw => by have := trimmed_any zs (some ⟨g4, 0, none⟩) ((digs m.natAbs).length + (digs n.natAbs).length) hc4 Ox Ox w (hO.as' (Kn.sub (s' := [(g4, .cells (us zs).toArray 160)] ++ []) hw (sc _ (sk _ (sk _ (sk _ sn)))))); rw [hzl] at this; exact this.mono fun e w' ⟨m, h1, h2, h3, h4, h5⟩ => ⟨_, h2, ⟨m, hzl ▸ h1, rfl, h3, h4⟩, h5⟩
        case hz => exact (fun _ h => by cases h; exact (sc _ (sc _ (sc _ (sc _ sn)))))
        rintro v ⟨k, hm1, rfl, hm2, hm3⟩
        simp only [qz]
        refine rf_build (cs := fun a => #[a.eval (.tmp 88), a.eval (.tmp 90)]) rfl rfl Kx ?_
        simp only [qz]
        refine rf_storeRM (n := 2) rfl rfl Kx rfl rfl (UpdR.there _ (UpdR.here _ _ _ Nl)) (sc _ (sk _ (sc _ (sc _ sn)))) ?_
        simp only [qz, Nat.reduceAdd]
        refine rg_nil (ek_next (wk_ret ?_))
        refine ek_ret (fun w hw => ⟨rfl, _, run_results1 rfl rfl (Kn.hd0 (Kn.tl hw)) Try.underlying67 rfl Kx, ?_⟩)
        (try simp only [qz])
        have hm0 : m ≠ 0 := fun e => by have := hlm.2 e; omega
        have hn0 : n ≠ 0 := fun e => by have := hln.2 e; omega
        have e1 : dval zs = m.natAbs * n.natAbs := by
          have h1 := heq.out
          rw [List.take_of_length_le Ox, dval_digs, dval_digs] at h1
          exact h1
        have e2 : (dval zs).toNat = (m * n).natAbs := by rw [e1, Int.natAbs_mul]; omega
        have hS := SU.own hO k hm1 ((trim_eq hc4 hm1 hm2 hm3).trans (by rw [e2])) (a := some ⟨g4, 0, none⟩) (c := (digs m.natAbs).length + (digs n.natAbs).length) (by rw [hzl])
        refine ⟨_, _, rfl, ⟨.slice (some ⟨g4, 0, none⟩) k ((digs m.natAbs).length + (digs n.natAbs).length), ?_, hS⟩, hw.made (sc _ (sk _ (sk _ (sk _ sn))))⟩
        unfold bgV
        rw [sgn_mul hm0 hn0]
        rfl
      (try simp only [qd, ne_eq] at h3)
      simp only [qz]
      have hxi := hdx.at i
      refine rg_nil (ek_next (wk_cond_t rfl (wk_skip (ek_next (wk_seq (wk_block (wk_seq ?_)))))))
      refine wk_region [0] rfl Kx ?_
      simp only [qy]
      refine rg_assign ?_
      simp only [qz]
      refine rg_nil (ek_next (wk_seq (wk_seq ?_)))
      refine wk_region [0] rfl Kx ?_
      simp only [qy]
      refine rg_assign ?_
      simp only [qz]
      refine rg_nil (ek_next (wk_block ?_))
      have hi1 : i < (digs m.natAbs).length := by omega
      refine wk_loopF [7, 8, 9, 36, 37, 38, 39, 40, 41, 42, 43, 44, 45, 46, 47, 48, 49, 50, 51, 52, 53, 54, 55, 56, 57, 58, 59, 60, 61, 62, 63, 64, 65, 66, 67, 68, 69, 70, 71, 72, 73, 74] (fun mz f s => ∃ (k : Nat) (cy : Int) (ys : List Int), f 5 = .slice (some ⟨g4, 0, none⟩) ((digs m.natAbs).length + (digs n.natAbs).length) ((digs m.natAbs).length + (digs n.natAbs).length) ∧ f 6 = .int .i64 i ∧ f 7 = .int .u64 cy ∧ f 8 = .int .i64 k ∧ s = ((g4, .cells (us ys).toArray 160) :: ((g3, .cells #[.bool false, .slice none 0 0] 67) :: ((g2, .cells #[.bool (decide (n < 0)), .slice (some ⟨b2, off2, none⟩) (digs n.natAbs).length c2] 67) :: ((g1, .cells #[.bool (decide (m < 0)), .slice (some ⟨b, off, none⟩) (digs m.natAbs).length c] 67) :: [])))) ∧ mz = (digs n.natAbs).length - k ∧ k ≤ (digs n.natAbs).length ∧ ys.length ≤ (digs m.natAbs).length + (digs n.natAbs).length ∧ (digs m.natAbs).length + (digs n.natAbs).length ≤ ys.length ∧ Dg ys ∧ 0 ≤ cy ∧ cy < 4294967296 ∧ dval ys + 4294967296 ^ (i + k) * cy = dval ((digs m.natAbs).take i) * dval (digs n.natAbs) + 4294967296 ^ i * (dig (digs m.natAbs) i * dval ((digs n.natAbs).take k)) ∧ (∀ j, i + (digs n.natAbs).length ≤ j → dig ys j = 0)) ((fun (k : Nat) (cy : Int) (ys : List Int) => (digs n.natAbs).length - k) (0) (0) (zs)) ?_ Kx ?_
      · exact ⟨0, 0, zs, rfl, rfl, rfl, rfl, rfl, rfl, by omega, hc2, hc3, hc4, by omega, by omega, (by have := heq.out; simp [dval]; exact this), hc6⟩
      rintro mz f2 s ⟨k, cy, ys, hs2_5, hs2_6, hs2_7, hs2_8, rfl, hn, he1, he2, he3, he4, he5, he6, he7, he8⟩
      simp only [Act.putF, List.foldl_cons, List.foldl_nil, hs2_5, hs2_6, hs2_7, hs2_8, Act.put, Act.eval, q1, q2, q3, q4, q5, q6, q7, q8, q9, q10, q11, q12, q13, q14, q15, q16, q17, q18, Nat.reduceAdd, Bool.not_true, Bool.not_false]
      clear hs2_5 hs2_6 hs2_7 hs2_8
      have hd3 := he4
      have hd8 := he8
      have heq2 := Lib.hid he7
      clear he7 he4 he8
      refine wk_seq (wk_seq ?_)
      refine wk_region [0, 0, 0, 0, 0] rfl Kx ?_
      simp only [qy]
      refine rg_move ?_
      simp only [qz]
      refine rf_field (n := 0) (j := 1) rfl rfl rfl Try.underlying67 rfl Kx rfl ?_
      simp only [qz]
      refine rf_load rfl rfl rfl Try.underlying65 rfl (fun w hw => (Kn.hd0 (Kn.tl (Kn.tl hw))).at rfl) ?_
      simp only [qz]
      refine rf_len rfl rfl rfl Try.underlying65 ?_
      simp only [qz]
      refine rfb_lss rfl rfl rfl rfl ?_
      intro x h4
      cases x
      · (try simp only [qd, ne_eq] at h4)
        simp only [qz]
        refine rg_nil (ek_next (wk_cond_f rfl (wk_exit (ek_then_exit (ek_then_exit (ek_block_exit (ek_next ?_)))))))
        refine wk_region [0, 0, 0, 0, 0, 0, 0, 0, 0, 1] rfl Kx ?_
        simp only [qy]
        refine rg_move ?_
        simp only [qz]
        refine rg_move ?_
        simp only [qz]
        refine rf_field (n := 0) (j := 1) rfl rfl rfl Try.underlying67 rfl Kx rfl ?_
        simp only [qz]
        refine rf_load rfl rfl rfl Try.underlying65 rfl (fun w hw => (Kn.hd0 (Kn.tl (Kn.tl hw))).at rfl) ?_
        simp only [qz]
        refine rf_len rfl rfl rfl Try.underlying65 ?_
        simp only [qz]
        refine rf_add rfl rfl rfl rfl (wrap_ok Ox Ox) ?_
        simp only [qz]
        refine rg_move ?_
        simp only [qz]
        refine rf_conv rfl rfl rfl Try.underlying99 Try.underlying160 (wrap32_ok Ox Ox) ?_
        simp only [qz]
        refine rf_indexS (n := i + (digs n.natAbs).length) (sz := 1) (j := i + (digs n.natAbs).length) rfl rfl rfl rfl Try.underlying65 Kx Ox Ox Ox ?_
        simp only [qz]
        refine rf_storeU (i := i + (digs n.natAbs).length) (z := cy) rfl rfl (by (try simp only [List.length_set]); omega) (Rep.here _) Nz ?_
        simp only [qz]
        refine rg_nil (ek_block (ek_next ?_))
        refine wk_region [0, 0, 0] rfl Kx ?_
        simp only [qy]
        refine rg_move ?_
        simp only [qz]
        refine rf_add rfl rfl rfl rfl (wrap_ok Ox Ox) ?_
        simp only [qz]
        refine rg_assign ?_
        simp only [qz]
        refine rg_nil ?_
        have hkl : k = (digs n.natAbs).length := by omega
        subst hkl
        have hst := mul_row (zs := ys) hi1 Ox hd8 heq2.out
        refine ek_roundF ((digs m.natAbs).length - (i + 1)) Ox Kx ?_
        exact ⟨i + 1, ys.set (i + (digs n.natAbs).length) cy, rfl, rfl, by rfl, by rfl, Ox, (by rw [List.length_set]; omega), (by rw [List.length_set]; omega), Dg.set hd3 _ Ox Ox, hst, fun j hj => by rw [dig_set _ _ Ox, if_neg Ox]; exact hd8 j Ox⟩
      (try simp only [qd, ne_eq] at h4)
      simp only [qz]
      have hyk := hdy.at k
      have hzk := hd3.at (i + k)
      obtain ⟨hp0, hp1⟩ := dig_mul hxi.1 hxi.2 hyk.1 hyk.2
      refine rg_nil (ek_next (wk_cond_t rfl (wk_skip (ek_next (wk_seq (wk_block (wk_seq ?_)))))))
      refine wk_draws _ _ [(0, 0), (1, 0), (2, 0), (3, 0), (4, 0), (5, 0), (6, 0), (7, 0), (8, 0), (9, 0), (10, 0), (11, 0), (12, 0), (13, 0), (14, 0), (15, 0), (16, 0), (17, 0), (18, 0), (19, 0), (20, 0), (21, 0), (22, 0), (23, 0)] [] Kx Kx (fun c d v a w h => by cases d <;> exact h) ((sc _ (sc _ (sc _ (sc _ sn))))) (fun e => by first | exact absurd e (by decide) | rfl) ?_
      simp only [List.map_cons, List.map_nil, List.getD_cons_zero, List.getD_cons_succ]
      refine rf_field (n := 0) (j := 1) rfl rfl rfl Try.underlying67 rfl Kx rfl ?_
      simp only [qz]
      refine rf_load rfl rfl rfl Try.underlying65 rfl (fun w hw => (Kn.hd0 (Kn.tl (Kn.tl (Kn.tl hw)))).at rfl) ?_
      simp only [qz]
      refine rg_move ?_
      simp only [qz]
      refine rf_indexS (n := i) (sz := 1) (j := off + i * 1) rfl rfl rfl rfl Try.underlying65 Kx Ox Ox rfl ?_
      simp only [qz]
      refine rf_load rfl rfl rfl Try.underlying160 rfl (fun w hw => (by have := (Kn.cellB hw hlt (by simp) (off + i)).trans (hcell i Ox); simpa using this)) ?_
      simp only [qz]
      refine rf_conv rfl rfl rfl Try.underlying160 Try.underlying99 (wrap_okU Ox Ox) ?_
      simp only [qz]
      refine rf_field (n := 0) (j := 1) rfl rfl rfl Try.underlying67 rfl Kx rfl ?_
      simp only [qz]
      refine rf_load rfl rfl rfl Try.underlying65 rfl (fun w hw => (Kn.hd0 (Kn.tl (Kn.tl hw))).at rfl) ?_
      simp only [qz]
      refine rg_move ?_
      simp only [qz]
      refine rf_indexS (n := k) (sz := 1) (j := off2 + k * 1) rfl rfl rfl rfl Try.underlying65 Kx Ox Ox rfl ?_
      simp only [qz]
      refine rf_load rfl rfl rfl Try.underlying160 rfl (fun w hw => (by have := (Kn.cellB hw hlt2 (by simp) (off2 + k)).trans (hcell2 k Ox); simpa using this)) ?_
      simp only [qz]
      refine rf_conv rfl rfl rfl Try.underlying160 Try.underlying99 (wrap_okU Ox Ox) ?_
      simp only [qz]
      refine rf_mul rfl rfl rfl rfl (wrap_okU Ox Ox) ?_
      simp only [qz]
      refine rg_move ?_
      simp only [qz]
      refine rg_move ?_
      simp only [qz]
      refine rg_move ?_
      simp only [qz]
      refine rf_add rfl rfl rfl rfl (wrap_ok Ox Ox) ?_
      simp only [qz]
      refine rf_indexS (n := i + k) (sz := 1) (j := i + k) rfl rfl rfl rfl Try.underlying65 Kx Ox Ox Ox ?_
      simp only [qz]
      refine rf_load rfl rfl rfl Try.underlying160 rfl (fun w hw => (Kn.hd0 hw).at (us_getA _ _ (by (try simp only [List.length_set]); omega))) ?_
      simp only [qz]
      refine rf_conv rfl rfl rfl Try.underlying160 Try.underlying99 (wrap_okU Ox Ox) ?_
      simp only [qz]
      refine rf_add rfl rfl rfl rfl (wrap_okU Ox Ox) ?_
      simp only [qz]
      refine rg_move ?_
      simp only [qz]
      refine rf_add rfl rfl rfl rfl (wrap_okU Ox Ox) ?_
      simp only [qz]
      refine rg_assign ?_
      simp only [qz]
      refine rg_nil (ek_next (wk_seq ?_))
      refine wk_region [0, 0, 0, 0, 0, 0, 0, 1] rfl Kx ?_
      simp only [qy]
      refine rg_move ?_
      simp only [qz]
      refine rg_move ?_
      simp only [qz]
      refine rg_move ?_
      simp only [qz]
      refine rf_add rfl rfl rfl rfl (wrap_ok Ox Ox) ?_
      simp only [qz]
      refine rg_move ?_
      simp only [qz]
      refine rf_conv rfl rfl rfl Try.underlying99 Try.underlying160 (IntKind.wrap_u32 _) ?_
      simp only [qz]
      refine rf_indexS (n := i + k) (sz := 1) (j := i + k) rfl rfl rfl rfl Try.underlying65 Kx Ox Ox Ox ?_
      simp only [qz]
      refine rf_storeU (i := i + k) (z := (dig (digs m.natAbs) i * dig (digs n.natAbs) k + dig ys (i + k) + cy) % 4294967296) rfl rfl (by (try simp only [List.length_set]); omega) (Rep.here _) Nz ?_
      simp only [qz]
      refine rg_nil (ek_next ?_)
      refine wk_region [0, 0, 0] rfl Kx ?_
      simp only [qy]
      refine rg_move ?_
      simp only [qz]
      refine rf_shr (c := 32) (q := 4294967296) rfl rfl rfl rfl rfl (by decide) ?_
      simp only [qz]
      refine rg_assign ?_
      simp only [qz]
      refine rg_nil (ek_block (ek_next ?_))
      refine wk_region [0, 0, 0] rfl Kx ?_
      simp only [qy]
      refine rg_move ?_
      simp only [qz]
      refine rf_add rfl rfl rfl rfl (wrap_ok Ox Ox) ?_
      simp only [qz]
      refine rg_assign ?_
      simp only [qz]
      refine rg_nil ?_
      have hst := mul_step (t := dig (digs m.natAbs) i * dig (digs n.natAbs) k + dig ys (i + k) + cy) Ox heq2.out rfl
      refine ek_roundF ((digs n.natAbs).length - (k + 1)) Ox Kx ?_
      exact ⟨k + 1, (dig (digs m.natAbs) i * dig (digs n.natAbs) k + dig ys (i + k) + cy) / 4294967296, ys.set (i + k) ((dig (digs m.natAbs) i * dig (digs n.natAbs) k + dig ys (i + k) + cy) % 4294967296), rfl, rfl, rfl, rfl, by rfl, by rfl, Ox, (by rw [List.length_set]; omega), (by rw [List.length_set]; omega), Dg.set hd3 _ Ox Ox, Ox, Ox, hst, fun j hj => by rw [dig_set _ _ Ox, if_neg Ox]; exact hd8 j hj⟩
    (try simp only [qd, ne_eq] at h2)
    simp only [qz]
    refine rf_pick rfl rfl rfl ?_
    simp only [qz]
    refine rg_nil (ek_next (wk_cond_t rfl (wk_seq ?_)))
    refine wk_region [0, 1] rfl Kx ?_
    simp only [qy]
    refine rf_build (cs := fun a => #[.bool false, .slice none 0 0]) rfl rfl Kx ?_
    simp only [qz]
    refine rf_storeR (n := 2) rfl rfl Kx rfl rfl (UpdR.here _ _ _ Nl) Nz ?_
    simp only [qz, Nat.reduceAdd]
    refine rg_nil (ek_next (wk_ret (ek_then_ret ?_)))
    refine ek_ret (fun w hw => ⟨rfl, _, run_results1 rfl rfl (Kn.hd0 hw) Try.underlying67 rfl Kx, ?_⟩)
    (try simp only [qz])
    have h0 : m = 0 ∨ n = 0 := by (first | exact .inl (hlm.1 Ox) | exact .inr (hln.1 Ox))
    have e0 : m * n = 0 := by rcases h0 with h | h <;> rw [h] <;> simp
    exact ⟨_, [], rfl, ⟨.slice none 0 0, by unfold bgV; rw [e0]; rfl, by rw [e0]; exact SU.nil⟩, hw.made (List.nil_sublist _)⟩
  (try simp only [qd, ne_eq] at h1)
  simp only [qz]
  refine rg_move ?_
  simp only [qz]
  refine rg_skip Rx ?_
  simp only [qz]
  refine rg_skip Rx ?_
  simp only [qz]
  refine rg_skip Rx ?_
  simp only [qz]
  refine rg_skip Rx ?_
  simp only [qz]
  refine rf_pick rfl rfl rfl ?_
  simp only [qz]
  refine rg_nil (ek_next (wk_cond_t rfl (wk_seq ?_)))
  refine wk_region [0, 1] rfl Kx ?_
  simp only [qy]
  refine rf_build (cs := fun a => #[.bool false, .slice none 0 0]) rfl rfl Kx ?_
  simp only [qz]
  refine rf_storeR (n := 2) rfl rfl Kx rfl rfl (UpdR.here _ _ _ Nl) Nz ?_
  simp only [qz, Nat.reduceAdd]
  refine rg_nil (ek_next (wk_ret (ek_then_ret ?_)))
  refine ek_ret (fun w hw => ⟨rfl, _, run_results1 rfl rfl (Kn.hd0 hw) Try.underlying67 rfl Kx, ?_⟩)
  (try simp only [qz])
  have h0 : m = 0 ∨ n = 0 := by (first | exact .inl (hlm.1 Ox) | exact .inr (hln.1 Ox))
  have e0 : m * n = 0 := by rcases h0 with h | h <;> rw [h] <;> simp
  exact ⟨_, [], rfl, ⟨.slice none 0 0, by unfold bgV; rw [e0]; rfl, by rw [e0]; exact SU.nil⟩, hw.made (List.nil_sublist _)⟩

end Go.Proofs.Ytccbinnlnkpplaa
namespace Go.Proofs.Ytccbinnlnkpplaa
set_option linter.all false
open Go.RowKit

theorem ordN_cases (m n : Nat) : (m < n ∧ ordN m n = -1) ∨ (m = n ∧ ordN m n = 0) ∨ (n < m ∧ ordN m n = 1) := by
  rcases Nat.lt_trichotomy m n with h | h | h
  · exact .inl ⟨h, ordN_lt h⟩
  · exact .inr (.inl ⟨h, ordN_eq h⟩)
  exact .inr (.inr ⟨h, ordN_gt h⟩)
theorem digs_len_mono {m n : Nat} (h : m ≤ n) : (digs m).length ≤ (digs n).length := by
  rcases Nat.lt_or_ge (digs n).length (digs m).length with hl | hl
  · have := digs_lt_of_len hl; omega
  exact hl
set_option maxRecDepth 100000 in
set_option maxHeartbeats 1000000 in
theorem badd_any (m n : Int) (s s2 : Value) (hl : (digs m.natAbs).length ≤ 1000) (hl2 : (digs n.natAbs).length ≤ 1000) (w : World) (hs : SA w s m.natAbs) (hs2 : SA w s2 n.natAbs) : Calls Try.prog 99 #[bgV m s, bgV n s2] w fun e w' => RetB w (m + n) e w' := by
  obtain ⟨a, c, rfl, hA⟩ := hs
  obtain ⟨a2, c2, rfl, hA2⟩ := hs2
  go_enter Try.func99, Try.ntmps99
  refine wk_start ?_
  refine wk_seq ?_
  refine wk_region [1, 1, 1] rfl Kx ?_
  simp only [qy]
  refine Rgn fun g1 => ?_
  simp only [qz]
  refine Rgn fun g2 => ?_
  simp only [qz]
  refine Rgn fun g3 => ?_
  simp only [qz]
  refine rg_nil (ek_next (wk_seq (wk_seq ?_)))
  refine wk_region [0, 0, 0, 0, 0] rfl Kx ?_
  simp only [qy]
  refine rf_field (n := 0) (j := 0) rfl rfl rfl Try.underlying67 rfl Kx rfl ?_
  simp only [qz]
  refine rf_load rfl rfl rfl Try.underlying4 rfl (fun w hw => (Kn.hd0 (Kn.tl (Kn.tl hw))).at rfl) ?_
  simp only [qz]
  refine rf_field (n := 0) (j := 0) rfl rfl rfl Try.underlying67 rfl Kx rfl ?_
  simp only [qz]
  refine rf_load rfl rfl rfl Try.underlying4 rfl (fun w hw => (Kn.hd0 (Kn.tl hw)).at rfl) ?_
  simp only [qz]
  apply rg_softb
  case hy => (intro w hw; go_simp; (try go_bits); exact Yld.mk _ _)
  intro x h1
  cases x
  · (try simp only [qd, ne_eq] at h1)
    simp only [qz]
    refine rg_nil (ek_next (wk_cond_f rfl (wk_skip (ek_next (wk_seq (wk_seq ?_))))))
    refine wk_region [0, 0, 0, 0, 1] rfl Kx ?_
    simp only [qy]
    refine rf_field (n := 0) (j := 1) rfl rfl rfl Try.underlying67 rfl Kx rfl ?_
    simp only [qz]
    refine rf_load rfl rfl rfl Try.underlying65 rfl (fun w hw => (Kn.hd0 (Kn.tl (Kn.tl hw))).at rfl) ?_
    simp only [qz]
    refine rf_field (n := 0) (j := 1) rfl rfl rfl Try.underlying67 rfl Kx rfl ?_
    simp only [qz]
    refine rf_load rfl rfl rfl Try.underlying65 rfl (fun w hw => (Kn.hd0 (Kn.tl hw)).at rfl) ?_
    simp only [qz]
    apply rg_pure Rx Kx
    case hargs => exact Ax
    case h => exact fun w hw => border_any m.natAbs n.natAbs _ _ _ _ Ox Ox w (hA.kn0 hw) (hA2.kn0 hw)
    case hz => exact Nz
    simp only [qz]
    refine rg_nil (ek_next (wk_block (wk_seq ?_)))
    refine wk_region [0, 0] rfl Kx ?_
    simp only [qy]
    refine rfb_eql rfl rfl rfl rfl ?_
    intro x h2
    cases x
    · (try simp only [qd, ne_eq] at h2)
      simp only [qz]
      have hord := ordN_cases m.natAbs n.natAbs
      refine rg_assign ?_
      simp only [qz]
      refine rg_nil (ek_next (wk_cond_f rfl (wk_seq ?_)))
      refine wk_region [0, 0] rfl Kx ?_
      simp only [qy]
      refine rfb_eql rfl rfl rfl rfl ?_
      intro x h3
      cases x
      · (try simp only [qd, ne_eq] at h3)
        simp only [qz]
        have hordv : m.natAbs < n.natAbs := by omega
        refine rg_assign ?_
        simp only [qz]
        refine rg_nil (ek_next (wk_cond_f rfl (wk_skip (ek_block (ek_next (wk_seq ?_))))))
        refine wk_draws_m (hz1 := (sk _ (sc _ (sc _ sn)))) [(0, 0), (1, 0), (2, 0), (3, 0), (4, 0), (5, 0), (6, 1), (7, 0), (8, 2)] 8 Kx Kx (fun c d v a w h => by cases d <;> exact h) ?_
        simp only [List.map_cons, List.map_nil, List.getD_cons_zero, List.getD_cons_succ]
        refine rf_field (n := 0) (j := 0) rfl rfl rfl Try.underlying67 rfl Kx rfl ?_
        simp only [qz]
        refine rf_load rfl rfl rfl Try.underlying4 rfl (fun w hw => (Kn.hd0 (Kn.tl hw)).at rfl) ?_
        simp only [qz]
        refine rf_field (n := 0) (j := 1) rfl rfl rfl Try.underlying67 rfl Kx rfl ?_
        simp only [qz]
        refine rf_load rfl rfl rfl Try.underlying65 rfl (fun w hw => (Kn.hd0 (Kn.tl hw)).at rfl) ?_
        simp only [qz]
        refine rf_field (n := 0) (j := 1) rfl rfl rfl Try.underlying67 rfl Kx rfl ?_
        simp only [qz]
        refine rf_load rfl rfl rfl Try.underlying65 rfl (fun w hw => (Kn.hd0 (Kn.tl (Kn.tl hw))).at rfl) ?_
        simp only [qz]
        have hlt := hordv
        apply (rg_made (T := fun v u => SU u v (dval (digs n.natAbs) - dval (digs m.natAbs)).toNat)) Rx Kx
        case hargs => exact Ax
        case h => exact fun w hw => bminus_any (digs n.natAbs) (digs m.natAbs) _ _ _ _ (digs_dg _) (digs_dg _) Ox Ox (by rw [dval_digs, dval_digs]; omega) (digs_len_mono Ox) w (hA2.kn0 hw) (hA.kn0 hw)
        case hz => exact (fun _ h => by cases h; exact (sc _ (sc _ (sc _ sn))))
        intro v4 u4 hS
        obtain ⟨⟨sa4, sc4, rfl⟩, -⟩ := id hS
        simp only [qz]
        refine rf_build (cs := fun a => #[a.eval (.tmp 37), a.eval (.tmp 42)]) rfl rfl Kx ?_
        simp only [qz]
        refine rf_storeRM (n := 2) rfl rfl Kx rfl rfl (UpdR.app _ (UpdR.here _ _ _ Nl)) ((sk _ (sc _ (sc _ sn))).trans (List.sublist_append_right _ _)) ?_
        simp only [qz, Nat.reduceAdd]
        refine rg_nil (ek_next (wk_ret ?_))
        refine ek_ret (fun w hw => ⟨rfl, _, run_results1 rfl rfl (Kn.hd0 (Kn.tlU hw)) Try.underlying67 rfl Kx, ?_⟩)
        (try simp only [qz])
        have hsg : (m < 0 ↔ ¬ n < 0) := by (have h := h1; revert h; by_cases h1 : m < 0 <;> by_cases h2 : n < 0 <;> simp [h1, h2])
        have e1 : (dval (digs n.natAbs) - dval (digs m.natAbs)).toNat = (m + n).natAbs := by rw [dval_digs, dval_digs]; omega
        rw [e1] at hS
        refine ⟨_, _, rfl, ⟨_, ?_, hS⟩, hw.made (List.sublist_append_left _ _)⟩
        unfold bgV
        rw [show decide (m + n < 0) = decide (n < 0) from decide_eq_decide.2 Ox, e1]
      (try simp only [qd, ne_eq] at h3)
      simp only [qz]
      have hordv : n.natAbs < m.natAbs := by omega
      refine rg_assign ?_
      simp only [qz]
      refine rg_nil (ek_next (wk_cond_t rfl (wk_seq ?_)))
      refine wk_draws_m (hz1 := (sk _ (sc _ (sc _ sn)))) [(0, 0), (1, 0), (2, 0), (3, 0), (4, 0), (5, 0), (6, 1), (7, 0), (8, 2)] 8 Kx Kx (fun c d v a w h => by cases d <;> exact h) ?_
      simp only [List.map_cons, List.map_nil, List.getD_cons_zero, List.getD_cons_succ]
      refine rf_field (n := 0) (j := 0) rfl rfl rfl Try.underlying67 rfl Kx rfl ?_
      simp only [qz]
      refine rf_load rfl rfl rfl Try.underlying4 rfl (fun w hw => (Kn.hd0 (Kn.tl (Kn.tl hw))).at rfl) ?_
      simp only [qz]
      refine rf_field (n := 0) (j := 1) rfl rfl rfl Try.underlying67 rfl Kx rfl ?_
      simp only [qz]
      refine rf_load rfl rfl rfl Try.underlying65 rfl (fun w hw => (Kn.hd0 (Kn.tl (Kn.tl hw))).at rfl) ?_
      simp only [qz]
      refine rf_field (n := 0) (j := 1) rfl rfl rfl Try.underlying67 rfl Kx rfl ?_
      simp only [qz]
      refine rf_load rfl rfl rfl Try.underlying65 rfl (fun w hw => (Kn.hd0 (Kn.tl hw)).at rfl) ?_
      simp only [qz]
      have hlt := hordv
      apply (rg_made (T := fun v u => SU u v (dval (digs m.natAbs) - dval (digs n.natAbs)).toNat)) Rx Kx
      case hargs => exact Ax
      case h => exact fun w hw => bminus_any (digs m.natAbs) (digs n.natAbs) _ _ _ _ (digs_dg _) (digs_dg _) Ox Ox (by rw [dval_digs, dval_digs]; omega) (digs_len_mono Ox) w (hA.kn0 hw) (hA2.kn0 hw)
      case hz => exact (fun _ h => by cases h; exact (sc _ (sc _ (sc _ sn))))
      intro v5 u5 hS
      obtain ⟨⟨sa5, sc5, rfl⟩, -⟩ := id hS
      simp only [qz]
      refine rf_build (cs := fun a => #[a.eval (.tmp 29), a.eval (.tmp 34)]) rfl rfl Kx ?_
      simp only [qz]
      refine rf_storeRM (n := 2) rfl rfl Kx rfl rfl (UpdR.app _ (UpdR.here _ _ _ Nl)) ((sk _ (sc _ (sc _ sn))).trans (List.sublist_append_right _ _)) ?_
      simp only [qz, Nat.reduceAdd]
      refine rg_nil (ek_next (wk_ret (ek_block_ret (ek_then_ret ?_))))
      refine ek_ret (fun w hw => ⟨rfl, _, run_results1 rfl rfl (Kn.hd0 (Kn.tlU hw)) Try.underlying67 rfl Kx, ?_⟩)
      (try simp only [qz])
      have hsg : (m < 0 ↔ ¬ n < 0) := by (have h := h1; revert h; by_cases h1 : m < 0 <;> by_cases h2 : n < 0 <;> simp [h1, h2])
      have e1 : (dval (digs m.natAbs) - dval (digs n.natAbs)).toNat = (m + n).natAbs := by rw [dval_digs, dval_digs]; omega
      rw [e1] at hS
      refine ⟨_, _, rfl, ⟨_, ?_, hS⟩, hw.made (List.sublist_append_left _ _)⟩
      unfold bgV
      rw [show decide (m + n < 0) = decide (m < 0) from decide_eq_decide.2 Ox, e1]
    (try simp only [qd, ne_eq] at h2)
    simp only [qz]
    have hord := ordN_cases m.natAbs n.natAbs
    have heq : m.natAbs = n.natAbs := by omega
    refine rg_assign ?_
    simp only [qz]
    refine rg_nil (ek_next (wk_cond_t rfl (wk_seq ?_)))
    refine wk_region [0, 1] rfl Kx ?_
    simp only [qy]
    refine rf_build (cs := fun a => #[.bool false, .slice none 0 0]) rfl rfl Kx ?_
    simp only [qz]
    refine rf_storeR (n := 2) rfl rfl Kx rfl rfl (UpdR.here _ _ _ Nl) Nz ?_
    simp only [qz, Nat.reduceAdd]
    refine rg_nil (ek_next (wk_ret (ek_block_ret (ek_then_ret ?_))))
    refine ek_ret (fun w hw => ⟨rfl, _, run_results1 rfl rfl (Kn.hd0 hw) Try.underlying67 rfl Kx, ?_⟩)
    (try simp only [qz])
    have hsg : (m < 0 ↔ ¬ n < 0) := by (have h := h1; revert h; by_cases h1 : m < 0 <;> by_cases h2 : n < 0 <;> simp [h1, h2])
    have e0 : m + n = 0 := by omega
    exact ⟨_, [], rfl, ⟨.slice none 0 0, by unfold bgV; rw [e0]; rfl, by rw [e0]; exact SU.nil⟩, hw.made (List.nil_sublist _)⟩
  (try simp only [qd, ne_eq] at h1)
  simp only [qz]
  refine rg_nil (ek_next (wk_cond_t rfl (wk_seq ?_)))
  refine wk_draws_m (hz1 := (sk _ (sc _ (sc _ sn)))) [(0, 0), (1, 0), (2, 0), (3, 0), (4, 0), (5, 0), (6, 1), (7, 0), (8, 2)] 8 Kx Kx (fun c d v a w h => by cases d <;> exact h) ?_
  simp only [List.map_cons, List.map_nil, List.getD_cons_zero, List.getD_cons_succ]
  refine rf_field (n := 0) (j := 0) rfl rfl rfl Try.underlying67 rfl Kx rfl ?_
  simp only [qz]
  refine rf_load rfl rfl rfl Try.underlying4 rfl (fun w hw => (Kn.hd0 (Kn.tl (Kn.tl hw))).at rfl) ?_
  simp only [qz]
  refine rf_field (n := 0) (j := 1) rfl rfl rfl Try.underlying67 rfl Kx rfl ?_
  simp only [qz]
  refine rf_load rfl rfl rfl Try.underlying65 rfl (fun w hw => (Kn.hd0 (Kn.tl (Kn.tl hw))).at rfl) ?_
  simp only [qz]
  refine rf_field (n := 0) (j := 1) rfl rfl rfl Try.underlying67 rfl Kx rfl ?_
  simp only [qz]
  refine rf_load rfl rfl rfl Try.underlying65 rfl (fun w hw => (Kn.hd0 (Kn.tl hw)).at rfl) ?_
  simp only [qz]
  apply (rg_made (T := fun v u => SU u v (dval (digs m.natAbs) + dval (digs n.natAbs)).toNat)) Rx Kx
  case hargs => exact Ax
  case h => exact fun w hw => bplus_any (digs m.natAbs) (digs n.natAbs) _ _ _ _ (digs_dg _) (digs_dg _) Ox Ox w (hA.kn0 hw) (hA2.kn0 hw)
  case hz => exact (fun _ h => by cases h; exact (sc _ (sc _ (sc _ sn))))
  intro v6 u6 hS
  obtain ⟨⟨sa6, sc6, rfl⟩, -⟩ := id hS
  simp only [qz]
  refine rf_build (cs := fun a => #[a.eval (.tmp 11), a.eval (.tmp 16)]) rfl rfl Kx ?_
  simp only [qz]
  refine rf_storeRM (n := 2) rfl rfl Kx rfl rfl (UpdR.app _ (UpdR.here _ _ _ Nl)) ((sk _ (sc _ (sc _ sn))).trans (List.sublist_append_right _ _)) ?_
  simp only [qz, Nat.reduceAdd]
  refine rg_nil (ek_next (wk_ret (ek_then_ret ?_)))
  refine ek_ret (fun w hw => ⟨rfl, _, run_results1 rfl rfl (Kn.hd0 (Kn.tlU hw)) Try.underlying67 rfl Kx, ?_⟩)
  (try simp only [qz])
  have hsg : (m < 0 ↔ n < 0) := by (have h := h1; revert h; by_cases h1 : m < 0 <;> by_cases h2 : n < 0 <;> simp [h1, h2])
  have e1 : (dval (digs m.natAbs) + dval (digs n.natAbs)).toNat = (m + n).natAbs := by rw [dval_digs, dval_digs]; omega
  rw [e1] at hS
  refine ⟨_, _, rfl, ⟨_, ?_, hS⟩, hw.made (List.sublist_append_left _ _)⟩
  unfold bgV
  rw [show decide (m + n < 0) = decide (m < 0) from decide_eq_decide.2 Ox, e1]

set_option maxRecDepth 100000 in
set_option maxHeartbeats 1000000 in
theorem bsub_any (m n : Int) (s s2 : Value) (hl : (digs m.natAbs).length ≤ 1000) (hl2 : (digs n.natAbs).length ≤ 1000) (w : World) (hs : SA w s m.natAbs) (hs2 : SA w s2 n.natAbs) : Calls Try.prog 147 #[bgV m s, bgV n s2] w fun e w' => RetB w (m - n) e w' := by
  go_enter Try.func147, Try.ntmps147
  refine wk_start ?_
  refine wk_seq ?_
  refine wk_region [1, 1, 1] rfl Kx ?_
  simp only [qy]
  refine Rgn fun g1 => ?_
  simp only [qz]
  refine Rgn fun g2 => ?_
  simp only [qz]
  refine Rgn fun g3 => ?_
  simp only [qz]
  refine rg_nil (ek_next (wk_seq ?_))
  refine wk_draws_m (hz1 := (sk _ (sc _ (sc _ sn)))) [(0, 0), (1, 0), (2, 1), (3, 1), (4, 2)] 4 Kx Kx (fun c d v a w h => by cases d <;> exact h) ?_
  simp only [List.map_cons, List.map_nil, List.getD_cons_zero, List.getD_cons_succ]
  refine rf_loadR (n := 2) rfl rfl rfl Try.underlying67 rfl Kx (fun w hw => Kn.hd0 (Kn.tl (Kn.tl hw))) rfl rfl ?_
  simp only [qz]
  refine rf_loadR (n := 2) rfl rfl rfl Try.underlying67 rfl Kx (fun w hw => Kn.hd0 (Kn.tl hw)) rfl rfl ?_
  simp only [qz]
  apply rg_pure Rx Kx
  case hargs => exact Ax
  case h => exact fun w hw => bneg_any n s2 hl2 w (hs2.kn hw)
  case hz => exact (fun _ h => by cases h; exact (sc _ (sc _ (sc _ sn))))
  simp only [qz]
  apply (rg_made (T := fun v u => ∃ s, v = bgV (m + -n) s ∧ SU u s (m + -n).natAbs)) Rx Kx
  case hargs => exact Ax
  case h => exact fun w hw => badd_any m (-n) s s2 hl (by rw [Int.natAbs_neg]; exact hl2) w (hs.kn hw) (by rw [Int.natAbs_neg]; exact hs2.kn hw)
  case hz => exact (fun _ h => by cases h; exact (sc _ (sc _ (sc _ sn))))
  rintro _ u4 ⟨s4, rfl, hS⟩
  obtain ⟨⟨sa4, sc4, rfl⟩, -⟩ := id hS
  simp only [qz]
  refine rf_storeRM (n := 2) rfl rfl Kx rfl rfl (UpdR.app _ (UpdR.here _ _ _ Nl)) ((sk _ (sc _ (sc _ sn))).trans (List.sublist_append_right _ _)) ?_
  simp only [qz, Nat.reduceAdd]
  refine rg_nil (ek_next (wk_ret ?_))
  refine ek_ret (fun w hw => ⟨rfl, _, run_results1 rfl rfl (Kn.hd0 (Kn.tlU hw)) Try.underlying67 rfl Kx, ?_⟩)
  (try simp only [qz])
  exact ⟨_, _, rfl, ⟨_, rfl, hS⟩, hw.made (List.sublist_append_left _ _)⟩

end Go.Proofs.Ytccbinnlnkpplaa
