/- Plain: patterns of photons: sums, products of factorials. -/
import Derived.Test.YtjeijnjaleldkaaMtPl
namespace Go.Proofs.Ytjeijnjaleldkaa
set_option linter.all false

/-- The i-th number. -/
def gI (xs : List Int) (i : Nat) : Int := xs.getD i 0
/-- All numbers are from 0 to 5. -/
def okP (xs : List Int) : Bool := decide (∀ j, j < xs.length → 0 ≤ gI xs j ∧ gI xs j ≤ 5)
theorem okP_false {xs : List Int} {i : Nat} (hi : i < xs.length) (h : gI xs i < 0 ∨ 5 < gI xs i) : okP xs = false := by
  unfold okP
  rw [decide_eq_false_iff_not]
  intro hh
  have := hh i hi
  omega
theorem okP_true {xs : List Int} (h : ∀ j, j < xs.length → 0 ≤ gI xs j ∧ gI xs j ≤ 5) : okP xs = true := by
  unfold okP; rw [decide_eq_true_eq]; exact h
theorem okP_at {xs : List Int} (h : okP xs = true) {i : Nat} (hi : i < xs.length) : 0 ≤ gI xs i ∧ gI xs i ≤ 5 := by
  unfold okP at h; rw [decide_eq_true_eq] at h; exact h i hi
def sT (xs : List Int) : Nat → Int
  | 0 => 0
  | i + 1 => sT xs i + gI xs i
theorem sT_bd {xs : List Int} (h : ∀ j, j < xs.length → 0 ≤ gI xs j ∧ gI xs j ≤ 5) : ∀ i, i ≤ xs.length → 0 ≤ sT xs i ∧ sT xs i ≤ 5 * i
  | 0, _ => by show (0 : Int) ≤ 0 ∧ (0 : Int) ≤ _; omega
  | i + 1, hi => by
    have := sT_bd h i (by omega)
    have := h i (by omega)
    show 0 ≤ sT xs i + gI xs i ∧ sT xs i + gI xs i ≤ _
    omega
theorem sT_mono {xs : List Int} (h : ∀ j, j < xs.length → 0 ≤ gI xs j ∧ gI xs j ≤ 5) {i : Nat} : ∀ m, i ≤ m → m ≤ xs.length → sT xs i ≤ sT xs m
  | 0, h1, _ => by obtain rfl : i = 0 := by omega
                   exact Int.le_refl _
  | m + 1, h1, h2 => by
    rcases (by omega : i = m + 1 ∨ i ≤ m) with rfl | h3
    · exact Int.le_refl _
    · have h4 := sT_mono h m h3 (by omega)
      have h5 := h m (by omega)
      show sT xs i ≤ sT xs m + gI xs m
      omega
/-- Whether there are five photons. -/
def manyB (xs : List Int) : Bool := okP xs && decide (sT xs xs.length = 5)
def liN (xs : List Int) : Int := if okP xs then sT xs xs.length else 0
def liB (xs : List Int) : Bool := okP xs && decide (sT xs xs.length ≤ 5)
/-- A pattern of at most five photons. -/
def patB (xs : List Int) : Bool := okP xs && decide (sT xs xs.length ≤ 5)
/-- Products of factorials. -/
def fm : Nat → Int
  | 0 => 1
  | j + 1 => fm j * ((j : Int) + 2)
def fT (xs : List Int) : Nat → Int
  | 0 => 1
  | i + 1 => fT xs i * fm ((gI xs i).toNat - 1)
theorem fm_bd : ∀ j, j ≤ 4 → 1 ≤ fm j ∧ fm j ≤ 120 := by decide
theorem fm_pow : ∀ n, n ≤ 5 → fm (n - 1) ≤ 5 ^ n := by decide
theorem mul_le2 {a b A B : Int} (h1 : 1 ≤ a) (h2 : a ≤ A) (h3 : 1 ≤ b) (h4 : b ≤ B) : 1 ≤ a * b ∧ a * b ≤ A * B := by
  have h5 := Int.mul_le_mul h2 h4 (by omega) (by omega)
  have h6 : 1 * 1 ≤ a * b := Int.mul_le_mul h1 h3 (by omega) (by omega)
  omega
theorem fT_pow {xs : List Int} (h : ∀ j, j < xs.length → 0 ≤ gI xs j ∧ gI xs j ≤ 5) : ∀ i, i ≤ xs.length → 1 ≤ fT xs i ∧ fT xs i ≤ 5 ^ (sT xs i).toNat
  | 0, _ => by show (1 : Int) ≤ 1 ∧ (1 : Int) ≤ 5 ^ (0 : Int).toNat; decide
  | i + 1, hi => by
    have h1 := fT_pow h i (by omega)
    have h2 := h i (by omega)
    have h3 := sT_bd h i (by omega)
    have h4 := fm_bd ((gI xs i).toNat - 1) (by omega)
    have h5 := fm_pow (gI xs i).toNat (by omega)
    have h6 := mul_le2 h1.1 h1.2 h4.1 h5
    refine ⟨h6.1, ?_⟩
    show fT xs i * fm _ ≤ 5 ^ (sT xs i + gI xs i).toNat
    rw [show (sT xs i + gI xs i).toNat = (sT xs i).toNat + (gI xs i).toNat by omega, Int.pow_add]
    exact h6.2
theorem fT_bd {xs : List Int} (h : okP xs = true) (h5 : sT xs xs.length ≤ 5) {i : Nat} (hi : i ≤ xs.length) : 1 ≤ fT xs i ∧ fT xs i ≤ 3125 := by
  have hh : ∀ j, j < xs.length → 0 ≤ gI xs j ∧ gI xs j ≤ 5 := fun j hj => okP_at h hj
  have h1 := fT_pow hh i hi
  have h2 := sT_mono hh xs.length hi (Nat.le_refl _)
  have h3 := sT_bd hh i hi
  refine ⟨h1.1, ?_⟩
  have key : ∀ n, n ≤ 5 → (5 : Int) ^ n ≤ 3125 := by decide
  have := key (sT xs i).toNat (by omega)
  omega
theorem fv_bd {xs : List Int} (h : okP xs = true) (h5 : sT xs xs.length ≤ 5) {i m : Nat} (hi : i ≤ xs.length) (hm : m ≤ 4) {v : Int} (hv : fT xs i * fm m = v) : 1 ≤ v ∧ v ≤ 375000 ∧ 1 ≤ v * ((m : Int) + 2) ∧ v * ((m : Int) + 2) ≤ 2250000 := by
  have h1 := fT_bd h h5 hi
  have h2 := fm_bd m hm
  have h3 := mul_le2 h1.1 h1.2 h2.1 h2.2
  rw [hv] at h3
  have h4 := mul_le2 (a := v) (b := (m : Int) + 2) (A := 375000) (B := 6) h3.1 (by omega) (by omega) (by omega)
  omega

/-! ### The modes of the photons, one after the other -/
def modes (xs : List Int) : Nat → List Int
  | 0 => []
  | i + 1 => modes xs i ++ List.replicate (gI xs i).toNat (i : Int)
theorem modes_len {xs : List Int} (h : ∀ j, j < xs.length → 0 ≤ gI xs j ∧ gI xs j ≤ 5) : ∀ i, i ≤ xs.length → ((modes xs i).length : Int) = sT xs i
  | 0, _ => rfl
  | i + 1, hi => by
    have h1 := modes_len h i (by omega)
    have h2 := h i (by omega)
    show ((modes xs i ++ List.replicate _ _).length : Int) = sT xs i + gI xs i
    rw [List.length_append, List.length_replicate]
    omega
theorem modes_mem {xs : List Int} : ∀ {i : Nat} {m : Int}, m ∈ modes xs i → 0 ≤ m ∧ m < i
  | 0, m, h => by simp [modes] at h
  | i + 1, m, h => by
    rcases List.mem_append.1 (show m ∈ modes xs i ++ _ from h) with h1 | h1
    · have := modes_mem h1; omega
    · have := List.eq_of_mem_replicate h1; omega
end Go.Proofs.Ytjeijnjaleldkaa
