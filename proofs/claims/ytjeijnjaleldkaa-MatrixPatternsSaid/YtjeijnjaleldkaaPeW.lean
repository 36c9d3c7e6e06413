/- Plain: the ways to choose columns as the program sums them, their value and their size. -/
import Derived.Test.YtjeijnjaleldkaaPeDo
import Derived.Test.YtjeijnjaleldkaaWtP
namespace Go.Proofs.Ytjeijnjaleldkaa
set_option linter.all false

def sumS : Nat → (Nat → Nat → Int) → Nat → Int
  | 0, _ => fun _ => 0
  | m + 1, f => fun j => sumS m f j + f m j
/-- The ways to choose the columns of S from the first c rows; A: the table. -/
def wyS (A : Nat → Nat → Nat → Int) (n : Nat) : Nat → Nat → Nat → Int
  | 0, _ => sel4 1 0 0 0
  | c + 1, S => sumS n fun k => if S.testBit k then acc (wyS A n c (S - 2 ^ k)) (A c k) 16 else fun _ => 0
def nmF (T : Nat → Int) (k : Int) : Nm := ⟨T 0, T 1, T 2, T 3, k⟩
def co4 (z : Nm) : Nat → Int := sel4 z.a z.b z.c z.d
theorem val_pl {x y : Nm} (h : x.k = y.k) : (x.pl y).val = x.val + y.val := by
  unfold Nm.val Nm.pl
  dsimp only
  rw [← h, ← Q4.dn_add]
  congr 1
  apply Q4.ext' <;> simp only [Nm.co, Q4.aa, Q4.ab, Q4.ac, Q4.ad, Rat.intCast_add]
theorem dh_zero' : Q4.dh 0 = 0 := by
  apply Q4.ext' <;> simp only [Q4.dh, Q4.za, Q4.zb, Q4.zc, Q4.zd] <;> grind
theorem dn_zero' : ∀ n, Q4.dn n 0 = 0
  | 0 => rfl
  | n + 1 => by
    show Q4.dn n (Q4.dh 0) = 0
    rw [dh_zero']; exact dn_zero' n
theorem nmF_zero (k : Int) : (nmF (fun _ => 0) k).val = 0 := dn_zero' _
theorem sumS_val (f : Nat → Nat → Int) (K : Int) : ∀ m, (nmF (sumS m f) K).val = sumQ m fun k => (nmF (f k) K).val
  | 0 => nmF_zero K
  | m + 1 => by
    show (Nm.pl (nmF (sumS m f) K) (nmF (f m) K)).val = sumQ m _ + _
    rw [val_pl (x := nmF (sumS m f) K) (y := nmF (f m) K) rfl, sumS_val f K m]
theorem acc_cong {X X' Y : Nat → Int} (h : ∀ i, i < 4 → X i = X' i) : ∀ n j, n ≤ 16 → acc X Y n j = acc X' Y n j
  | 0, _, _ => rfl
  | n + 1, j, hn => by
    unfold acc
    rw [acc_cong h n j (by omega), h (n / 4) (by omega)]
theorem acc_nm (T : Nat → Int) (k : Int) (z : Nm) : nmF (acc T (co4 z) 16) (k + z.k) = (nmF T k).mulR z := by
  have e := acc_16 (nmF T k) z
  have hT : ∀ i, i < 4 → T i = sel4 (nmF T k).a (nmF T k).b (nmF T k).c (nmF T k).d i := by
    intro i hi
    rcases (by omega : i = 0 ∨ i = 1 ∨ i = 2 ∨ i = 3) with rfl | rfl | rfl | rfl <;> rfl
  rw [← e]
  unfold nmF co4
  rw [acc_cong hT 16 0 (by omega), acc_cong hT 16 1 (by omega), acc_cong hT 16 2 (by omega), acc_cong hT 16 3 (by omega)]
  rfl
section
variable {a : Nat → Nat → Nm} {K : Int} {n : Nat}
theorem wyS_val (hn : n ≤ 6) (hK : 0 ≤ K) (h : ∀ i k, i < n → k < n → 0 ≤ (a i k).k ∧ (a i k).k ≤ K) : ∀ c S, c ≤ n → (nmF (wyS (fun i k => co4 ((a i k).to K)) n c S) (c * K)).val = wyQ (fun i k => (a i k).val) n c S
  | 0, S, _ => by
    show (nmF (sel4 1 0 0 0) (((0 : Nat) : Int) * K)).val = 1
    rw [show ((0 : Nat) : Int) * K = 0 by simp]
    exact val_one
  | c + 1, S, hc => by
    show (nmF (sumS n _) _).val = sumQ n _
    rw [sumS_val]
    refine sumQ_congr fun k hk => ?_
    by_cases hb : S.testBit k = true
    · rw [if_pos hb, if_pos hb]
      obtain ⟨h0, h1⟩ := h c k (by omega) hk
      have ek := Nm.to_k (z := a c k) (m := K) h1
      have e := acc_nm (wyS (fun i k => co4 ((a i k).to K)) n c (S - 2 ^ k)) (c * K) ((a c k).to K)
      rw [ek] at e
      have e2 : ((c + 1 : Nat) : Int) * K = c * K + K := by rw [Int.natCast_add, Int.add_mul]; simp
      have hcK : 0 ≤ (c : Int) * K := Int.mul_nonneg (by omega) hK
      rw [e2, e, val_mulR (by show 0 ≤ (c : Int) * K; exact hcK) (by omega), wyS_val hn hK h c _ (by omega), to_up h0]
    · rw [if_neg hb, if_neg hb]
      exact nmF_zero _
end
def Be : Nat → Int
  | 0 => 1
  | c + 1 => 144115188075855872 * Be c
theorem Be_pos : ∀ n, 1 ≤ Be n
  | 0 => by show (1 : Int) ≤ 1; omega
  | n + 1 => by have := Be_pos n; show 1 ≤ 144115188075855872 * Be n; omega
theorem sumS_bd (f : Nat → Nat → Int) {M : Int} (j : Nat) : ∀ m, (∀ k, k < m → -M ≤ f k j ∧ f k j ≤ M) → -(m * M) ≤ sumS m f j ∧ sumS m f j ≤ m * M
  | 0, _ => by show -(((0 : Nat) : Int) * M) ≤ 0 ∧ 0 ≤ ((0 : Nat) : Int) * M; omega
  | m + 1, h => by
    have ih := sumS_bd f j m fun k hk => h k (by omega)
    have h1 := h m (by omega)
    have e : ((m + 1 : Nat) : Int) * M = m * M + M := by rw [Int.natCast_add, Int.add_mul]; simp
    show -(((m + 1 : Nat) : Int) * M) ≤ sumS m f j + f m j ∧ sumS m f j + f m j ≤ ((m + 1 : Nat) : Int) * M
    omega
theorem wyS_bd {A : Nat → Nat → Nat → Int} {n : Nat} (hn : n ≤ 6) (hA : ∀ i k j, i < n → k < n → j < 4 → -1048576000000000 ≤ A i k j ∧ A i k j ≤ 1048576000000000) : ∀ c S j, c ≤ n → j < 4 → -(Be c) ≤ wyS A n c S j ∧ wyS A n c S j ≤ Be c
  | 0, S, j, _, hj => by
    show -(1 : Int) ≤ sel4 1 0 0 0 j ∧ sel4 1 0 0 0 j ≤ (1 : Int)
    rcases (by omega : j = 0 ∨ j = 1 ∨ j = 2 ∨ j = 3) with rfl | rfl | rfl | rfl <;> decide
  | c + 1, S, j, hc, hj => by
    have hB := Be_pos c
    have key : ∀ k, k < n → -(16 * (Be c * 1048576000000000)) ≤ (if S.testBit k then acc (wyS A n c (S - 2 ^ k)) (A c k) 16 else fun _ => 0) j ∧ (if S.testBit k then acc (wyS A n c (S - 2 ^ k)) (A c k) 16 else fun _ => 0) j ≤ 16 * (Be c * 1048576000000000) := by
      intro k hk
      split
      · have := acc_bound (X := wyS A n c (S - 2 ^ k)) (Y := A c k) (M := Be c * 1048576000000000) (by omega) (fun i l hi hl => by
          have h1 := wyS_bd hn hA c (S - 2 ^ k) i (by omega) hi
          have h2 := hA c k l (by omega) hk hl
          exact mul_bd h1.1 h1.2 h2.1 h2.2) 16 j (by omega)
        exact this
      · dsimp only; omega
    have := sumS_bd (M := 16 * (Be c * 1048576000000000)) _ j n key
    show -(144115188075855872 * Be c) ≤ sumS n _ j ∧ sumS n _ j ≤ 144115188075855872 * Be c
    have e := Int.mul_le_mul_of_nonneg_right (show (n : Int) ≤ 6 by omega) (show 0 ≤ 16 * (Be c * 1048576000000000) by omega)
    omega
theorem sumS_congr {f g : Nat → Nat → Int} : ∀ m, (∀ k, k < m → f k = g k) → sumS m f = sumS m g
  | 0, _ => rfl
  | m + 1, h => by
    show (fun j => sumS m f j + f m j) = fun j => sumS m g j + g m j
    rw [sumS_congr m fun k hk => h k (by omega), h m (by omega)]
end Go.Proofs.Ytjeijnjaleldkaa
