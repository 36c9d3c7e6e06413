/- Plain: functions of the index; sums of products; the form of a number, if it is in range. -/
import Derived.Test.YtccbinnlnkpplaaSg
namespace Go.Proofs.Ytccbinnlnkpplaa
set_option linter.all false

def sel4 {α : Type} (a b c d : α) : Nat → α
  | 0 => a
  | 1 => b
  | 2 => c
  | _ => d
def upd {α : Type} (T : Nat → α) (j : Nat) (t : α) : Nat → α := fun m => if m = j then t else T m
theorem upd_same {α : Type} (T : Nat → α) (j : Nat) (t : α) : upd T j t j = t := if_pos rfl
theorem upd_other {α : Type} (T : Nat → α) {j m : Nat} (t : α) (h : m ≠ j) : upd T j t m = T m := if_neg h
theorem lt4 {m : Nat} (h : m < 4) : m = 0 ∨ m = 1 ∨ m = 2 ∨ m = 3 := by omega
/-- The sum of the first n products. -/
def acc (X Y : Nat → Int) : Nat → Nat → Int
  | 0, _ => 0
  | n + 1, m => if m = (n / 4 + n % 4) % 4 then acc X Y n m + (if 4 ≤ n / 4 + n % 4 then -(X (n / 4) * Y (n % 4)) else X (n / 4) * Y (n % 4)) else acc X Y n m
theorem acc_bound {X Y : Nat → Int} {M : Int} (h0 : 0 ≤ M) (h : ∀ i k, i < 4 → k < 4 → -M ≤ X i * Y k ∧ X i * Y k ≤ M) : ∀ n m, n ≤ 16 → -(n * M) ≤ acc X Y n m ∧ acc X Y n m ≤ n * M
  | 0, m, _ => by simp [acc]
  | n + 1, m, hn => by
    have ih := acc_bound h0 h n m (by omega)
    have hb := h (n / 4) (n % 4) (by omega) (by omega)
    have e : ((n + 1 : Nat) : Int) * M = n * M + M := by rw [Int.natCast_add, Int.add_mul]; simp
    rw [e]
    simp only [acc]
    split
    · split <;> omega
    · omega
theorem acc_16 (x y : Nm) : (⟨acc (sel4 x.a x.b x.c x.d) (sel4 y.a y.b y.c y.d) 16 0, acc (sel4 x.a x.b x.c x.d) (sel4 y.a y.b y.c y.d) 16 1, acc (sel4 x.a x.b x.c x.d) (sel4 y.a y.b y.c y.d) 16 2, acc (sel4 x.a x.b x.c x.d) (sel4 y.a y.b y.c y.d) 16 3, x.k + y.k⟩ : Nm) = x.mulR y := by
  unfold Nm.mulR
  congr 1 <;> simp [acc, sel4] <;> omega
theorem acc_step {X Y T : Nat → Int} {i k : Nat} (hk : k < 4) (h : acc X Y (i * 4 + k) = T) : acc X Y (i * 4 + (k + 1)) = upd T ((i + k) % 4) (T ((i + k) % 4) + (if 4 ≤ i + k then -(X i * Y k) else X i * Y k)) := by
  funext m
  have e1 : (i * 4 + k) / 4 = i := by omega
  have e2 : (i * 4 + k) % 4 = k := by omega
  rw [show i * 4 + (k + 1) = i * 4 + k + 1 by omega]
  simp only [acc]
  rw [e1, e2, h]
  unfold upd
  split
  · next hm => rw [hm]
  · rfl
theorem sel_cases {p : Nat → Prop} (h0 : p 0) (h1 : p 1) (h2 : p 2) (h3 : p 3) : ∀ m, m < 4 → p m := fun m hm => by
  rcases lt4 hm with rfl | rfl | rfl | rfl <;> assumption
def smB (n : Int) : Bool := decide (-1000000000 ≤ n) && decide (n ≤ 1000000000)
def numOk (y : Nm) : Bool := smB y.a && (smB y.b && (smB y.c && smB y.d))
def wnum (z : Nm) : Nm × Bool := if numOk z.nf = true then (z.nf, decide (z.nf.k ≤ 40)) else (Nm.zero, false)
theorem wnum_numV {z : Nm} : numV z.mk' = if (wnum z).2 = true then .tuple #[nmV (wnum z).1, .int .i64 0] else .tuple #[nmV Nm.zero, .int .i64 4] := by
  have hs : z.nf.small = (decide (z.nf.k ≤ 40) && numOk z.nf) := by
    rw [Bool.eq_iff_iff, small_iff]
    simp only [numOk, smB, Bool.and_eq_true, decide_eq_true_eq]
    constructor
    · rintro ⟨h, h1, h2, h3, h4, h5, h6, h7, h8⟩
      exact ⟨h, ⟨h1, h2⟩, ⟨h3, h4⟩, ⟨h5, h6⟩, h7, h8⟩
    · rintro ⟨h, ⟨h1, h2⟩, ⟨h3, h4⟩, ⟨h5, h6⟩, h7, h8⟩
      exact ⟨h, h1, h2, h3, h4, h5, h6, h7, h8⟩
  unfold Nm.mk' wnum
  rw [hs]
  cases numOk z.nf with
  | false => simp [numV]
  | true =>
    by_cases h : z.nf.k ≤ 40
    · simp [h, numV]
    · simp [h, numV]
end Go.Proofs.Ytccbinnlnkpplaa
