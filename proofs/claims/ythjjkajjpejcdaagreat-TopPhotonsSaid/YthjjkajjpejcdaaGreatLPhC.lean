/- Texts in one: PeDo, PeW, R4, Eq, Am1, Am2, Am3, Am4, Mx1, Mx2, Ws4, Mt1, BgPl, Bg, Bg1. -/
import Derived.Test.YthjjkajjpejcdaaGreatLPhB
import Derived.DeepKeys
import Derived.IntWalk
import Derived.Laws.BitsAllLaws
namespace Go.Proofs.YthjjkajjpejcdaaGreat
set_option linter.all false
set_option maxRecDepth 100000
set_option maxHeartbeats 1000000
def sumN : Nat → (Nat → Nm) → Nm
  | 0, _ => Nm.zero
  | m + 1, f => (sumN m f).addR (f m)
section
variable {α β : Type}
end
def Nm.pl (x y : Nm) : Nm := ⟨x.a + y.a, x.b + y.b, x.c + y.c, x.d + y.d, x.k⟩
theorem tr_pl (x y : Nm) : (x.pl y).tr = x.tr.pl y.tr := by
 simp only [Nm.pl, Nm.tr]
 congr 1 <;> omega
theorem up_pl : ∀ (n : Nat) (x y : Nm), Nm.up n (x.pl y) = (Nm.up n x).pl (Nm.up n y)
  | 0, _, _ => rfl
  | n + 1, x, y => by
    show Nm.up n (x.pl y).tr = _
    rw [tr_pl, up_pl n]
    rfl
theorem up_to {x : Nm} {m K : Int} (h : x.k ≤ m) (h' : m ≤ K) : Nm.up (K - m).toNat (x.to m) = x.to K := by
 unfold Nm.to
 rw [Nm.up_add]
 congr 1
 omega
theorem addR_to {x y : Nm} {K : Int} (hx : x.k ≤ K) (hy : y.k ≤ K) : (x.addR y).k ≤ K ∧ (x.addR y).to K = (x.to K).pl (y.to K) := by
 rcases Int.lt_or_le x.k y.k with h | h
 ·have e : x.addR y = (x.to y.k).pl y := by
   rw [addR_lt h]
   unfold Nm.pl
   rw [Nm.to_k (by omega)]
  have ek : (x.addR y).k = y.k := by rw [addR_lt h]
  refine ⟨by omega, ?_⟩
  show Nm.up (K - (x.addR y).k).toNat (x.addR y) = _
  rw [ek, e, up_pl, up_to (by omega) hy]
  rfl
 ·have e : x.addR y = x.pl (y.to x.k) := by
   rw [addR_ge h]
   unfold Nm.pl
   rw [Int.add_comm x.a, Int.add_comm x.b, Int.add_comm x.c, Int.add_comm x.d]
  have ek : (x.addR y).k = x.k := by rw [addR_ge h]
  refine ⟨by omega, ?_⟩
  show Nm.up (K - (x.addR y).k).toNat (x.addR y) = _
  rw [ek, e, up_pl, up_to h hx]
  rfl
theorem tr_down {B : Int} {z : Nm} (h : z.tr.Fit B) : z.Fit B := by
 obtain ⟨a0, a1, b0, b1, c0, c1, d0, d1⟩ := h
 simp only [Nm.tr] at *
 exact ⟨by omega, by omega, by omega, by omega, by omega, by omega, by omega, by omega⟩
theorem up_down {B : Int} : ∀ (n : Nat) {z : Nm}, (Nm.up n z).Fit B → z.Fit B
  | 0, _, h => h
  | n + 1, z, h => tr_down (up_down n (z := z.tr) h)
theorem pl_fit {A B : Int} {x y : Nm} (hx : x.Fit A) (hy : y.Fit B) : (x.pl y).Fit (A + B) := by
 obtain ⟨a0, a1, b0, b1, c0, c1, d0, d1⟩ := hx
 obtain ⟨a0', a1', b0', b1', c0', c1', d0', d1'⟩ := hy
 exact ⟨by simp only [Nm.pl]; omega, by simp only [Nm.pl]; omega, by simp only [Nm.pl]; omega, by simp only [Nm.pl]; omega, by simp only [Nm.pl]; omega, by simp only [Nm.pl]; omega, by simp only [Nm.pl]; omega, by simp only [Nm.pl]; omega⟩
theorem mul_bd {x y A B : Int} (hx : -A ≤ x) (hx' : x ≤ A) (hy : -B ≤ y) (hy' : y ≤ B) : -(A * B) ≤ x * y ∧ x * y ≤ A * B := by
 have h1 : x.natAbs ≤ A.toNat := by omega
 have h2 : y.natAbs ≤ B.toNat := by omega
 have h3 := Nat.mul_le_mul h1 h2
 rw [← Int.natAbs_mul] at h3
 have h4 : ((A.toNat * B.toNat : Nat) : Int) = A * B := by
  rw [Int.natCast_mul, Int.toNat_of_nonneg (by omega), Int.toNat_of_nonneg (by omega)]
 omega
theorem mulR_fitG {A B : Int} {x y : Nm} (hx : x.Fit A) (hy : y.Fit B) : (x.mulR y).Fit (4 * (A * B)) := by
 obtain ⟨a0, a1, b0, b1, c0, c1, d0, d1⟩ := hx
 obtain ⟨a0', a1', b0', b1', c0', c1', d0', d1'⟩ := hy
 have p1 := mul_bd a0 a1 a0' a1'; have p2 := mul_bd a0 a1 b0' b1'; have p3 := mul_bd a0 a1 c0' c1'; have p4 := mul_bd a0 a1 d0' d1'
 have q1 := mul_bd b0 b1 a0' a1'; have q2 := mul_bd b0 b1 b0' b1'; have q3 := mul_bd b0 b1 c0' c1'; have q4 := mul_bd b0 b1 d0' d1'
 have r1 := mul_bd c0 c1 a0' a1'; have r2 := mul_bd c0 c1 b0' b1'; have r3 := mul_bd c0 c1 c0' c1'; have r4 := mul_bd c0 c1 d0' d1'
 have s1 := mul_bd d0 d1 a0' a1'; have s2 := mul_bd d0 d1 b0' b1'; have s3 := mul_bd d0 d1 c0' c1'; have s4 := mul_bd d0 d1 d0' d1'
 generalize A * B = M at *
 unfold Nm.mulR
 exact ⟨by dsimp only; omega, by dsimp only; omega, by dsimp only; omega, by dsimp only; omega, by dsimp only; omega, by dsimp only; omega, by dsimp only; omega, by dsimp only; omega⟩
theorem mulR_tl (x y : Nm) : x.tr.mulR y = (x.mulR y).tr := by
 unfold Nm.mulR Nm.tr
 congr 1 <;> grind
theorem mulR_tr (x y : Nm) : x.mulR y.tr = (x.mulR y).tr := by
 unfold Nm.mulR Nm.tr
 congr 1 <;> grind
theorem mulR_ul : ∀ (n : Nat) (x y : Nm), (Nm.up n x).mulR y = Nm.up n (x.mulR y)
  | 0, _, _ => rfl
  | n + 1, x, y => by
    show (Nm.up n x.tr).mulR y = Nm.up n (x.mulR y).tr
    rw [mulR_ul n, mulR_tl]
theorem mulR_ur : ∀ (n : Nat) (x y : Nm), x.mulR (Nm.up n y) = Nm.up n (x.mulR y)
  | 0, _, _ => rfl
  | n + 1, x, y => by
    show x.mulR (Nm.up n y.tr) = Nm.up n (x.mulR y).tr
    rw [mulR_ur n, mulR_tr]
theorem mulR_to {x y : Nm} {m n : Int} (hx : x.k ≤ m) (hy : y.k ≤ n) : (x.to m).mulR (y.to n) = (x.mulR y).to (m + n) := by
 have e : (x.mulR y).k = x.k + y.k := rfl
 unfold Nm.to
 rw [mulR_ul, mulR_ur, Nm.up_add, e]
 congr 1
 omega
structure Bd (n : Nat) (M : Int) (z : Nm) : Prop where
  k0 : 0 ≤ z.k
  k1 : z.k ≤ 40 * n
  fit : (z.to (40 * n)).Fit M
theorem Bd.self {n : Nat} {M : Int} {z : Nm} (h : Bd n M z) : z.Fit M := up_down _ h.fit
theorem Bd.mul {n : Nat} {M : Int} {x z : Nm} (hx : x.Ok) (h : Bd n M z) : Bd (n + 1) (4503599627370496 * M) (x.mulR z) := by
 have hf : (x.to 40).Fit 1048576000000000 := by unfold Nm.to; exact Nm.up40_fit hx.fit (by have := hx.k0; omega)
 have h0 := hx.k0; have h1 := hx.k1; have h2 := h.k0; have h3 := h.k1
 have ek : (x.mulR z).k = x.k + z.k := rfl
 have e := mulR_to hx.k1 h.k1
 have e2 : (40 : Int) + 40 * n = 40 * ((n + 1 : Nat) : Int) := by simp only [Int.natCast_add]; omega
 rw [e2] at e
 have hM : 0 ≤ M := by have := h.fit.a0; have := h.fit.a1; omega
 refine ⟨by omega, by omega, ?_⟩
 rw [← e]
 exact Nm.fit_mono (mulR_fitG hf h.fit) (by omega)
theorem sumN_bd {n : Nat} {M : Int} (f : Nat → Nm) (hM : 0 ≤ M) : ∀ m, (∀ k, k < m → Bd n M (f k)) → Bd n (m * M) (sumN m f)
  | 0, _ => by
    have e : ∀ j, ((Nm.up j Nm.zero).a = 0 ∧ (Nm.up j Nm.zero).b = 0) ∧ (Nm.up j Nm.zero).c = 0 ∧ (Nm.up j Nm.zero).d = 0 := by
      intro j
      induction j with
      | zero => exact ⟨⟨rfl, rfl⟩, rfl, rfl⟩
      | succ j ih =>
        rw [Nm.up, Nm.up_tr]
        simp only [Nm.tr]
        omega
    have e := e (40 * (n : Int) - Nm.zero.k).toNat
    refine ⟨by show (0 : Int) ≤ 0; omega, by show (0 : Int) ≤ 40 * n; omega, ?_⟩
    unfold Nm.to
    show Nm.Fit ((0 : Nat) * M) (Nm.up (40 * (n : Int) - Nm.zero.k).toNat Nm.zero)
    exact ⟨by omega, by omega, by omega, by omega, by omega, by omega, by omega, by omega⟩
  | m + 1, h => by
    have ih := sumN_bd f hM m fun k hk => h k (by omega)
    have h1 := h m (by omega)
    have e := addR_to ih.k1 h1.k1
    refine ⟨addR_k ih.k0, e.1, ?_⟩
    show (((sumN m f).addR (f m)).to _).Fit _
    rw [e.2]
    refine Nm.fit_mono (pl_fit ih.fit h1.fit) ?_
    rw [Int.natCast_add, Int.add_mul]
    omega
theorem Bd.mono {n : Nat} {M M' : Int} {z : Nm} (h : Bd n M z) (hM : M ≤ M') : Bd n M' z := ⟨h.k0, h.k1, Nm.fit_mono h.fit hM⟩
def Sq (n : Nat) (l : List (List Nm)) : Prop := ∀ s ∈ l, s.length = n ∧ ∀ z ∈ s, z.Ok
theorem Sq.tail {n : Nat} {l : List (List Nm)} (h : Sq n l) : Sq n l.tail := fun s hs => h s (List.mem_of_mem_tail hs)
set_option maxHeartbeats 1000000
def sumS : Nat → (Nat → Nat → Int) → Nat → Int
  | 0, _ => fun _ => 0
  | m + 1, f => fun j => sumS m f j + f m j
def wyS (A : Nat → Nat → Nat → Int) (n : Nat) : Nat → Nat → Nat → Int
  | 0, _ => sel4 1 0 0 0
  | c + 1, S => sumS n fun k => if S.testBit k then acc (wyS A n c (S - 2 ^ k)) (A c k) 16 else fun _ => 0
def nmF (T : Nat → Int) (k : Int) : Nm := ⟨T 0, T 1, T 2, T 3, k⟩
def co4 (z : Nm) : Nat → Int := sel4 z.a z.b z.c z.d
theorem val_pl {x y : Nm} (h : x.k = y.k) : (x.pl y).val = x.val + y.val := by
 unfold Nm.val Nm.pl
 dsimp only
 rw [← h, ← Q4.dn_add]
 congr 1
 apply Q4.ext' <;> simp only [Nm.co, Q4.aa, Q4.ab, Q4.ac, Q4.ad, Rat.intCast_add]
theorem dh_zero' : Q4.dh 0 = 0 := by
 apply Q4.ext' <;> simp only [Q4.dh, Q4.za, Q4.zb, Q4.zc, Q4.zd] <;> grind
theorem dn_zero' : ∀ n, Q4.dn n 0 = 0
  | 0 => rfl
  | n + 1 => by
    show Q4.dn n (Q4.dh 0) = 0
    rw [dh_zero']; exact dn_zero' n
theorem nmF_zero (k : Int) : (nmF (fun _ => 0) k).val = 0 := dn_zero' _
theorem sumS_val (f : Nat → Nat → Int) (K : Int) : ∀ m, (nmF (sumS m f) K).val = sumQ m fun k => (nmF (f k) K).val
  | 0 => nmF_zero K
  | m + 1 => by
    show (Nm.pl (nmF (sumS m f) K) (nmF (f m) K)).val = sumQ m _ + _
    rw [val_pl (x := nmF (sumS m f) K) (y := nmF (f m) K) rfl, sumS_val f K m]
theorem acc_cong {X X' Y : Nat → Int} (h : ∀ i, i < 4 → X i = X' i) : ∀ n j, n ≤ 16 → acc X Y n j = acc X' Y n j
  | 0, _, _ => rfl
  | n + 1, j, hn => by
    unfold acc
    rw [acc_cong h n j (by omega), h (n / 4) (by omega)]
theorem acc_nm (T : Nat → Int) (k : Int) (z : Nm) : nmF (acc T (co4 z) 16) (k + z.k) = (nmF T k).mulR z := by
 have e := acc_16 (nmF T k) z
 have hT : ∀ i, i < 4 → T i = sel4 (nmF T k).a (nmF T k).b (nmF T k).c (nmF T k).d i := by
  intro i hi
  rcases (by omega : i = 0 ∨ i = 1 ∨ i = 2 ∨ i = 3) with rfl | rfl | rfl | rfl <;> rfl
 rw [← e]
 unfold nmF co4
 rw [acc_cong hT 16 0 (by omega), acc_cong hT 16 1 (by omega), acc_cong hT 16 2 (by omega), acc_cong hT 16 3 (by omega)]
 rfl
section
variable {a : Nat → Nat → Nm} {K : Int} {n : Nat}
theorem wyS_val (hn : n ≤ 6) (hK : 0 ≤ K) (h : ∀ i k, i < n → k < n → 0 ≤ (a i k).k ∧ (a i k).k ≤ K) : ∀ c S, c ≤ n → (nmF (wyS (fun i k => co4 ((a i k).to K)) n c S) (c * K)).val = wyQ (fun i k => (a i k).val) n c S
  | 0, S, _ => by
    show (nmF (sel4 1 0 0 0) (((0 : Nat) : Int) * K)).val = 1
    rw [show ((0 : Nat) : Int) * K = 0 by simp]
    exact val_one
  | c + 1, S, hc => by
    show (nmF (sumS n _) _).val = sumQ n _
    rw [sumS_val]
    refine sumQ_congr fun k hk => ?_
    by_cases hb : S.testBit k = true
    · rw [if_pos hb, if_pos hb]
      obtain ⟨h0, h1⟩ := h c k (by omega) hk
      have ek := Nm.to_k (z := a c k) (m := K) h1
      have e := acc_nm (wyS (fun i k => co4 ((a i k).to K)) n c (S - 2 ^ k)) (c * K) ((a c k).to K)
      rw [ek] at e
      have e2 : ((c + 1 : Nat) : Int) * K = c * K + K := by rw [Int.natCast_add, Int.add_mul]; simp
      have hcK : 0 ≤ (c : Int) * K := Int.mul_nonneg (by omega) hK
      rw [e2, e, val_mulR (by show 0 ≤ (c : Int) * K; exact hcK) (by omega), wyS_val hn hK h c _ (by omega), to_up h0]
    · rw [if_neg hb, if_neg hb]
      exact nmF_zero _
end
def Be : Nat → Int
  | 0 => 1
  | c + 1 => 144115188075855872 * Be c
theorem Be_pos : ∀ n, 1 ≤ Be n
  | 0 => by show (1 : Int) ≤ 1; omega
  | n + 1 => by have := Be_pos n; show 1 ≤ 144115188075855872 * Be n; omega
theorem sumS_bd (f : Nat → Nat → Int) {M : Int} (j : Nat) : ∀ m, (∀ k, k < m → -M ≤ f k j ∧ f k j ≤ M) → -(m * M) ≤ sumS m f j ∧ sumS m f j ≤ m * M
  | 0, _ => by show -(((0 : Nat) : Int) * M) ≤ 0 ∧ 0 ≤ ((0 : Nat) : Int) * M; omega
  | m + 1, h => by
    have ih := sumS_bd f j m fun k hk => h k (by omega)
    have h1 := h m (by omega)
    have e : ((m + 1 : Nat) : Int) * M = m * M + M := by rw [Int.natCast_add, Int.add_mul]; simp
    show -(((m + 1 : Nat) : Int) * M) ≤ sumS m f j + f m j ∧ sumS m f j + f m j ≤ ((m + 1 : Nat) : Int) * M
    omega
theorem wyS_bd {A : Nat → Nat → Nat → Int} {n : Nat} (hn : n ≤ 6) (hA : ∀ i k j, i < n → k < n → j < 4 → -1048576000000000 ≤ A i k j ∧ A i k j ≤ 1048576000000000) : ∀ c S j, c ≤ n → j < 4 → -(Be c) ≤ wyS A n c S j ∧ wyS A n c S j ≤ Be c
  | 0, S, j, _, hj => by
    show -(1 : Int) ≤ sel4 1 0 0 0 j ∧ sel4 1 0 0 0 j ≤ (1 : Int)
    rcases (by omega : j = 0 ∨ j = 1 ∨ j = 2 ∨ j = 3) with rfl | rfl | rfl | rfl <;> decide
  | c + 1, S, j, hc, hj => by
    have hB := Be_pos c
    have key : ∀ k, k < n → -(16 * (Be c * 1048576000000000)) ≤ (if S.testBit k then acc (wyS A n c (S - 2 ^ k)) (A c k) 16 else fun _ => 0) j ∧ (if S.testBit k then acc (wyS A n c (S - 2 ^ k)) (A c k) 16 else fun _ => 0) j ≤ 16 * (Be c * 1048576000000000) := by
      intro k hk
      split
      · have := acc_bound (X := wyS A n c (S - 2 ^ k)) (Y := A c k) (M := Be c * 1048576000000000) (by omega) (fun i l hi hl => by
          have h1 := wyS_bd hn hA c (S - 2 ^ k) i (by omega) hi
          have h2 := hA c k l (by omega) hk hl
          exact mul_bd h1.1 h1.2 h2.1 h2.2) 16 j (by omega)
        exact this
      · dsimp only; omega
    have := sumS_bd (M := 16 * (Be c * 1048576000000000)) _ j n key
    show -(144115188075855872 * Be c) ≤ sumS n _ j ∧ sumS n _ j ≤ 144115188075855872 * Be c
    have e := Int.mul_le_mul_of_nonneg_right (show (n : Int) ≤ 6 by omega) (show 0 ≤ 16 * (Be c * 1048576000000000) by omega)
    omega
open Go.RowKit
section
variable {P : Program} {ops : Array Oper} {Q : Exit → Act → World → Prop} {B : World} {F : List Nat} {z : List Blk}
theorem rt_inv (J : Nat → Array Bool → Act → List Blk → Prop)
    (step : ∀ n listed a s, J (n + 1) listed a s → Region.ready .any ops listed ≠ [] ∧ ∀ i ∈ Region.ready .any ops listed, ∃ o, ops[i]? = some o ∧
      Rg none P ops (Exit.then (fun a' w' => ∃ s', Kn B F s' w' ∧ z.Sublist s' ∧ J n (listed.setIfInBounds i true) a' s') Q) B F (some (z, z)) [(o, 1)] a s)
    (fin : ∀ listed a s, J 0 listed a s → Region.ready .any ops listed = [] ∧ Ek B F Q .normal a s) : ∀ n listed a s, J n listed a s → RT P ops Q B F z n listed a s
  | 0, listed, a, s, h => fun w K => ⟨(fin listed a s h).1, (fin listed a s h).2 w K⟩
  | n + 1, listed, a, s, h => fun w K => by
    obtain ⟨hne, hst⟩ := step n listed a s h
    refine wpAnyH_all rfl hne fun i hi => ?_
    obtain ⟨o, ho, hr⟩ := hst i hi
    refine wpOp_of_list ho ?_
    rcases hr with hr | ⟨hn, _⟩
    · refine hop_list (hop_mono ?_ (hop_panic (Q1 := Exit.then (fun a' w' => ∃ s', Kn B F s' w' ∧ z.Sublist s' ∧ J n (listed.setIfInBounds i true) a' s') Q) (Q := Q) (fun c a w h => h) (fun ⟨a₀, w₀, h₀⟩ => ⟨a₀, w₀, h₀⟩) (hr w K)))
      rintro a' w' ⟨s', K', _, h'⟩
      obtain ⟨s2, K2, hz2, hJ⟩ := h' w' K'
      exact ⟨K2.sub hz2, rt_inv J step fin n _ a' s2 hJ w' K2⟩
    · cases hn
end
def b4 (b : Nat → Bool) : List Bool := [b 0, b 1, b 2, b 3]
def st4 (b0 b1 b2 b3 : Bool) (k : Nat) : Array Bool := #[true, true, true, true, true, true, true, true, b0, b1, b2, b3, decide (0 < k), decide (1 < k), decide (2 < k), decide (3 < k)]
def ok4 (ops : Array Oper) (b0 b1 b2 b3 : Bool) (k : Nat) : Bool :=
  let r := Region.ready .any ops (st4 b0 b1 b2 b3 k)
  (r.isEmpty == (b0 && b1 && b2 && b3 && k == 4)) && r.all fun i => (decide (8 ≤ i) && decide (i < 12) && !([b0, b1, b2, b3].getD (i - 8) true)) || (decide (i = 12 + k) && decide (k < 4) && [b0, b1, b2, b3].getD k false)
def bools : List Bool := [false, true]
def chk4 (ops : Array Oper) : Bool := bools.all fun b0 => bools.all fun b1 => bools.all fun b2 => bools.all fun b3 => [0, 1, 2, 3, 4].all fun k => !(([b0, b1, b2, b3].take k).all id) || ok4 ops b0 b1 b2 b3 k
theorem chk4_at {ops : Array Oper} (h : chk4 ops = true) (b0 b1 b2 b3 : Bool) {k : Nat} (hk : k ≤ 4) (hb : (([b0, b1, b2, b3].take k).all id) = true) : ok4 ops b0 b1 b2 b3 k = true := by
  unfold chk4 at h
  have mb : ∀ b : Bool, b ∈ bools := fun b => by cases b <;> simp [bools]
  have h1 := List.all_eq_true.1 h b0 (mb b0)
  have h2 := List.all_eq_true.1 h1 b1 (mb b1)
  have h3 := List.all_eq_true.1 h2 b2 (mb b2)
  have h4 := List.all_eq_true.1 h3 b3 (mb b3)
  have h5 := List.all_eq_true.1 h4 k (by have : k = 0 ∨ k = 1 ∨ k = 2 ∨ k = 3 ∨ k = 4 := by omega
                                         rcases this with rfl | rfl | rfl | rfl | rfl <;> simp)
  rw [hb] at h5
  simpa using h5
def put4 (a : Act) (v : Nat → Value) : Act := ⟨(((a.tmps.setIfInBounds 6 (v 0)).setIfInBounds 7 (v 1)).setIfInBounds 8 (v 2)).setIfInBounds 9 (v 3), a.defers⟩
theorem put4_put (a : Act) (v : Nat → Value) (x : Value) {j : Nat} (hj : j < 4) : (put4 a v).put (some (6 + j)) x = put4 a (upd v j x) := by
 unfold put4 Act.put
 dsimp only
 congr 1
 refine Array.ext_getElem? fun i => ?_
 rcases lt4 hj with rfl | rfl | rfl | rfl <;> simp only [Array.getElem?_setIfInBounds, Array.size_setIfInBounds, upd] <;>
  by_cases h6 : 6 = i <;> by_cases h7 : 7 = i <;> by_cases h8 : 8 = i <;> by_cases h9 : 9 = i <;> simp [h6, h7, h8, h9] <;> omega
theorem put4_t (a : Act) (v : Nat → Value) (h : 10 ≤ a.tmps.size) {j : Nat} (hj : j < 4) : (put4 a v).eval (.tmp (6 + j)) = v j := by
 unfold put4 Act.eval
 dsimp only
 have h6 : 6 < a.tmps.size := by omega
 have h7 : 7 < a.tmps.size := by omega
 have h8 : 8 < a.tmps.size := by omega
 have h9 : 9 < a.tmps.size := by omega
 rcases lt4 hj with rfl | rfl | rfl | rfl <;> simp [Array.getD_eq_getD_getElem?, Array.getElem?_setIfInBounds, h6, h7, h8, h9]
theorem put4_r (a : Act) (v : Nat → Value) {j : Nat} (hj : 10 ≤ j) : (put4 a v).eval (.tmp j) = a.eval (.tmp j) := by
 unfold put4 Act.eval
 dsimp only
 have h6 : 6 ≠ j := by omega
 have h7 : 7 ≠ j := by omega
 have h8 : 8 ≠ j := by omega
 have h9 : 9 ≠ j := by omega
 simp [Array.getD_eq_getD_getElem?, Array.getElem?_setIfInBounds, h6, h7, h8, h9]
def X4 (T : Nat) (z0 : Array Value) (c : Nat → List Value) (g : Nat → Nat) (b : Nat → Bool) (k j : Nat) : List Blk := if b j then [(g j, .cells (if j < k then (c j).toArray else z0) T)] else []
def cnt4 (b : Nat → Bool) : Nat := (if b 0 then 0 else 1) + (if b 1 then 0 else 1) + (if b 2 then 0 else 1) + (if b 3 then 0 else 1)
def L4 (X : Nat → List Blk) (s : List Blk) : List Blk := X 0 ++ (X 1 ++ (X 2 ++ (X 3 ++ s)))
theorem L4_add {X Y : Nat → List Blk} {x : Blk} {s : List Blk} {j : Nat} (hj : j < 4) (h0 : X j = []) (h1 : Y j = [x]) (h : ∀ i, i < 4 → i ≠ j → Y i = X i) : (x :: L4 X s).Perm (L4 Y s) := by
 unfold L4
 rcases lt4 hj with rfl | rfl | rfl | rfl
 ·rw [h0, h1, h 1 (by decide) (by decide), h 2 (by decide) (by decide), h 3 (by decide) (by decide)]; exact List.Perm.refl _
 ·rw [h0, h1, h 0 (by decide) (by decide), h 2 (by decide) (by decide), h 3 (by decide) (by decide)]; exact List.perm_middle.symm
 ·rw [h0, h1, h 0 (by decide) (by decide), h 1 (by decide) (by decide), h 3 (by decide) (by decide)]
  exact List.perm_middle.symm.trans (List.Perm.append_left _ List.perm_middle.symm)
 ·rw [h0, h1, h 0 (by decide) (by decide), h 1 (by decide) (by decide), h 2 (by decide) (by decide)]
  exact List.perm_middle.symm.trans (List.Perm.append_left _ (List.perm_middle.symm.trans (List.Perm.append_left _ List.perm_middle.symm)))
theorem L4_upd {X Y : Nat → List Blk} {g T i : Nat} {vs : List Value} {cs : Array Value} {s : List Blk} {j : Nat} (hj : j < 4) (hi : i + vs.length ≤ cs.size) (h0 : X j = [(g, .cells cs T)]) (h1 : Y j = [(g, .cells (setMany cs i vs) T)]) (h : ∀ i, i < 4 → i ≠ j → Y i = X i) : UpdR g i vs (L4 X s) (L4 Y s) := by
 unfold L4
 rcases lt4 hj with rfl | rfl | rfl | rfl
 ·rw [h0, h1, h 1 (by decide) (by decide), h 2 (by decide) (by decide), h 3 (by decide) (by decide)]; exact UpdR.here _ _ _ hi
 ·rw [h0, h1, h 0 (by decide) (by decide), h 2 (by decide) (by decide), h 3 (by decide) (by decide)]; exact UpdR.app _ (UpdR.here _ _ _ hi)
 ·rw [h0, h1, h 0 (by decide) (by decide), h 1 (by decide) (by decide), h 3 (by decide) (by decide)]; exact UpdR.app _ (UpdR.app _ (UpdR.here _ _ _ hi))
 ·rw [h0, h1, h 0 (by decide) (by decide), h 1 (by decide) (by decide), h 2 (by decide) (by decide)]; exact UpdR.app _ (UpdR.app _ (UpdR.app _ (UpdR.here _ _ _ hi)))
theorem L4_sub (X : Nat → List Blk) (s : List Blk) : s.Sublist (L4 X s) :=
  (List.sublist_append_right _ _).trans ((List.sublist_append_right _ _).trans ((List.sublist_append_right _ _).trans (List.sublist_append_right _ _)))
section
variable {ops : Array Oper} {Q : Exit → Act → World → Prop} {B : World} {F : List Nat}
theorem rg_perm {R : Option Nat} {P : Program} {o : Oper} {a : Act} {s s' : List Blk} {zz : List Blk × List Blk} (hp : s.Perm s') (h : Rg R P ops Q B F (some zz) [(o, 1)] a s') : Rg R P ops Q B F (some zz) [(o, 1)] a s := by
 rcases h with h | ⟨hn, _⟩
 ·exact .inl fun w K => h w (K.perm hp)
 ·cases hn
theorem rt_4 {P : Program} {T : Nat} {z0 : Array Value} {c : Nat → List Value} {a1 : Act} {s : List Blk} (hchk : chk4 ops = true) (hsz : 10 ≤ a1.tmps.size)
    (hop : ∀ j, j < 4 → (∃ ty p af, ops[8 + j]? = some ⟨some (6 + j), .alloc T, ty, p, af, none⟩) ∧ ∃ ty p af, ops[12 + j]? = some ⟨none, .store T (.tmp (6 + j)) (.tmp (36 + 2 * j)), ty, p, af, none⟩)
    (halloc : ∀ (ev : Operand → Value) d ty p af (w : World), (execOp ev ⟨d, .alloc T, ty, p, af, none⟩).run P w = .ok (.value (.pointer (some ⟨w.heap.size, 0, none⟩))) (w.alloc (.cells z0 T)))
    (hc : ∀ j, j < 4 → a1.eval (.tmp (36 + 2 * j)) = .agg (c j).toArray) (hlen : ∀ j, j < 4 → (c j).length = z0.size) (hT : (P.info? T).map (·.size) = some z0.size) (h1 : ∀ j, j < 4 → (c j).all (·.oneCell') = true)
    (hset : ∀ j, j < 4 → setMany z0 0 (c j) = (c j).toArray) (hv : put4 a1 (fun j => a1.eval (.tmp (6 + j))) = a1)
    (k : ∀ g0 g1 g2 g3, Ek B F Q .normal (put4 a1 (sel4 (.pointer (some ⟨g0, 0, none⟩)) (.pointer (some ⟨g1, 0, none⟩)) (.pointer (some ⟨g2, 0, none⟩)) (.pointer (some ⟨g3, 0, none⟩)))) ((g0, .cells (c 0).toArray T) :: (g1, .cells (c 1).toArray T) :: (g2, .cells (c 2).toArray T) :: (g3, .cells (c 3).toArray T) :: s)) :
    RT P ops Q B F s 8 (st4 false false false false 0) a1 s := by
  refine rt_inv (fun n listed a s' => ∃ (b : Nat → Bool) (k : Nat) (g : Nat → Nat) (v : Nat → Value), k ≤ 4 ∧ (∀ j, j < k → b j = true) ∧ listed = st4 (b 0) (b 1) (b 2) (b 3) k ∧ n = cnt4 b + (4 - k) ∧ a = put4 a1 v ∧ (∀ j, j < 4 → b j = true → v j = .pointer (some ⟨g j, 0, none⟩)) ∧ s'.Perm (L4 (X4 T z0 c g b k) s)) ?_ ?_ 8 _ a1 s
    ⟨fun _ => false, 0, fun _ => 0, fun j => a1.eval (.tmp (6 + j)), by omega, fun j hj => by omega, rfl, rfl, hv.symm, (fun j _ h => nomatch h), List.Perm.refl _⟩
  · rintro n listed a s' ⟨b, k0, g, v, hk, hb, rfl, hn, rfl, hg, hp⟩
    have hall : (([b 0, b 1, b 2, b 3].take k0).all id) = true := by
      have : k0 = 0 ∨ k0 = 1 ∨ k0 = 2 ∨ k0 = 3 ∨ k0 = 4 := by omega
      rcases this with rfl | rfl | rfl | rfl | rfl <;> simp_all
    have hok := chk4_at hchk (b 0) (b 1) (b 2) (b 3) hk hall
    unfold ok4 at hok
    simp only [Bool.and_eq_true] at hok
    obtain ⟨hempty, hready⟩ := hok
    refine ⟨fun he => ?_, fun i hi => ?_⟩
    · rw [he] at hempty
      have : (b 0 && b 1 && b 2 && b 3 && k0 == 4) = true := by simpa using hempty
      simp only [Bool.and_eq_true, beq_iff_eq] at this
      unfold cnt4 at hn
      rw [if_pos this.1.1.1.1, if_pos this.1.1.1.2, if_pos this.1.1.2, if_pos this.1.2] at hn
      omega
    · have hi' := List.all_eq_true.1 hready i hi
      simp only [Bool.or_eq_true, Bool.and_eq_true, decide_eq_true_eq, Bool.not_eq_true'] at hi'
      rcases hi' with ⟨⟨h8, h12⟩, hbj⟩ | ⟨⟨rfl, hk4⟩, hbk⟩
      · obtain ⟨j, rfl⟩ : ∃ j, i = 8 + j := ⟨i - 8, by omega⟩
        have hj : j < 4 := by omega
        have hbj' : b j = false := by
          rw [show 8 + j - 8 = j by omega] at hbj
          rcases lt4 hj with rfl | rfl | rfl | rfl <;> simpa using hbj
        obtain ⟨⟨ty, p, af, ho⟩, _⟩ := hop j hj
        refine ⟨_, ho, rg_perm hp (rg_new (cs := z0) (ty := T) Rx (fun w => halloc _ _ _ _ _ w) (fun _ h => by cases h; exact (L4_sub _ _).trans (List.Sublist.refl _)) fun g' => ?_)⟩
        intro w K
        have hkj : k0 ≤ j := Nat.le_of_not_lt fun h => by have := hb j h; rw [hbj'] at this; cases this
        have hX0 : X4 T z0 c g b k0 j = [] := by unfold X4; rw [if_neg (by rw [hbj']; decide)]
        have hX1 : X4 T z0 c (upd g j g') (upd b j true) k0 j = [(g', .cells z0 T)] := by
          unfold X4
          rw [upd_same, upd_same, if_pos rfl, if_neg Ox]
        have hXo : ∀ i, i < 4 → i ≠ j → X4 T z0 c (upd g j g') (upd b j true) k0 i = X4 T z0 c g b k0 i := fun i _ hne => by
          unfold X4
          rw [upd_other b true hne, upd_other g g' hne]
        refine ⟨_, K.perm (L4_add hj hX0 hX1 hXo), L4_sub _ _, upd b j true, k0, upd g j g', upd v j (.pointer (some ⟨g', 0, none⟩)), hk, fun i hi => ?_, ?_, ?_, put4_put a1 v _ hj, fun i hi hbi => ?_, List.Perm.refl _⟩
        · by_cases e : i = j
          · omega
          · rw [upd_other b true e]; exact hb i hi
        · rcases lt4 hj with rfl | rfl | rfl | rfl <;> rfl
        · unfold cnt4 at hn ⊢
          rcases lt4 hj with rfl | rfl | rfl | rfl <;> simp [upd, hbj'] at hn ⊢ <;> omega
        · by_cases e : i = j
          · subst e; rw [upd_same, upd_same]
          · rw [upd_other v _ e, upd_other g _ e]; rw [upd_other b true e] at hbi; exact hg i hi hbi
      · have hbk' : b k0 = true := by rcases lt4 hk4 with rfl | rfl | rfl | rfl <;> simpa using hbk
        obtain ⟨_, ty, p, af, ho⟩ := hop k0 hk4
        have hX0 : X4 T z0 c g b k0 k0 = [(g k0, .cells z0 T)] := by unfold X4; rw [if_pos hbk', if_neg Ox]
        have hX1 : X4 T z0 c g b (k0 + 1) k0 = [(g k0, .cells (setMany z0 0 (c k0)) T)] := by unfold X4; rw [if_pos hbk', if_pos Ox, hset k0 hk4]
        have hXo : ∀ i, i < 4 → i ≠ k0 → X4 T z0 c g b (k0 + 1) i = X4 T z0 c g b k0 i := fun i _ hne => by
          have e : (i < k0 + 1) ↔ i < k0 := by omega
          unfold X4
          simp only [e]
        refine ⟨_, ho, rg_perm hp (rf_storeR (n := z0.size) (vs := c k0) ((put4_t a1 v hsz hk4).trans (hg k0 hk4 hbk')) ((put4_r a1 v Ox).trans (hc k0 hk4)) hT (hlen k0 hk4) (h1 k0 hk4) (L4_upd hk4 (by rw [hlen k0 hk4]; omega) hX0 hX1 hXo) (fun _ h => by cases h; exact L4_sub _ _) ?_)⟩
        intro w K
        refine ⟨_, K, L4_sub _ _, b, k0 + 1, g, v, by omega, fun i hi => ?_, ?_, ?_, rfl, hg, List.Perm.refl _⟩
        · rcases (by omega : i < k0 ∨ i = k0) with h | rfl
          · exact hb i h
          · exact hbk'
        · rcases lt4 hk4 with rfl | rfl | rfl | rfl <;> rfl
        · omega
  · rintro listed a s' ⟨b, k0, g, v, hk, hb, rfl, hn, rfl, hg, hp⟩
    have hk4 : k0 = 4 := by omega
    subst hk4
    have hc0 : cnt4 b = 0 := by omega
    have hok := chk4_at hchk (b 0) (b 1) (b 2) (b 3) hk (by simp [hb 0, hb 1, hb 2, hb 3])
    unfold ok4 at hok
    simp only [Bool.and_eq_true] at hok
    have e0 := hb 0 (by decide); have e1 := hb 1 (by decide); have e2 := hb 2 (by decide); have e3 := hb 3 (by decide)
    refine ⟨?_, ek_perm hp ?_⟩
    · have := hok.1
      rw [e0, e1, e2, e3] at this ⊢
      simpa using this
    · have hX : L4 (X4 T z0 c g b 4) s = (g 0, .cells (c 0).toArray T) :: (g 1, .cells (c 1).toArray T) :: (g 2, .cells (c 2).toArray T) :: (g 3, .cells (c 3).toArray T) :: s := by
        unfold L4 X4
        rw [e0, e1, e2, e3]
        rfl
      rw [hX]
      have hp4 : put4 a1 v = put4 a1 (sel4 (.pointer (some ⟨g 0, 0, none⟩)) (.pointer (some ⟨g 1, 0, none⟩)) (.pointer (some ⟨g 2, 0, none⟩)) (.pointer (some ⟨g 3, 0, none⟩))) := by
        unfold put4
        rw [hg 0 (by decide) e0, hg 1 (by decide) e1, hg 2 (by decide) e2, hg 3 (by decide) e3]
        rfl
      rw [hp4]
      exact k (g 0) (g 1) (g 2) (g 3)
end
theorem arr_eqIn (a b c d a' b' c' d' : Int) (w : World) : (Op.equalIn 9999 42 (.agg #[.int .i64 a, .int .i64 b, .int .i64 c, .int .i64 d]) (.agg #[.int .i64 a', .int .i64 b', .int .i64 c', .int .i64 d'])).run Tryz.prog w = .ok (decide (a = a' ∧ b = b' ∧ c = c' ∧ d = d')) w := by
 have u3 := UU3
 have a3 := Tryz.isAgg3
 have z3 := Tryz.sizeOf3
 rw [show (9999 : Nat) = 9998 + 1 from rfl, Op.equalIn]
 simp only [Sem.run_bind, run_underlying UU42, Result.andThen_ok]
 simp only [Std.Legacy.Range.forIn_eq_forIn_range', Std.Legacy.Range.size, Nat.sub_zero, Nat.add_sub_cancel, Nat.div_one, List.range'_succ, List.range'_zero, List.forIn_cons, List.forIn_nil]
 go_simp
 by_cases h1 : a = a' <;> by_cases h2 : b = b' <;> by_cases h3 : c = c' <;> by_cases h4 : d = d' <;> simp [h1, h2, h3, h4]
theorem nm_eqIn (x y : Nm) (w : World) : (Op.equalIn 10000 44 (nmV x) (nmV y)).run Tryz.prog w = .ok (decide (x = y)) w := by
 have u3 := UU3
 have a3 := Tryz.isAgg3
 have z3 := Tryz.sizeOf3
 have a4 := Tryz.isAgg42
 have z4 := Tryz.sizeOf42
 have hS : Tryz.prog.underlying 44 = some (.struct (Tryz.prog.fieldsOf 44)) := by kernel_rfl
 have hp : Tryz.prog.stoodInHeld 44 = false := by kernel_rfl
 have hA := arr_eqIn x.a x.b x.c x.d y.a y.b y.c y.d
 obtain ⟨xa, xb, xc, xd, xk⟩ := x
 obtain ⟨ya, yb, yc, yd, yk⟩ := y
 dsimp only at hA
 rw [show (10000 : Nat) = 9999 + 1 from rfl, run_equalIn_agg w 9999 44 _ _ hS hp]
 simp only [Program.fieldsOf, UU44]
 go_simp
 by_cases h1 : xa = ya <;> by_cases h2 : xb = yb <;> by_cases h3 : xc = yc <;> by_cases h4 : xd = yd <;> by_cases h5 : xk = yk <;> simp [h1, h2, h3, h4, h5]
theorem nm_guard (op : BinOp) (u v : Operand) (x y : Nm) (w : World) : (eqGuard op 44 u v (nmV x) (nmV y)).run Tryz.prog w = .ok () w := by
 have h : (Tryz.prog.eqGuardType Tryz.prog.depth 44) = false := by kernel_rfl
 unfold eqGuard
 cases op <;> simp [h]
section
variable {R : Option Nat} {ops : Array Oper} {Q : Exit → Act → World → Prop} {B : World} {F : List Nat} {s0 : Option (List Blk × List Blk)}
variable {l : List (Oper × Nat)} {a : Act} {s : List Blk} {d : Option Tmp} {t : TypeId} {p : String} {af : Array Edge} {gd : Option (Nat × Bool)} {m : Nat}
theorem rf_eqN {x y : Operand} {z : TypeId} {u v : Nm} (hm : soft03 m = true) (hg : Region.wanted ⟨d, .binOp .eql 44 x y z, t, p, af, gd⟩ (yielded ops a.tmps) = true)
    (hx : a.eval x = nmV u) (hy : a.eval y = nmV v) (h : Rg R Tryz.prog ops Q B F s0 l (a.put d (.bool (decide (u = v)))) s) : Rg R Tryz.prog ops Q B F s0 ((⟨d, .binOp .eql 44 x y z, t, p, af, gd⟩, m) :: l) a s := by
  refine rg_any hm hg (fun w => ?_) h
  unfold Yld
  have hb : (binOp .eql 44 (nmV u) (nmV v)).run Tryz.prog w = .ok (.bool (decide (u = v))) w := by rw [run_eql_struct, nm_eqIn]; rfl
  have hgd := nm_guard .eql x y u v w
  show ((eqGuard .eql _ x y (a.eval x) (a.eval y) >>= fun _ => binOp .eql _ (a.eval x) (a.eval y)) >>= fun r => pure (Next.value r)).run Tryz.prog w = _
  rw [hx, hy, Sem.run_bind, Sem.run_bind, hgd, Result.andThen_ok, hb]
  rfl
theorem rf_neN {x y : Operand} {z : TypeId} {u v : Nm} (hm : soft03 m = true) (hg : Region.wanted ⟨d, .binOp .neq 44 x y z, t, p, af, gd⟩ (yielded ops a.tmps) = true)
    (hx : a.eval x = nmV u) (hy : a.eval y = nmV v) (h : Rg R Tryz.prog ops Q B F s0 l (a.put d (.bool (!decide (u = v)))) s) : Rg R Tryz.prog ops Q B F s0 ((⟨d, .binOp .neq 44 x y z, t, p, af, gd⟩, m) :: l) a s := by
  refine rg_any hm hg (fun w => ?_) h
  unfold Yld
  have hb : (binOp .neq 44 (nmV u) (nmV v)).run Tryz.prog w = .ok (.bool (!decide (u = v))) w := by rw [run_neq_struct, nm_eqIn]; rfl
  have hgd := nm_guard .neq x y u v w
  show ((eqGuard .neq _ x y (a.eval x) (a.eval y) >>= fun _ => binOp .neq _ (a.eval x) (a.eval y)) >>= fun r => pure (Next.value r)).run Tryz.prog w = _
  rw [hx, hy, Sem.run_bind, Sem.run_bind, hgd, Result.andThen_ok, hb]
  rfl
end
theorem amconj_any (z : Nm) (h : z.Fit 4611686018427387903) (w : World) : Calls Tryz.prog 81 #[nmV z] w fun e w' => e = .returned (nmV z.conj) ∧ Below w.heap.size w w' := by
 obtain ⟨fa0, fa1, fb0, fb1, fc0, fc1, fd0, fd1⟩ := h
 go_enter Tryz.func81, Tryz.ntmps81
 refine wk_start ?_
 refine wk_seq ?_
 refine Wr [1, 1] ?_
 refine Rgn fun g1 => ?_
 simp only [qz]
 refine Rgn fun g2 => ?_
 simp only [qz]
 refine Zr ?_
 refine Wr [0, 0, 0, 0, 0, 0, 0, 0, 0, 0, 0, 0, 0, 0, 0, 0, 0, 0, 0, 1] ?_
 refine Fd 3 0 UU44 ?_
 refine Ia 0 1 0 UU42 ?_
 refine rf_load rfl rfl rfl UU3 rfl (fun w hw => (Kn.hd0 (Kn.tl hw)).at rfl) (Nq ?_)
 refine Fd 3 0 UU44 ?_
 refine Ia 3 1 3 UU42 ?_
 refine rf_load rfl rfl rfl UU3 rfl (fun w hw => (Kn.hd0 (Kn.tl hw)).at rfl) (Nq ?_)
 refine rf_neg rfl rfl rfl (wrap_ok Ox Ox) (Nq ?_)
 refine Fd 3 0 UU44 ?_
 refine Ia 2 1 2 UU42 ?_
 refine rf_load rfl rfl rfl UU3 rfl (fun w hw => (Kn.hd0 (Kn.tl hw)).at rfl) (Nq ?_)
 refine rf_neg rfl rfl rfl (wrap_ok Ox Ox) (Nq ?_)
 refine Fd 3 0 UU44 ?_
 refine Ia 1 1 1 UU42 ?_
 refine rf_load rfl rfl rfl UU3 rfl (fun w hw => (Kn.hd0 (Kn.tl hw)).at rfl) (Nq ?_)
 refine rf_neg rfl rfl rfl (wrap_ok Ox Ox) (Nq ?_)
 refine rf_build (cs := fun a => #[a.eval (.tmp 5), a.eval (.tmp 9), a.eval (.tmp 13), a.eval (.tmp 17)]) rfl rfl Kx (Nq ?_)
 refine Fd 0 4 UU44 ?_
 refine rf_load rfl rfl rfl UU3 rfl (fun w hw => (Kn.hd0 (Kn.tl hw)).at rfl) (Nq ?_)
 refine rf_build (cs := fun a => #[cellAt (a.eval (.tmp 18)) 0, cellAt (a.eval (.tmp 18)) 1, cellAt (a.eval (.tmp 18)) 2, cellAt (a.eval (.tmp 18)) 3, a.eval (.tmp 20)]) rfl rfl Kx (Nq ?_)
 refine rf_storeR (n := 5) rfl rfl Kx rfl rfl (UpdR.here _ _ _ Nl) Nz (Nw ?_)
 refine Zr ?_
 refine ek_ret (fun w hw => ⟨rfl, _, run_results1 rfl rfl (Kn.hd0 hw) UU44 rfl Kx, ?_⟩)
 (try simp only [qz])
 first | exact ⟨rfl, hw.below⟩ | exact ⟨trivial, hw.below⟩ | exact hw.below
theorem and1 (x : Int) : bits .and .i64 x 1 = x % 2 := by
 show IntKind.i64.wrap ((BitVec.ofInt 64 x &&& BitVec.ofInt 64 1).toNat : Int) = _
 have h1 : (BitVec.ofInt 64 (1 : Int)).toNat = 1 := by decide
 rw [BitVec.toNat_and, h1, Nat.and_one_is_mod, BitVec.toNat_ofInt, IntKind.wrap_i64]
 omega
theorem tdiv2 {x : Int} (h : x % 2 = 0) : x.tdiv 2 = x / 2 := Int.tdiv_eq_ediv_of_dvd (Int.dvd_of_emod_eq_zero h)
set_option maxHeartbeats 4000000 in
theorem reduced_any (z : Nm) (hz : z.Fit 4611686018427387903) (hk : z.k ≤ 1000000) (w : World) : Calls Tryz.prog 95 #[nmV z] w fun e w' => e = .returned (.tuple #[nmV z.nf, .bool z.nf.small]) ∧ Below w.heap.size w w' := by
 go_enter Tryz.func95, Tryz.ntmps95
 refine wk_start ?_
 refine wk_seq ?_
 refine Wr [1, 1, 0] ?_
 refine Rgn fun g1 => ?_
 simp only [qz]
 refine Rgn fun g2 => ?_
 refine Zx ?_
 refine rg_nil (ek_next ?_)
 refine wk_cutF [4, 8, 9, 10, 11, 12, 13, 14, 15, 16, 17, 18, 19, 20, 21, 22, 23, 24, 25, 26, 27, 28, 29, 30, 31, 32, 33, 34, 35, 36, 37, 38, 39, 40, 41, 42, 43, 44, 45, 46, 47, 48, 49, 50, 51, 52, 53, 54, 55, 56, 57, 58, 59, 60, 61, 62, 63, 64] (fun f s => ∃ (y : Nm), s = ((g2, .cells #[.int .i64 0, .int .i64 0, .int .i64 0, .int .i64 0, .int .i64 0] 44) :: ((g1, .cells #[.int .i64 y.a, .int .i64 y.b, .int .i64 y.c, .int .i64 y.d, .int .i64 y.k] 135) :: [])) ∧ y.Fit 4611686018427387903 ∧ y = z.nf) ?_ ?_
 ·refine wk_block ?_
  refine wk_loopF [4, 8, 9, 10, 11, 12, 13, 14, 15, 16, 17, 18, 19, 20, 21, 22, 23, 24, 25, 26, 27, 28, 29, 30, 31, 32, 33, 34, 35, 36, 37, 38, 39, 40, 41, 42, 43, 44, 45, 46, 47, 48, 49, 50, 51, 52, 53, 54, 55, 56, 57, 58, 59, 60, 61, 62, 63, 64] (fun mz f s => ∃ (y : Nm), s = ((g2, .cells #[.int .i64 0, .int .i64 0, .int .i64 0, .int .i64 0, .int .i64 0] 44) :: ((g1, .cells #[.int .i64 y.a, .int .i64 y.b, .int .i64 y.c, .int .i64 y.d, .int .i64 y.k] 135) :: [])) ∧ mz = y.k.toNat ∧ y.Fit 4611686018427387903 ∧ y.nf = z.nf ∧ y.k ≤ 1000000) ((fun (y : Nm) => y.k.toNat) (z)) ?_ Kx ?_
  ·exact ⟨z, rfl, rfl, hz, rfl, hk⟩
  rintro mz f1 s ⟨y, rfl, hn, hc1, hc2, hc3⟩
  simp only [Act.putF, List.foldl_cons, List.foldl_nil, Act.put, Act.eval, qW, Nat.reduceAdd, Bool.not_true, Bool.not_false]
  have hF := hc1
  have hr := Lib.hid hc2
  clear hc2
  obtain ⟨fa0, fa1, fb0, fb1, fc0, fc1, fd0, fd1⟩ := hc1
  refine wk_seq (wk_seq ?_); refine Wr [0, 0, 0, 0, 0, 0, 0, 0, 0, 0, 0, 0, 0, 0, 0, 0, 0, 0, 0, 0, 0, 0, 0, 0, 0] ?_; refine Fd 0 4 UU135 ?_; refine rf_load rfl rfl rfl UU3 rfl (fun w hw => (Kn.hd0 (Kn.tl hw)).at rfl) (Nq ?_); refine rfb_gtr rfl rfl rfl rfl ?_
  rintro (_ | _) h1 <;> try simp only [qd, ne_eq] at h1
  ·refine Zx ?_
   refine rg_nil (ek_next (wk_cond_f rfl (wk_exit (ek_then_exit (ek_then_exit (ek_block_exit ?_)))))); refine ek_midF Kx ?_
   exact ⟨y, by rfl, hF, (by rw [← hr.out, nf_stop (fun ⟨h1, h2, h3⟩ => by omega)])⟩
  refine Zx ?_; refine Fd 3 0 UU135 ?_; refine Ia 0 1 0 UU42 ?_; refine rf_load rfl rfl rfl UU3 rfl (fun w hw => (Kn.hd0 (Kn.tl hw)).at rfl) (Nq ?_); refine Fd 3 0 UU135 ?_; refine Ia 2 1 2 UU42 ?_; refine rf_load rfl rfl rfl UU3 rfl (fun w hw => (Kn.hd0 (Kn.tl hw)).at rfl) (Nq ?_); refine rf_add rfl rfl rfl rfl (wrap_ok Ox Ox) (Nq ?_); apply rg_soft_g
  case hg => rfl
  case hy => (intro w hw; have hand := and1; exact Gy)
  simp only [qz]; refine rfb_eql rfl rfl rfl rfl ?_
  rintro (_ | _) h2 <;> try simp only [qd, ne_eq] at h2
  ·refine Zx ?_
   refine rg_nil (ek_next (wk_cond_f rfl (wk_exit (ek_then_exit (ek_then_exit (ek_block_exit ?_)))))); refine ek_midF Kx ?_
   exact ⟨y, by rfl, hF, (by rw [← hr.out, nf_stop (fun ⟨h1, h2, h3⟩ => by omega)])⟩
  refine Zx ?_; refine Fd 3 0 UU135 ?_; refine Ia 1 1 1 UU42 ?_; refine rf_load rfl rfl rfl UU3 rfl (fun w hw => (Kn.hd0 (Kn.tl hw)).at rfl) (Nq ?_); refine Fd 3 0 UU135 ?_; refine Ia 3 1 3 UU42 ?_; refine rf_load rfl rfl rfl UU3 rfl (fun w hw => (Kn.hd0 (Kn.tl hw)).at rfl) (Nq ?_); refine rf_add rfl rfl rfl rfl (wrap_ok Ox Ox) (Nq ?_); apply rg_soft_g
  case hg => rfl
  case hy => (intro w hw; have hand := and1; exact Gy)
  simp only [qz]; refine rfb_eql rfl rfl rfl rfl ?_
  rintro (_ | _) h3 <;> try simp only [qd, ne_eq] at h3
  ·refine Zx ?_
   refine rg_nil (ek_next (wk_cond_f rfl (wk_exit (ek_then_exit (ek_then_exit (ek_block_exit ?_)))))); refine ek_midF Kx ?_
   exact ⟨y, by rfl, hF, (by rw [← hr.out, nf_stop (fun ⟨h1, h2, h3⟩ => by omega)])⟩
  refine Zx ?_; refine Zr ?_; refine Wr [0, 0, 1, 1] ?_; refine Fd 3 0 UU135 ?_; refine rf_loadR (n := 4) rfl rfl rfl UU42 rfl Kx (fun w hw => Kn.hd0 (Kn.tl hw)) rfl rfl (Nq ?_)
  refine Rgn fun g3 => ?_
  simp only [qz]; refine rf_storeR (n := 4) rfl rfl Kx rfl rfl (UpdR.here _ _ _ Nl) Nz (Nw ?_); refine Zr ?_; refine Wr [0, 0, 0, 0, 0, 0, 0, 0, 0, 0, 0, 0, 0, 0, 0, 0, 0, 0, 0, 0, 0, 0, 0, 0, 0, 0, 1] ?_; refine Ia 1 1 1 UU42 ?_; refine rf_load rfl rfl rfl UU3 rfl (fun w hw => (Kn.hd0 hw).at rfl) (Nq ?_); refine Ia 3 1 3 UU42 ?_; refine rf_load rfl rfl rfl UU3 rfl (fun w hw => (Kn.hd0 hw).at rfl) (Nq ?_)
  refine rf_sub rfl rfl rfl rfl (wrap_ok Ox Ox) (Nq ?_); apply rg_soft
  case hy => (intro w hw; have hand := and1; exact Gy)
  simp only [qz]; refine Ia 0 1 0 UU42 ?_; refine rf_load rfl rfl rfl UU3 rfl (fun w hw => (Kn.hd0 hw).at rfl) (Nq ?_); refine Ia 2 1 2 UU42 ?_; refine rf_load rfl rfl rfl UU3 rfl (fun w hw => (Kn.hd0 hw).at rfl) (Nq ?_); refine rf_add rfl rfl rfl rfl (wrap_ok Ox Ox) (Nq ?_); apply rg_soft
  case hy => (intro w hw; have hand := and1; exact Gy)
  simp only [qz]; refine Ia 1 1 1 UU42 ?_; refine rf_load rfl rfl rfl UU3 rfl (fun w hw => (Kn.hd0 hw).at rfl) (Nq ?_); refine Ia 3 1 3 UU42 ?_; refine rf_load rfl rfl rfl UU3 rfl (fun w hw => (Kn.hd0 hw).at rfl) (Nq ?_); refine rf_add rfl rfl rfl rfl (wrap_ok Ox Ox) (Nq ?_); apply rg_soft
  case hy => (intro w hw; have hand := and1; exact Gy)
  simp only [qz]; refine Ia 2 1 2 UU42 ?_; refine rf_load rfl rfl rfl UU3 rfl (fun w hw => (Kn.hd0 hw).at rfl) (Nq ?_); refine Ia 0 1 0 UU42 ?_; refine rf_load rfl rfl rfl UU3 rfl (fun w hw => (Kn.hd0 hw).at rfl) (Nq ?_); refine rf_sub rfl rfl rfl rfl (wrap_ok Ox Ox) (Nq ?_); apply rg_soft
  case hy => (intro w hw; have hand := and1; exact Gy)
  simp only [qz]; refine rf_build (cs := fun a => #[a.eval (.tmp 40), a.eval (.tmp 46), a.eval (.tmp 52), a.eval (.tmp 58)]) rfl rfl Kx (Nq ?_); refine Fd 3 0 UU135 ?_; refine rf_storeR (n := 4) rfl rfl Kx rfl rfl (UpdR.there _ (UpdR.there _ (UpdR.here _ _ _ Nl))) Nz (Nw ?_); refine rg_nil (ek_next ?_); refine Wr [0, 0, 0, 0, 1] ?_; refine Fd 0 4 UU135 ?_; refine rf_load rfl rfl rfl UU3 rfl (fun w hw => (Kn.hd0 (Kn.tl (Kn.tl hw))).at rfl) (Nq ?_)
  refine rf_sub rfl rfl rfl rfl (wrap_ok Ox Ox) (Nq ?_); refine Fd 0 4 UU135 ?_; refine rf_store rfl rfl Kx rfl rfl (UpdR.there _ (UpdR.there _ (UpdR.here _ _ _ Nl))) Nz (Nq ?_); refine rg_nil (ek_block ?_)
  have hcond : 0 < y.k ∧ (y.a + y.c) % 2 = 0 ∧ (y.b + y.d) % 2 = 0 := ⟨by omega, by omega, by omega⟩
  refine ek_sub (sk _ (sc _ (sc _ sn))) ?_; refine ek_roundF (y.step.k.toNat) ((by simp only [Nm.step]; omega)) Kx ?_
  exact ⟨y.step, (by rw [tdiv2 (show (y.b - y.d) % 2 = 0 by omega), tdiv2 (show (y.a + y.c) % 2 = 0 by omega), tdiv2 (show (y.b + y.d) % 2 = 0 by omega), tdiv2 (show (y.c - y.a) % 2 = 0 by omega)]; rfl), by rfl, Nm.step_fit hF, (by rw [← hr.out]; exact (nf_step hcond.1 hcond.2).symm), (by simp only [Nm.step]; omega)⟩
 rintro f1 s ⟨y, rfl, hmF, hmr⟩
 simp only [Act.putF, List.foldl_cons, List.foldl_nil, Act.put, Act.eval, qW, Nat.reduceAdd, Bool.not_true, Bool.not_false]
 obtain ⟨fa0, fa1, fb0, fb1, fc0, fc1, fd0, fd1⟩ := hmF
 replace hmr := Lib.hid hmr
 refine wk_seq ?_
 refine Wr [0, 0, 0, 0] ?_
 refine Fd 0 4 UU135 ?_
 refine rf_load rfl rfl rfl UU3 rfl (fun w hw => (Kn.hd0 (Kn.tl hw)).at rfl) (Nq ?_)
 refine rfb_leq rfl rfl rfl rfl ?_
 rintro (_ | _) h4 <;> try simp only [qd, ne_eq] at h4
 ·refine Zx ?_
  refine Zr ?_; refine Wr [0, 0, 0] ?_; refine Fd 3 0 UU135 ?_; refine rf_loadR (n := 4) rfl rfl rfl UU42 rfl Kx (fun w hw => Kn.hd0 (Kn.tl hw)) rfl rfl (Zx ?_); refine rg_nil (ek_next (wk_block ?_)); refine wk_unroll 4 ?_; refine wk_seq ?_; refine Wr [0] ?_; refine rf_lss (b := true) rfl rfl rfl rfl (by decide) (Nq ?_); refine Zr ?_; refine Wr [0, 0] ?_; apply rg_soft
  case hy => (intro w hw; have hand := and1; exact Gy)
  refine Zx ?_; refine rg_nil (ek_next ?_); refine Wx [0, 0, 0, 0, 0, 0, 0, 0, 0, 0] ?_; refine Zr ?_; refine Wr [0, 0] ?_; refine rf_add (r := 1) rfl rfl rfl rfl (by decide) (Zx ?_); refine Zr ?_; refine Wr [0] ?_; refine rf_lss (b := true) rfl rfl rfl rfl (by decide) (Nq ?_); refine Zr ?_; refine Wr [0, 0] ?_; apply rg_soft
  case hy => (intro w hw; have hand := and1; exact Gy)
  refine Zx ?_; refine rg_nil (ek_next ?_); refine Wx [0, 0, 0, 0, 0, 0, 0, 0, 0, 0] ?_; refine Zr ?_; refine Wr [0, 0] ?_; refine rf_add (r := 2) rfl rfl rfl rfl (by decide) (Zx ?_); refine Zr ?_; refine Wr [0] ?_; refine rf_lss (b := true) rfl rfl rfl rfl (by decide) (Nq ?_); refine Zr ?_; refine Wr [0, 0] ?_; apply rg_soft
  case hy => (intro w hw; have hand := and1; exact Gy)
  refine Zx ?_; refine rg_nil (ek_next ?_); refine Wx [0, 0, 0, 0, 0, 0, 0, 0, 0, 0] ?_; refine Zr ?_; refine Wr [0, 0] ?_; refine rf_add (r := 3) rfl rfl rfl rfl (by decide) (Zx ?_); refine Zr ?_; refine Wr [0] ?_; refine rf_lss (b := true) rfl rfl rfl rfl (by decide) (Nq ?_); refine Zr ?_; refine Wr [0, 0] ?_; apply rg_soft
  case hy => (intro w hw; have hand := and1; exact Gy)
  refine Zx ?_; refine rg_nil (ek_next ?_); refine Wx [0, 0, 0, 0, 0, 0, 0, 0, 0, 0] ?_; refine Zr ?_; refine Wr [0, 0] ?_; refine rf_add (r := 4) rfl rfl rfl rfl (by decide) (Zx ?_); refine Zr ?_; refine Wr [0] ?_; refine rf_lss (b := false) rfl rfl rfl rfl (by decide) (Nq ?_); refine Zr ?_; refine Wr [0, 0, 1, 0] ?_; refine rf_loadR (n := 5) rfl rfl rfl UU135 rfl Kx (fun w hw => Kn.hd0 (Kn.tl hw)) rfl rfl (Zx ?_)
  refine rf_storeR (n := 5) rfl rfl Kx rfl rfl (UpdR.here _ _ _ Nl) Nz (Nw ?_); refine Zx ?_; refine Zr ?_; refine ek_ret (fun w hw => ⟨rfl, _, run_results2 rfl rfl (Kn.hd0 hw) UU44 rfl Kx, ?_⟩); (try simp only [qz]); refine ⟨?_, hw.below⟩; rw [← hmr.out, small_no (z := y) (fun h => by obtain ⟨hk, h0, h1, h2, h3, h4, h5, h6, h7⟩ := h; omega)]
 refine Zx ?_
 refine Zr ?_
 refine Wr [0, 0, 0] ?_
 refine Fd 3 0 UU135 ?_
 refine rf_loadR (n := 4) rfl rfl rfl UU42 rfl Kx (fun w hw => Kn.hd0 (Kn.tl hw)) rfl rfl (Zx ?_)
 refine rg_nil (ek_next (wk_block ?_))
 refine wk_unroll 4 ?_
 refine wk_seq ?_
 refine Wr [0] ?_
 refine rf_lss (b := true) rfl rfl rfl rfl (by decide) (Nq ?_)
 refine Zr ?_
 refine Wr [0, 0] ?_
 apply rg_soft
 case hy => (intro w hw; have hand := and1; exact Gy)
 refine Zx ?_
 refine rg_nil (ek_next ?_)
 refine Wx [0, 0, 0, 0, 0, 0, 0, 0, 0, 0] ?_
 apply rg_soft_g
 case hg => rfl
 case hy => (intro w hw; have hand := and1; exact Gy)
 simp only [qz]
 refine rfb_leq rfl rfl rfl rfl ?_
 rintro (_ | _) h5 <;> try simp only [qd, ne_eq] at h5
 ·refine Zx ?_
  refine Zr ?_; refine Wr [0, 0] ?_; refine rf_add (r := 1) rfl rfl rfl rfl (by decide) (Zx ?_); refine Zr ?_; refine Wr [0] ?_; refine rf_lss (b := true) rfl rfl rfl rfl (by decide) (Nq ?_); refine Zr ?_; refine Wr [0, 0] ?_; apply rg_soft
  case hy => (intro w hw; have hand := and1; exact Gy)
  refine Zx ?_; refine rg_nil (ek_next ?_); refine Wx [0, 0, 0, 0, 0, 0, 0, 0, 0, 0] ?_; refine Zr ?_; refine Wr [0, 0] ?_; refine rf_add (r := 2) rfl rfl rfl rfl (by decide) (Zx ?_); refine Zr ?_; refine Wr [0] ?_; refine rf_lss (b := true) rfl rfl rfl rfl (by decide) (Nq ?_); refine Zr ?_; refine Wr [0, 0] ?_; apply rg_soft
  case hy => (intro w hw; have hand := and1; exact Gy)
  refine Zx ?_; refine rg_nil (ek_next ?_); refine Wx [0, 0, 0, 0, 0, 0, 0, 0, 0, 0] ?_; refine Zr ?_; refine Wr [0, 0] ?_; refine rf_add (r := 3) rfl rfl rfl rfl (by decide) (Zx ?_); refine Zr ?_; refine Wr [0] ?_; refine rf_lss (b := true) rfl rfl rfl rfl (by decide) (Nq ?_); refine Zr ?_; refine Wr [0, 0] ?_; apply rg_soft
  case hy => (intro w hw; have hand := and1; exact Gy)
  refine Zx ?_; refine rg_nil (ek_next ?_); refine Wx [0, 0, 0, 0, 0, 0, 0, 0, 0, 0] ?_; refine Zr ?_; refine Wr [0, 0] ?_; refine rf_add (r := 4) rfl rfl rfl rfl (by decide) (Zx ?_); refine Zr ?_; refine Wr [0] ?_; refine rf_lss (b := false) rfl rfl rfl rfl (by decide) (Nq ?_); refine Zr ?_; refine Wr [0, 0, 1, 0] ?_; refine rf_loadR (n := 5) rfl rfl rfl UU135 rfl Kx (fun w hw => Kn.hd0 (Kn.tl hw)) rfl rfl (Zx ?_)
  refine rf_storeR (n := 5) rfl rfl Kx rfl rfl (UpdR.here _ _ _ Nl) Nz (Nw ?_); refine Zx ?_; refine Zr ?_; refine ek_ret (fun w hw => ⟨rfl, _, run_results2 rfl rfl (Kn.hd0 hw) UU44 rfl Kx, ?_⟩); (try simp only [qz]); refine ⟨?_, hw.below⟩; rw [← hmr.out, small_no (z := y) (fun h => by obtain ⟨hk, h0, h1, h2, h3, h4, h5, h6, h7⟩ := h; omega)]
 refine Zx ?_
 apply rg_soft_g
 case hg => rfl
 case hy => (intro w hw; have hand := and1; exact Gy)
 simp only [qz]
 refine rfb_leq rfl rfl rfl rfl ?_
 rintro (_ | _) h6 <;> try simp only [qd, ne_eq] at h6
 ·refine Zx ?_
  refine Zr ?_; refine Wr [0, 0] ?_; refine rf_add (r := 1) rfl rfl rfl rfl (by decide) (Zx ?_); refine Zr ?_; refine Wr [0] ?_; refine rf_lss (b := true) rfl rfl rfl rfl (by decide) (Nq ?_); refine Zr ?_; refine Wr [0, 0] ?_; apply rg_soft
  case hy => (intro w hw; have hand := and1; exact Gy)
  refine Zx ?_; refine rg_nil (ek_next ?_); refine Wx [0, 0, 0, 0, 0, 0, 0, 0, 0, 0] ?_; refine Zr ?_; refine Wr [0, 0] ?_; refine rf_add (r := 2) rfl rfl rfl rfl (by decide) (Zx ?_); refine Zr ?_; refine Wr [0] ?_; refine rf_lss (b := true) rfl rfl rfl rfl (by decide) (Nq ?_); refine Zr ?_; refine Wr [0, 0] ?_; apply rg_soft
  case hy => (intro w hw; have hand := and1; exact Gy)
  refine Zx ?_; refine rg_nil (ek_next ?_); refine Wx [0, 0, 0, 0, 0, 0, 0, 0, 0, 0] ?_; refine Zr ?_; refine Wr [0, 0] ?_; refine rf_add (r := 3) rfl rfl rfl rfl (by decide) (Zx ?_); refine Zr ?_; refine Wr [0] ?_; refine rf_lss (b := true) rfl rfl rfl rfl (by decide) (Nq ?_); refine Zr ?_; refine Wr [0, 0] ?_; apply rg_soft
  case hy => (intro w hw; have hand := and1; exact Gy)
  refine Zx ?_; refine rg_nil (ek_next ?_); refine Wx [0, 0, 0, 0, 0, 0, 0, 0, 0, 0] ?_; refine Zr ?_; refine Wr [0, 0] ?_; refine rf_add (r := 4) rfl rfl rfl rfl (by decide) (Zx ?_); refine Zr ?_; refine Wr [0] ?_; refine rf_lss (b := false) rfl rfl rfl rfl (by decide) (Nq ?_); refine Zr ?_; refine Wr [0, 0, 1, 0] ?_; refine rf_loadR (n := 5) rfl rfl rfl UU135 rfl Kx (fun w hw => Kn.hd0 (Kn.tl hw)) rfl rfl (Zx ?_)
  refine rf_storeR (n := 5) rfl rfl Kx rfl rfl (UpdR.here _ _ _ Nl) Nz (Nw ?_); refine Zx ?_; refine Zr ?_; refine ek_ret (fun w hw => ⟨rfl, _, run_results2 rfl rfl (Kn.hd0 hw) UU44 rfl Kx, ?_⟩); (try simp only [qz]); refine ⟨?_, hw.below⟩; rw [← hmr.out, small_no (z := y) (fun h => by obtain ⟨hk, h0, h1, h2, h3, h4, h5, h6, h7⟩ := h; omega)]
 refine Zx ?_
 refine Zr ?_
 refine Wr [0, 0] ?_
 refine rf_add (r := 1) rfl rfl rfl rfl (by decide) (Zx ?_)
 refine Zr ?_
 refine Wr [0] ?_
 refine rf_lss (b := true) rfl rfl rfl rfl (by decide) (Nq ?_)
 refine Zr ?_
 refine Wr [0, 0] ?_
 apply rg_soft
 case hy => (intro w hw; have hand := and1; exact Gy)
 refine Zx ?_
 refine rg_nil (ek_next ?_)
 refine Wx [0, 0, 0, 0, 0, 0, 0, 0, 0, 0] ?_
 apply rg_soft_g
 case hg => rfl
 case hy => (intro w hw; have hand := and1; exact Gy)
 simp only [qz]
 refine rfb_leq rfl rfl rfl rfl ?_
 rintro (_ | _) h7 <;> try simp only [qd, ne_eq] at h7
 ·refine Zx ?_
  refine Zr ?_; refine Wr [0, 0] ?_; refine rf_add (r := 2) rfl rfl rfl rfl (by decide) (Zx ?_); refine Zr ?_; refine Wr [0] ?_; refine rf_lss (b := true) rfl rfl rfl rfl (by decide) (Nq ?_); refine Zr ?_; refine Wr [0, 0] ?_; apply rg_soft
  case hy => (intro w hw; have hand := and1; exact Gy)
  refine Zx ?_; refine rg_nil (ek_next ?_); refine Wx [0, 0, 0, 0, 0, 0, 0, 0, 0, 0] ?_; refine Zr ?_; refine Wr [0, 0] ?_; refine rf_add (r := 3) rfl rfl rfl rfl (by decide) (Zx ?_); refine Zr ?_; refine Wr [0] ?_; refine rf_lss (b := true) rfl rfl rfl rfl (by decide) (Nq ?_); refine Zr ?_; refine Wr [0, 0] ?_; apply rg_soft
  case hy => (intro w hw; have hand := and1; exact Gy)
  refine Zx ?_; refine rg_nil (ek_next ?_); refine Wx [0, 0, 0, 0, 0, 0, 0, 0, 0, 0] ?_; refine Zr ?_; refine Wr [0, 0] ?_; refine rf_add (r := 4) rfl rfl rfl rfl (by decide) (Zx ?_); refine Zr ?_; refine Wr [0] ?_; refine rf_lss (b := false) rfl rfl rfl rfl (by decide) (Nq ?_); refine Zr ?_; refine Wr [0, 0, 1, 0] ?_; refine rf_loadR (n := 5) rfl rfl rfl UU135 rfl Kx (fun w hw => Kn.hd0 (Kn.tl hw)) rfl rfl (Zx ?_)
  refine rf_storeR (n := 5) rfl rfl Kx rfl rfl (UpdR.here _ _ _ Nl) Nz (Nw ?_); refine Zx ?_; refine Zr ?_; refine ek_ret (fun w hw => ⟨rfl, _, run_results2 rfl rfl (Kn.hd0 hw) UU44 rfl Kx, ?_⟩); (try simp only [qz]); refine ⟨?_, hw.below⟩; rw [← hmr.out, small_no (z := y) (fun h => by obtain ⟨hk, h0, h1, h2, h3, h4, h5, h6, h7⟩ := h; omega)]
 refine Zx ?_
 apply rg_soft_g
 case hg => rfl
 case hy => (intro w hw; have hand := and1; exact Gy)
 simp only [qz]
 refine rfb_leq rfl rfl rfl rfl ?_
 rintro (_ | _) h8 <;> try simp only [qd, ne_eq] at h8
 ·refine Zx ?_
  refine Zr ?_; refine Wr [0, 0] ?_; refine rf_add (r := 2) rfl rfl rfl rfl (by decide) (Zx ?_); refine Zr ?_; refine Wr [0] ?_; refine rf_lss (b := true) rfl rfl rfl rfl (by decide) (Nq ?_); refine Zr ?_; refine Wr [0, 0] ?_; apply rg_soft
  case hy => (intro w hw; have hand := and1; exact Gy)
  refine Zx ?_; refine rg_nil (ek_next ?_); refine Wx [0, 0, 0, 0, 0, 0, 0, 0, 0, 0] ?_; refine Zr ?_; refine Wr [0, 0] ?_; refine rf_add (r := 3) rfl rfl rfl rfl (by decide) (Zx ?_); refine Zr ?_; refine Wr [0] ?_; refine rf_lss (b := true) rfl rfl rfl rfl (by decide) (Nq ?_); refine Zr ?_; refine Wr [0, 0] ?_; apply rg_soft
  case hy => (intro w hw; have hand := and1; exact Gy)
  refine Zx ?_; refine rg_nil (ek_next ?_); refine Wx [0, 0, 0, 0, 0, 0, 0, 0, 0, 0] ?_; refine Zr ?_; refine Wr [0, 0] ?_; refine rf_add (r := 4) rfl rfl rfl rfl (by decide) (Zx ?_); refine Zr ?_; refine Wr [0] ?_; refine rf_lss (b := false) rfl rfl rfl rfl (by decide) (Nq ?_); refine Zr ?_; refine Wr [0, 0, 1, 0] ?_; refine rf_loadR (n := 5) rfl rfl rfl UU135 rfl Kx (fun w hw => Kn.hd0 (Kn.tl hw)) rfl rfl (Zx ?_)
  refine rf_storeR (n := 5) rfl rfl Kx rfl rfl (UpdR.here _ _ _ Nl) Nz (Nw ?_); refine Zx ?_; refine Zr ?_; refine ek_ret (fun w hw => ⟨rfl, _, run_results2 rfl rfl (Kn.hd0 hw) UU44 rfl Kx, ?_⟩); (try simp only [qz]); refine ⟨?_, hw.below⟩; rw [← hmr.out, small_no (z := y) (fun h => by obtain ⟨hk, h0, h1, h2, h3, h4, h5, h6, h7⟩ := h; omega)]
 refine Zx ?_
 refine Zr ?_
 refine Wr [0, 0] ?_
 refine rf_add (r := 2) rfl rfl rfl rfl (by decide) (Zx ?_)
 refine Zr ?_
 refine Wr [0] ?_
 refine rf_lss (b := true) rfl rfl rfl rfl (by decide) (Nq ?_)
 refine Zr ?_
 refine Wr [0, 0] ?_
 apply rg_soft
 case hy => (intro w hw; have hand := and1; exact Gy)
 refine Zx ?_
 refine rg_nil (ek_next ?_)
 refine Wx [0, 0, 0, 0, 0, 0, 0, 0, 0, 0] ?_
 apply rg_soft_g
 case hg => rfl
 case hy => (intro w hw; have hand := and1; exact Gy)
 simp only [qz]
 refine rfb_leq rfl rfl rfl rfl ?_
 rintro (_ | _) h9 <;> try simp only [qd, ne_eq] at h9
 ·refine Zx ?_
  refine Zr ?_; refine Wr [0, 0] ?_; refine rf_add (r := 3) rfl rfl rfl rfl (by decide) (Zx ?_); refine Zr ?_; refine Wr [0] ?_; refine rf_lss (b := true) rfl rfl rfl rfl (by decide) (Nq ?_); refine Zr ?_; refine Wr [0, 0] ?_; apply rg_soft
  case hy => (intro w hw; have hand := and1; exact Gy)
  refine Zx ?_; refine rg_nil (ek_next ?_); refine Wx [0, 0, 0, 0, 0, 0, 0, 0, 0, 0] ?_; refine Zr ?_; refine Wr [0, 0] ?_; refine rf_add (r := 4) rfl rfl rfl rfl (by decide) (Zx ?_); refine Zr ?_; refine Wr [0] ?_; refine rf_lss (b := false) rfl rfl rfl rfl (by decide) (Nq ?_); refine Zr ?_; refine Wr [0, 0, 1, 0] ?_; refine rf_loadR (n := 5) rfl rfl rfl UU135 rfl Kx (fun w hw => Kn.hd0 (Kn.tl hw)) rfl rfl (Zx ?_)
  refine rf_storeR (n := 5) rfl rfl Kx rfl rfl (UpdR.here _ _ _ Nl) Nz (Nw ?_); refine Zx ?_; refine Zr ?_; refine ek_ret (fun w hw => ⟨rfl, _, run_results2 rfl rfl (Kn.hd0 hw) UU44 rfl Kx, ?_⟩); (try simp only [qz]); refine ⟨?_, hw.below⟩; rw [← hmr.out, small_no (z := y) (fun h => by obtain ⟨hk, h0, h1, h2, h3, h4, h5, h6, h7⟩ := h; omega)]
 refine Zx ?_
 apply rg_soft_g
 case hg => rfl
 case hy => (intro w hw; have hand := and1; exact Gy)
 simp only [qz]
 refine rfb_leq rfl rfl rfl rfl ?_
 rintro (_ | _) h10 <;> try simp only [qd, ne_eq] at h10
 ·refine Zx ?_
  refine Zr ?_; refine Wr [0, 0] ?_; refine rf_add (r := 3) rfl rfl rfl rfl (by decide) (Zx ?_); refine Zr ?_; refine Wr [0] ?_; refine rf_lss (b := true) rfl rfl rfl rfl (by decide) (Nq ?_); refine Zr ?_; refine Wr [0, 0] ?_; apply rg_soft
  case hy => (intro w hw; have hand := and1; exact Gy)
  refine Zx ?_; refine rg_nil (ek_next ?_); refine Wx [0, 0, 0, 0, 0, 0, 0, 0, 0, 0] ?_; refine Zr ?_; refine Wr [0, 0] ?_; refine rf_add (r := 4) rfl rfl rfl rfl (by decide) (Zx ?_); refine Zr ?_; refine Wr [0] ?_; refine rf_lss (b := false) rfl rfl rfl rfl (by decide) (Nq ?_); refine Zr ?_; refine Wr [0, 0, 1, 0] ?_; refine rf_loadR (n := 5) rfl rfl rfl UU135 rfl Kx (fun w hw => Kn.hd0 (Kn.tl hw)) rfl rfl (Zx ?_)
  refine rf_storeR (n := 5) rfl rfl Kx rfl rfl (UpdR.here _ _ _ Nl) Nz (Nw ?_); refine Zx ?_; refine Zr ?_; refine ek_ret (fun w hw => ⟨rfl, _, run_results2 rfl rfl (Kn.hd0 hw) UU44 rfl Kx, ?_⟩); (try simp only [qz]); refine ⟨?_, hw.below⟩; rw [← hmr.out, small_no (z := y) (fun h => by obtain ⟨hk, h0, h1, h2, h3, h4, h5, h6, h7⟩ := h; omega)]
 refine Zx ?_
 refine Zr ?_
 refine Wr [0, 0] ?_
 refine rf_add (r := 3) rfl rfl rfl rfl (by decide) (Zx ?_)
 refine Zr ?_
 refine Wr [0] ?_
 refine rf_lss (b := true) rfl rfl rfl rfl (by decide) (Nq ?_)
 refine Zr ?_
 refine Wr [0, 0] ?_
 apply rg_soft
 case hy => (intro w hw; have hand := and1; exact Gy)
 refine Zx ?_
 refine rg_nil (ek_next ?_)
 refine Wx [0, 0, 0, 0, 0, 0, 0, 0, 0, 0] ?_
 apply rg_soft_g
 case hg => rfl
 case hy => (intro w hw; have hand := and1; exact Gy)
 simp only [qz]
 refine rfb_leq rfl rfl rfl rfl ?_
 rintro (_ | _) h11 <;> try simp only [qd, ne_eq] at h11
 ·refine Zx ?_
  refine Zr ?_; refine Wr [0, 0] ?_; refine rf_add (r := 4) rfl rfl rfl rfl (by decide) (Zx ?_); refine Zr ?_; refine Wr [0] ?_; refine rf_lss (b := false) rfl rfl rfl rfl (by decide) (Nq ?_); refine Zr ?_; refine Wr [0, 0, 1, 0] ?_; refine rf_loadR (n := 5) rfl rfl rfl UU135 rfl Kx (fun w hw => Kn.hd0 (Kn.tl hw)) rfl rfl (Zx ?_); refine rf_storeR (n := 5) rfl rfl Kx rfl rfl (UpdR.here _ _ _ Nl) Nz (Nw ?_)
  refine Zx ?_; refine Zr ?_; refine ek_ret (fun w hw => ⟨rfl, _, run_results2 rfl rfl (Kn.hd0 hw) UU44 rfl Kx, ?_⟩); (try simp only [qz]); refine ⟨?_, hw.below⟩; rw [← hmr.out, small_no (z := y) (fun h => by obtain ⟨hk, h0, h1, h2, h3, h4, h5, h6, h7⟩ := h; omega)]
 refine Zx ?_
 apply rg_soft_g
 case hg => rfl
 case hy => (intro w hw; have hand := and1; exact Gy)
 simp only [qz]
 refine rfb_leq rfl rfl rfl rfl ?_
 rintro (_ | _) h12 <;> try simp only [qd, ne_eq] at h12
 ·refine Zx ?_
  refine Zr ?_; refine Wr [0, 0] ?_; refine rf_add (r := 4) rfl rfl rfl rfl (by decide) (Zx ?_); refine Zr ?_; refine Wr [0] ?_; refine rf_lss (b := false) rfl rfl rfl rfl (by decide) (Nq ?_); refine Zr ?_; refine Wr [0, 0, 1, 0] ?_; refine rf_loadR (n := 5) rfl rfl rfl UU135 rfl Kx (fun w hw => Kn.hd0 (Kn.tl hw)) rfl rfl (Zx ?_); refine rf_storeR (n := 5) rfl rfl Kx rfl rfl (UpdR.here _ _ _ Nl) Nz (Nw ?_)
  refine Zx ?_; refine Zr ?_; refine ek_ret (fun w hw => ⟨rfl, _, run_results2 rfl rfl (Kn.hd0 hw) UU44 rfl Kx, ?_⟩); (try simp only [qz]); refine ⟨?_, hw.below⟩; rw [← hmr.out, small_no (z := y) (fun h => by obtain ⟨hk, h0, h1, h2, h3, h4, h5, h6, h7⟩ := h; omega)]
 refine Zx ?_
 refine Zr ?_
 refine Wr [0, 0] ?_
 refine rf_add (r := 4) rfl rfl rfl rfl (by decide) (Zx ?_)
 refine Zr ?_
 refine Wr [0] ?_
 refine rf_lss (b := false) rfl rfl rfl rfl (by decide) (Nq ?_)
 refine Zr ?_
 refine Wr [0, 0, 1, 0] ?_
 refine rf_loadR (n := 5) rfl rfl rfl UU135 rfl Kx (fun w hw => Kn.hd0 (Kn.tl hw)) rfl rfl (Zx ?_)
 refine rf_storeR (n := 5) rfl rfl Kx rfl rfl (UpdR.here _ _ _ Nl) Nz (Nw ?_)
 refine Zx ?_
 refine Zr ?_
 refine ek_ret (fun w hw => ⟨rfl, _, run_results2 rfl rfl (Kn.hd0 hw) UU44 rfl Kx, ?_⟩)
 (try simp only [qz])
 refine ⟨?_, hw.below⟩
 rw [← hmr.out, small_yes (z := y) Ox ⟨by omega, by omega, by omega, by omega, by omega, by omega, by omega, by omega⟩]
theorem as_hd {w : World} {g t : Nat} {xs : List Nm} {cs : Array Value} (h : Hd w g t cs) (e : cs = (nms xs).toArray) : AS w (some ⟨g, 0, none⟩) (nms xs) :=
  fun _ => ⟨g, 0, rfl, h.lt, fun j _ => by rw [Nat.zero_add, h.cell j, e]; simp⟩
theorem result_any (z : Nm) (hz : z.Fit 4611686018427387903) (hk : z.k ≤ 1000000) (w : World) : Calls Tryz.prog 88 #[nmV z] w fun e w' => e = .returned (numV z.mk') ∧ Below w.heap.size w w' := by
 go_enter Tryz.func88, Tryz.ntmps88
 refine wk_start ?_
 refine wk_seq ?_
 refine Wr [1, 1, 0] ?_
 refine Rgn fun g1 => ?_
 simp only [qz]
 refine Rgn fun g2 => ?_
 refine Zx ?_
 refine Zr ?_
 refine Wr [0, 1, 0, 0, 0, 1, 1, 0] ?_
 refine rf_loadR (n := 5) rfl rfl rfl UU135 rfl Kx (fun w hw => Kn.hd0 (Kn.tl hw)) rfl rfl (Nq ?_)
 apply rg_pure Rx Kx
 case hargs => exact Ax
 case h => exact fun w hw => reduced_any z hz hk w
 case hz => exact Nz
 simp only [qz]
 cases hs : z.nf.small
 ·refine Zx ?_
  refine Rgn fun g3 => ?_
  simp only [qz]; refine rf_storeR (n := 5) rfl rfl Kx rfl rfl (UpdR.here _ _ _ Nl) Nz (Nw ?_); refine Zx ?_; refine Zr ?_; refine Wx [0, 0] ?_; refine Zr ?_; refine Wr [0, 1, 0] ?_; refine rf_build (cs := fun a => #[.int .i64 0, .int .i64 0, .int .i64 0, .int .i64 0, .int .i64 0]) rfl rfl Kx (Nq ?_); refine rf_storeR (n := 5) rfl rfl Kx rfl rfl (UpdR.there _ (UpdR.here _ _ _ Nl)) Nz (Nw ?_); refine Zx ?_; refine Zr ?_
  refine ek_ret (fun w hw => ⟨rfl, _, run_results2 rfl rfl (Kn.hd0 (Kn.tl hw)) UU44 rfl Kx, ?_⟩); (try simp only [qz])
  exact ⟨by (unfold Nm.mk' numV; rw [if_neg (by rw [hs]; decide)]; rfl), hw.below⟩
 refine Zx ?_
 refine Rgn fun g4 => ?_
 simp only [qz]
 refine rf_storeR (n := 5) rfl rfl Kx rfl rfl (UpdR.here _ _ _ Nl) Nz (Nw ?_)
 refine Zx ?_
 refine Zr ?_
 refine Wx [0, 0] ?_
 refine Zr ?_
 refine Wr [0, 1, 0] ?_
 refine rf_loadR (n := 5) rfl rfl rfl UU44 rfl Kx (fun w hw => Kn.hd0 hw) rfl rfl (Nq ?_)
 refine rf_storeR (n := 5) rfl rfl Kx rfl rfl (UpdR.there _ (UpdR.here _ _ _ Nl)) Nz (Nw ?_)
 refine Zx ?_
 refine Zr ?_
 refine ek_ret (fun w hw => ⟨rfl, _, run_results2 rfl rfl (Kn.hd0 (Kn.tl hw)) UU44 rfl Kx, ?_⟩)
 (try simp only [qz])
 exact ⟨by (unfold Nm.mk' numV; rw [if_pos hs]), hw.below⟩
theorem okB_not {z : Nm} (h : ¬ z.Ok) : z.okB = false := by
 cases hb : z.okB with
 | false => rfl
 | true => exact absurd (okB_iff.1 hb) h
theorem okB_yes {z : Nm} (h : z.Ok) : z.okB = true := okB_iff.2 h
theorem okB_last {z : Nm} (h0 : 0 ≤ z.k) (h1 : z.k ≤ 40) (hf : z.Fit 1000000000) : z.okB = decide (z.nf = z) := by
 rw [Bool.eq_iff_iff, okB_iff, decide_eq_true_eq, nf_self_iff h0]
 exact ⟨fun h => h.form, fun h => ⟨hf, h0, h1, h⟩⟩
theorem amvalid_any (z : Nm) (w : World) : Calls Tryz.prog 54 #[nmV z] w fun e w' => e = .returned (.bool z.okB) ∧ Below w.heap.size w w' := by
 go_enter Tryz.func54, Tryz.ntmps54
 refine wk_start ?_
 refine wk_seq ?_
 refine Wr [1, 0] ?_
 refine Rgn fun g1 => ?_
 refine Zx ?_
 refine Zr ?_
 refine Wr [0, 0, 0, 0, 0, 0, 0, 0] ?_
 refine Fd 0 4 UU44 ?_
 refine rf_load rfl rfl rfl UU3 rfl (fun w hw => (Kn.hd0 hw).at rfl) (Nq ?_)
 refine rfb_lss rfl rfl rfl rfl ?_
 rintro (_ | _) h1 <;> try simp only [qd, ne_eq] at h1
 ·refine Zx ?_
  refine Fd 0 4 UU44 ?_; refine rf_load rfl rfl rfl UU3 rfl (fun w hw => (Kn.hd0 hw).at rfl) (Nq ?_); refine rfb_gtr rfl rfl rfl rfl ?_
  rintro (_ | _) h2 <;> try simp only [qd, ne_eq] at h2
  ·refine Zx ?_
   refine Zr ?_; refine Wr [0, 0, 0] ?_; refine Fd 3 0 UU44 ?_; refine rf_loadR (n := 4) rfl rfl rfl UU42 rfl Kx (fun w hw => Kn.hd0 hw) rfl rfl (Zx ?_); refine rg_nil (ek_next (wk_block ?_)); refine wk_unroll 4 ?_; refine wk_seq ?_; refine Wr [0] ?_; refine rf_lss (b := true) rfl rfl rfl rfl (by decide) (Nq ?_); refine Zr ?_; refine Wr [0, 0] ?_; refine Zk ?_; refine Zr ?_; refine Wx [0, 0, 0, 0, 0, 0] ?_
   refine rfb_lss rfl rfl rfl rfl ?_
   rintro (_ | _) h3 <;> try simp only [qd, ne_eq] at h3
   ·refine Zx ?_
    apply rg_soft_g
    case hg => rfl
    case hy => (intro w hw; exact Gy)
    simp only [qz]; refine rfb_gtr rfl rfl rfl rfl ?_
    rintro (_ | _) h4 <;> try simp only [qd, ne_eq] at h4
    ·refine Zx ?_
     refine Zr ?_; refine Wr [0, 0] ?_; refine rf_add (r := 1) rfl rfl rfl rfl (by decide) (Zx ?_); refine Zr ?_; refine Wr [0] ?_; refine rf_lss (b := true) rfl rfl rfl rfl (by decide) (Nq ?_); refine Zr ?_; refine Wr [0, 0] ?_; refine Zk ?_; refine Zr ?_; refine Wx [0, 0, 0, 0, 0, 0] ?_; refine rfb_lss rfl rfl rfl rfl ?_
     rintro (_ | _) h5 <;> try simp only [qd, ne_eq] at h5
     ·refine Zx ?_
      apply rg_soft_g
      case hg => rfl
      case hy => (intro w hw; exact Gy)
      simp only [qz]; refine rfb_gtr rfl rfl rfl rfl ?_
      rintro (_ | _) h6 <;> try simp only [qd, ne_eq] at h6
      ·refine Zx ?_
       refine Zr ?_; refine Wr [0, 0] ?_; refine rf_add (r := 2) rfl rfl rfl rfl (by decide) (Zx ?_); refine Zr ?_; refine Wr [0] ?_; refine rf_lss (b := true) rfl rfl rfl rfl (by decide) (Nq ?_); refine Zr ?_; refine Wr [0, 0] ?_; refine Zk ?_; refine Zr ?_; refine Wx [0, 0, 0, 0, 0, 0] ?_; refine rfb_lss rfl rfl rfl rfl ?_
       rintro (_ | _) h7 <;> try simp only [qd, ne_eq] at h7
       ·refine Zx ?_
        apply rg_soft_g
        case hg => rfl
        case hy => (intro w hw; exact Gy)
        simp only [qz]; refine rfb_gtr rfl rfl rfl rfl ?_
        rintro (_ | _) h8 <;> try simp only [qd, ne_eq] at h8
        ·refine Zx ?_
         refine Zr ?_; refine Wr [0, 0] ?_; refine rf_add (r := 3) rfl rfl rfl rfl (by decide) (Zx ?_); refine Zr ?_; refine Wr [0] ?_; refine rf_lss (b := true) rfl rfl rfl rfl (by decide) (Nq ?_); refine Zr ?_; refine Wr [0, 0] ?_; refine Zk ?_; refine Zr ?_; refine Wx [0, 0, 0, 0, 0, 0] ?_; refine rfb_lss rfl rfl rfl rfl ?_
         rintro (_ | _) h9 <;> try simp only [qd, ne_eq] at h9
         ·refine Zx ?_
          apply rg_soft_g
          case hg => rfl
          case hy => (intro w hw; exact Gy)
          simp only [qz]; refine rfb_gtr rfl rfl rfl rfl ?_
          rintro (_ | _) h10 <;> try simp only [qd, ne_eq] at h10
          ·refine Zx ?_
           refine Zr ?_; refine Wr [0, 0] ?_; refine rf_add (r := 4) rfl rfl rfl rfl (by decide) (Zx ?_); refine Zr ?_; refine Wr [0] ?_; refine rf_lss (b := false) rfl rfl rfl rfl (by decide) (Nq ?_); refine Zr ?_; refine Wr [0, 1, 0, 0, 0, 1, 1, 0] ?_; refine rf_loadR (n := 5) rfl rfl rfl UU44 rfl Kx (fun w hw => Kn.hd0 hw) rfl rfl (Nq ?_); apply rg_pure Rx Kx
           case hargs => exact Ax
           case h => exact fun w hw => reduced_any z ⟨by omega, by omega, by omega, by omega, by omega, by omega, by omega, by omega⟩ Ox w
           case hz => exact Nz
           refine Zx ?_
           refine Rgn fun g2 => ?_
           simp only [qz]; refine rf_storeR (n := 5) rfl rfl Kx rfl rfl (UpdR.here _ _ _ Nl) Nz (Nw ?_); refine Zx ?_; refine Zr ?_; refine Wr [0, 0, 0, 0] ?_; refine rf_loadR (n := 5) rfl rfl rfl UU44 rfl Kx (fun w hw => Kn.hd0 hw) rfl rfl (Nq ?_); refine rf_loadR (n := 5) rfl rfl rfl UU44 rfl Kx (fun w hw => Kn.hd0 (Kn.tl hw)) rfl rfl (Nq ?_); refine rf_eqN (u := z.nf) (v := z) rfl rfl rfl rfl (Zx ?_)
           refine Zr ?_
           refine Er fun w hw => ?_
           (try simp only [qz]); refine ⟨?_, hw.below⟩; rw [okB_last (z := z) Ox Ox ⟨by omega, by omega, by omega, by omega, by omega, by omega, by omega, by omega⟩]
          refine Zx ?_; refine Zr ?_; refine Wx [0] ?_; refine Zr ?_
          refine Er fun w hw => ?_
          (try simp only [qz])
          exact ⟨by rw [okB_not (z := z) (fun h => by obtain ⟨⟨h1, h2, h3, h4, h5, h6, h7, h8⟩, h9, h10, h11⟩ := h; omega)], hw.below⟩
         refine Zx ?_; refine Zr ?_; refine Wx [0] ?_; refine Zr ?_
         refine Er fun w hw => ?_
         (try simp only [qz])
         exact ⟨by rw [okB_not (z := z) (fun h => by obtain ⟨⟨h1, h2, h3, h4, h5, h6, h7, h8⟩, h9, h10, h11⟩ := h; omega)], hw.below⟩
        refine Zx ?_; refine Zr ?_; refine Wx [0] ?_; refine Zr ?_
        refine Er fun w hw => ?_
        (try simp only [qz])
        exact ⟨by rw [okB_not (z := z) (fun h => by obtain ⟨⟨h1, h2, h3, h4, h5, h6, h7, h8⟩, h9, h10, h11⟩ := h; omega)], hw.below⟩
       refine Zx ?_; refine Zr ?_; refine Wx [0] ?_; refine Zr ?_
       refine Er fun w hw => ?_
       (try simp only [qz])
       exact ⟨by rw [okB_not (z := z) (fun h => by obtain ⟨⟨h1, h2, h3, h4, h5, h6, h7, h8⟩, h9, h10, h11⟩ := h; omega)], hw.below⟩
      refine Zx ?_; refine Zr ?_; refine Wx [0] ?_; refine Zr ?_
      refine Er fun w hw => ?_
      (try simp only [qz])
      exact ⟨by rw [okB_not (z := z) (fun h => by obtain ⟨⟨h1, h2, h3, h4, h5, h6, h7, h8⟩, h9, h10, h11⟩ := h; omega)], hw.below⟩
     refine Zx ?_; refine Zr ?_; refine Wx [0] ?_; refine Zr ?_
     refine Er fun w hw => ?_
     (try simp only [qz])
     exact ⟨by rw [okB_not (z := z) (fun h => by obtain ⟨⟨h1, h2, h3, h4, h5, h6, h7, h8⟩, h9, h10, h11⟩ := h; omega)], hw.below⟩
    refine Zx ?_; refine Zr ?_; refine Wx [0] ?_; refine Zr ?_
    refine Er fun w hw => ?_
    (try simp only [qz])
    exact ⟨by rw [okB_not (z := z) (fun h => by obtain ⟨⟨h1, h2, h3, h4, h5, h6, h7, h8⟩, h9, h10, h11⟩ := h; omega)], hw.below⟩
   refine Zx ?_; refine Zr ?_; refine Wx [0] ?_; refine Zr ?_
   refine Er fun w hw => ?_
   (try simp only [qz])
   exact ⟨by rw [okB_not (z := z) (fun h => by obtain ⟨⟨h1, h2, h3, h4, h5, h6, h7, h8⟩, h9, h10, h11⟩ := h; omega)], hw.below⟩
  refine Zx ?_; refine Zr ?_; refine Wx [0] ?_; refine Zr ?_
  refine Er fun w hw => ?_
  (try simp only [qz])
  exact ⟨by rw [okB_not (z := z) (fun h => by obtain ⟨⟨h1, h2, h3, h4, h5, h6, h7, h8⟩, h9, h10, h11⟩ := h; omega)], hw.below⟩
 refine Zx ?_
 refine Zr ?_
 refine Wx [0] ?_
 refine Zr ?_
 refine Er fun w hw => ?_
 (try simp only [qz])
 exact ⟨by rw [okB_not (z := z) (fun h => by obtain ⟨⟨h1, h2, h3, h4, h5, h6, h7, h8⟩, h9, h10, h11⟩ := h; omega)], hw.below⟩
theorem atN_range {w : World} {b off : Nat} {z : Nm} (h : NmAt w b off z) : w.rangeAt b off [.int .i64 z.a, .int .i64 z.b, .int .i64 z.c, .int .i64 z.d, .int .i64 z.k] := by
 intro j v hj
 match j, hj with
 | 0, hj => injection hj with hj; subst hj; exact h.c0
 | 1, hj => injection hj with hj; subst hj; exact h.c1
 | 2, hj => injection hj with hj; subst hj; exact h.c2
 | 3, hj => injection hj with hj; subst hj; exact h.c3
 | 4, hj => injection hj with hj; subst hj; exact h.c4
 | n + 5, hj => cases hj
theorem ampvalid_yes (xs : List Nm) (a : Option Addr) (c : Nat) (hl : xs.length ≤ 100000) (hn : 0 < xs.length) (hx : ∀ z ∈ xs, z.Ok) (w : World) (hA : AS w a (nms xs)) : Calls Tryz.prog 99 #[.slice a xs.length c] w fun e w' => e = .returned (.bool true) ∧ Below w.heap.size w w' := by
 obtain ⟨b, off, rfl, hlt, hcell⟩ := AS.openN hA hn
 go_enter Tryz.func99, Tryz.ntmps99
 refine wk_start ?_
 refine wk_seq ?_
 refine Wx [0] ?_
 refine Zr ?_
 refine Wx [0, 0, 0] ?_
 refine rf_len rfl rfl rfl UU26 (Zx ?_)
 refine Zr ?_
 refine wk_loopF [2, 4, 7, 8, 9, 10, 11, 12, 13, 14] (fun mz f s => ∃ (k : Nat), f 2 = .bool false ∧ f 7 = .int .i64 k ∧ s = [] ∧ mz = xs.length - k ∧ k ≤ xs.length) ((fun (k : Nat) => xs.length - k) (0)) ?_ Kx ?_
 ·exact ⟨0, rfl, rfl, rfl, rfl, by omega⟩
 rintro mz f1 s ⟨k, hs1_2, hs1_7, rfl, hn, hc1⟩
 simp only [Act.putF, List.foldl_cons, List.foldl_nil, hs1_2, hs1_7, Act.put, Act.eval, qW, Nat.reduceAdd, Bool.not_true, Bool.not_false]
 clear hs1_2 hs1_7
 refine wk_seq ?_
 refine Wr [0] ?_
 refine rfb_lss rfl rfl rfl rfl ?_
 rintro (_ | _) h1 <;> try simp only [qd, ne_eq] at h1
 ·simp only [qz]
  refine Zr ?_; refine Wx [0] ?_; refine Zr ?_
  refine Er fun w hw => ?_
  (try simp only [qz])
  first | exact ⟨rfl, hw.below⟩ | exact ⟨trivial, hw.below⟩ | exact hw.below
 simp only [qz]
 have hO := okB_yes (hx _ (NmE.at_mem (show k < xs.length by omega)))
 refine Zr ?_
 refine Wr [0, 0, 1, 1] ?_
 refine rf_indexS (n := k) (sz := 5) (j := off + k * 5) rfl rfl rfl rfl UU26 Kx Ox Ox rfl (Nq ?_)
 refine rf_loadC (n := 5) (vs := [.int .i64 (nm xs k).a, .int .i64 (nm xs k).b, .int .i64 (nm xs k).c, .int .i64 (nm xs k).d, .int .i64 (nm xs k).k]) rfl rfl rfl UU44 rfl Kx rfl (fun w hw => atN_range ((hcell k Ox).kn hw hlt (by simp))) (Nq ?_)
 refine Rgn fun g1 => ?_
 simp only [qz]
 refine rf_storeR (n := 5) rfl rfl Kx rfl rfl (UpdR.here _ _ _ Nl) Nz (Nw ?_)
 refine Zr ?_
 refine Wr [0, 1, 0] ?_
 refine rf_loadR (n := 5) rfl rfl rfl UU44 rfl Kx (fun w hw => Kn.hd0 hw) rfl rfl (Nq ?_)
 apply rg_pure Rx Kx
 case hargs => exact Ax
 case h => exact fun w hw => by have := amvalid_any (nm xs k) w; rw [hO] at this; exact this
 case hz => exact Nz
 refine Zx ?_
 refine Zr ?_
 refine Wr [0, 0] ?_
 refine rf_add rfl rfl rfl rfl (wrap_ok Ox Ox) (Zx ?_)
 refine rg_nil ?_
 refine ek_sub (sk _ sn) ?_
 refine ek_roundF (xs.length - (k + 1)) Ox Kx ?_
 exact ⟨k + 1, rfl, rfl, by rfl, by rfl, by omega⟩
theorem by_any (z : Nm) (n : Int) (h0 : 0 ≤ n) (h1 : n ≤ 40) (hz : z.Fit 1000000000) (w : World) : Calls Tryz.prog 132 #[.agg #[.int .i64 z.a, .int .i64 z.b, .int .i64 z.c, .int .i64 z.d], .int .i64 n] w fun e w' => e = .returned (.agg #[.int .i64 (Nm.up n.toNat z).a, .int .i64 (Nm.up n.toNat z).b, .int .i64 (Nm.up n.toNat z).c, .int .i64 (Nm.up n.toNat z).d]) ∧ Below w.heap.size w w' := by
 go_enter Tryz.func132, Tryz.ntmps132
 refine wk_start ?_
 refine wk_seq ?_
 refine Wr [1, 1] ?_
 refine Rgn fun g1 => ?_
 simp only [qz]
 refine Rgn fun g2 => ?_
 simp only [qz]
 refine Zr ?_
 refine wk_loopF [1, 5, 6, 7, 8, 9, 10, 11, 12, 13, 14, 15, 16, 17, 18] (fun mz f s => ∃ (m : Nat) (y : Nm) (j : Int), f 1 = .int .i64 j ∧ s = ((g2, .cells #[.int .i64 0, .int .i64 0, .int .i64 0, .int .i64 0] 42) :: ((g1, .cells #[.int .i64 y.a, .int .i64 y.b, .int .i64 y.c, .int .i64 y.d] 42) :: [])) ∧ mz = 20 - m ∧ m ≤ 20 ∧ Nm.up (2 * m) z = y ∧ y.Fit 1048576000000000 ∧ 2 * (m : Int) + j ≤ n ∧ n ≤ 2 * (m : Int) + j ∧ 0 ≤ j) ((fun (m : Nat) (y : Nm) (j : Int) => 20 - m) (0) (z) (n)) ?_ Kx ?_
 ·exact ⟨0, z, n, rfl, rfl, rfl, by omega, rfl, Nm.fit_mono hz Ox, by omega, by omega, by omega⟩
 rintro mz f1 s ⟨m, y, j, hs1_1, rfl, hn, hc1, hc2, hc3, hc4, hc5, hc6⟩
 simp only [Act.putF, List.foldl_cons, List.foldl_nil, hs1_1, Act.put, Act.eval, qW, Nat.reduceAdd, Bool.not_true, Bool.not_false]
 clear hs1_1
 have hy := Lib.hid hc2
 clear hc2
 obtain ⟨fa0, fa1, fb0, fb1, fc0, fc1, fd0, fd1⟩ := hc3
 refine wk_seq (wk_seq ?_)
 refine Wx [0, 0] ?_
 refine rfb_geq rfl rfl rfl rfl ?_
 rintro (_ | _) h1 <;> try simp only [qd, ne_eq] at h1
 ·simp only [qz]
  refine Zr ?_; refine Wx [0, 0] ?_; refine rfb_eql rfl rfl rfl rfl ?_
  rintro (_ | _) h2 <;> try simp only [qd, ne_eq] at h2
  ·simp only [qz]
   refine Zr ?_; refine Wr [0, 1] ?_; refine rf_loadR (n := 4) rfl rfl rfl UU42 rfl Kx (fun w hw => Kn.hd0 (Kn.tl hw)) rfl rfl (Nq ?_); refine rf_storeR (n := 4) rfl rfl Kx rfl rfl (UpdR.here _ _ _ Nl) Nz (Nw ?_); refine Zr ?_; refine ek_ret (fun w hw => ⟨rfl, _, run_results1 rfl rfl (Kn.hd0 hw) UU42 rfl Kx, ?_⟩); (try simp only [qz])
   have e : n.toNat = 2 * m := by omega
   exact ⟨by rw [e, hy.out], hw.below⟩
  simp only [qz]; refine Zr ?_; refine Wr [0, 0, 0, 0, 0, 0, 0, 0, 0, 0, 0, 0, 0, 0, 0, 0, 0, 0, 0, 0, 0, 1] ?_; refine Ia 1 1 1 UU42 ?_; refine rf_load rfl rfl rfl UU3 rfl (fun w hw => (Kn.hd0 (Kn.tl hw)).at rfl) (Nq ?_); refine Ia 3 1 3 UU42 ?_; refine rf_load rfl rfl rfl UU3 rfl (fun w hw => (Kn.hd0 (Kn.tl hw)).at rfl) (Nq ?_); refine rf_sub rfl rfl rfl rfl (wrap_ok Ox Ox) (Nq ?_)
  refine Ia 0 1 0 UU42 ?_; refine rf_load rfl rfl rfl UU3 rfl (fun w hw => (Kn.hd0 (Kn.tl hw)).at rfl) (Nq ?_); refine Ia 2 1 2 UU42 ?_; refine rf_load rfl rfl rfl UU3 rfl (fun w hw => (Kn.hd0 (Kn.tl hw)).at rfl) (Nq ?_); refine rf_add rfl rfl rfl rfl (wrap_ok Ox Ox) (Nq ?_); refine Ia 1 1 1 UU42 ?_; refine rf_load rfl rfl rfl UU3 rfl (fun w hw => (Kn.hd0 (Kn.tl hw)).at rfl) (Nq ?_)
  refine Ia 3 1 3 UU42 ?_; refine rf_load rfl rfl rfl UU3 rfl (fun w hw => (Kn.hd0 (Kn.tl hw)).at rfl) (Nq ?_); refine rf_add rfl rfl rfl rfl (wrap_ok Ox Ox) (Nq ?_); refine Ia 2 1 2 UU42 ?_; refine rf_load rfl rfl rfl UU3 rfl (fun w hw => (Kn.hd0 (Kn.tl hw)).at rfl) (Nq ?_); refine Ia 0 1 0 UU42 ?_; refine rf_load rfl rfl rfl UU3 rfl (fun w hw => (Kn.hd0 (Kn.tl hw)).at rfl) (Nq ?_)
  refine rf_sub rfl rfl rfl rfl (wrap_ok Ox Ox) (Nq ?_); refine rf_build (cs := fun a => #[a.eval (.tmp 25), a.eval (.tmp 30), a.eval (.tmp 35), a.eval (.tmp 40)]) rfl rfl Kx (Nq ?_); refine rf_storeR (n := 4) rfl rfl Kx rfl rfl (UpdR.there _ (UpdR.here _ _ _ Nl)) Nz (Nw ?_); refine Zr ?_; refine Wr [0, 1] ?_; refine rf_loadR (n := 4) rfl rfl rfl UU42 rfl Kx (fun w hw => Kn.hd0 (Kn.tl hw)) rfl rfl (Nq ?_)
  refine rf_storeR (n := 4) rfl rfl Kx rfl rfl (UpdR.here _ _ _ Nl) Nz (Nw ?_); refine Zr ?_; refine ek_ret (fun w hw => ⟨rfl, _, run_results1 rfl rfl (Kn.hd0 hw) UU42 rfl Kx, ?_⟩); (try simp only [qz])
  have e : n.toNat = 2 * m + 1 := by omega
  exact ⟨by rw [e, Nm.up_succ1, hy.out]; rfl, hw.below⟩
 simp only [qz]
 refine Zr ?_
 refine Wx [0] ?_
 refine rg_nil (ek_next (wk_block ?_))
 refine wk_unroll 4 ?_
 refine wk_seq ?_
 refine Wr [0] ?_
 refine rf_lss (b := true) rfl rfl rfl rfl (by decide) (Nq ?_)
 refine Zr ?_
 refine Wx [0, 0] ?_
 refine rg_nil (ek_next ?_)
 refine Wx [0, 0, 0, 0, 0, 1] ?_
 refine Ia 0 1 0 UU42 ?_
 refine rf_load rfl rfl rfl UU3 rfl (fun w hw => (Kn.hd0 (Kn.tl hw)).at rfl) (Nq ?_)
 refine rf_mul rfl rfl rfl rfl (wrap_ok Ox Ox) (Nq ?_)
 refine Ia 0 1 0 UU42 ?_
 refine rf_store rfl rfl Kx rfl rfl (UpdR.there _ (UpdR.here _ _ _ Nl)) Nz (Nq ?_)
 refine Zr ?_
 refine Wr [0, 0] ?_
 refine rf_add (r := 1) rfl rfl rfl rfl (by decide) (Zx ?_)
 refine Zr ?_
 refine Wr [0] ?_
 refine rf_lss (b := true) rfl rfl rfl rfl (by decide) (Nq ?_)
 refine Zr ?_
 refine Wx [0, 0] ?_
 refine rg_nil (ek_next ?_)
 refine Wx [0, 0, 0, 0, 0, 1] ?_
 refine Ia 1 1 1 UU42 ?_
 refine rf_load rfl rfl rfl UU3 rfl (fun w hw => (Kn.hd0 (Kn.tl hw)).at rfl) (Nq ?_)
 refine rf_mul rfl rfl rfl rfl (wrap_ok Ox Ox) (Nq ?_)
 refine Ia 1 1 1 UU42 ?_
 refine rf_store rfl rfl Kx rfl rfl (UpdR.there _ (UpdR.here _ _ _ Nl)) Nz (Nq ?_)
 refine Zr ?_
 refine Wr [0, 0] ?_
 refine rf_add (r := 2) rfl rfl rfl rfl (by decide) (Zx ?_)
 refine Zr ?_
 refine Wr [0] ?_
 refine rf_lss (b := true) rfl rfl rfl rfl (by decide) (Nq ?_)
 refine Zr ?_
 refine Wx [0, 0] ?_
 refine rg_nil (ek_next ?_)
 refine Wx [0, 0, 0, 0, 0, 1] ?_
 refine Ia 2 1 2 UU42 ?_
 refine rf_load rfl rfl rfl UU3 rfl (fun w hw => (Kn.hd0 (Kn.tl hw)).at rfl) (Nq ?_)
 refine rf_mul rfl rfl rfl rfl (wrap_ok Ox Ox) (Nq ?_)
 refine Ia 2 1 2 UU42 ?_
 refine rf_store rfl rfl Kx rfl rfl (UpdR.there _ (UpdR.here _ _ _ Nl)) Nz (Nq ?_)
 refine Zr ?_
 refine Wr [0, 0] ?_
 refine rf_add (r := 3) rfl rfl rfl rfl (by decide) (Zx ?_)
 refine Zr ?_
 refine Wr [0] ?_
 refine rf_lss (b := true) rfl rfl rfl rfl (by decide) (Nq ?_)
 refine Zr ?_
 refine Wx [0, 0] ?_
 refine rg_nil (ek_next ?_)
 refine Wx [0, 0, 0, 0, 0, 1] ?_
 refine Ia 3 1 3 UU42 ?_
 refine rf_load rfl rfl rfl UU3 rfl (fun w hw => (Kn.hd0 (Kn.tl hw)).at rfl) (Nq ?_)
 refine rf_mul rfl rfl rfl rfl (wrap_ok Ox Ox) (Nq ?_)
 refine Ia 3 1 3 UU42 ?_
 refine rf_store rfl rfl Kx rfl rfl (UpdR.there _ (UpdR.here _ _ _ Nl)) Nz (Nq ?_)
 refine Zr ?_
 refine Wr [0, 0] ?_
 refine rf_add (r := 4) rfl rfl rfl rfl (by decide) (Zx ?_)
 refine Zr ?_
 refine Wr [0] ?_
 refine rf_lss (b := false) rfl rfl rfl rfl (by decide) (Nq ?_)
 refine Zr ?_
 refine Wx [0, 0, 0] ?_
 refine rf_sub rfl rfl rfl rfl (wrap_ok Ox Ox) (Zx ?_)
 refine rg_nil ?_
 have hm : m + 1 ≤ 20 := by omega
 refine ek_roundF (20 - (m + 1)) Ox Kx ?_
 exact ⟨m + 1, _, _, rfl, (by rw [Nm.up_succ2, hy.out]), by rfl, hm, rfl, Nm.up2_fit hz hm, by omega, by omega, by omega⟩
def allOk (xs : List Nm) : Bool := xs.all Nm.okB
def validB (n : Int) (xs : List Nm) : Bool := decide (1 ≤ n) && (decide (n ≤ 6) && (decide ((xs.length : Int) = n * n) && allOk xs))
theorem allOk_false {xs : List Nm} {k : Nat} (hk : k < xs.length) (h : (nm xs k).okB = false) : allOk xs = false := by
 unfold allOk
 rw [List.all_eq_false]
 exact ⟨nm xs k, NmE.at_mem hk, by rw [h]; decide⟩
theorem allOk_true {xs : List Nm} (h : ∀ k, k < xs.length → (nm xs k).okB = true) : allOk xs = true := by
 unfold allOk
 rw [List.all_eq_true]
 intro z hz
 obtain ⟨k, hk, rfl⟩ := List.getElem_of_mem hz
 have := h k hk
 unfold nm El.at at this
 rwa [List.getD_eq_getElem?_getD, List.getElem?_eq_getElem hk] at this
theorem ok_at {xs : List Nm} (h : allOk xs = true) {k : Nat} (hk : k < xs.length) : (nm xs k).Ok := okB_iff.1 (List.all_eq_true.1 h _ (NmE.at_mem hk))
def evB (z : Nm) : Bool := decide ((z.a + z.c) % 2 = 0) && decide ((z.b + z.d) % 2 = 0)
theorem okB_alt (z : Nm) : z.okB = (decide (-1000000000 ≤ z.a ∧ z.a ≤ 1000000000 ∧ -1000000000 ≤ z.b ∧ z.b ≤ 1000000000 ∧ -1000000000 ≤ z.c ∧ z.c ≤ 1000000000 ∧ -1000000000 ≤ z.d ∧ z.d ≤ 1000000000) && (decide (0 ≤ z.k) && (decide (z.k ≤ 40) && (decide (z.k = 0) || !evB z)))) := by
 rw [Bool.eq_iff_iff, okB_iff]
 simp only [evB, Bool.and_eq_true, Bool.or_eq_true, decide_eq_true_eq, Bool.not_eq_true', Bool.and_eq_false_iff, decide_eq_false_iff_not]
 constructor
 ·rintro ⟨⟨h1, h2, h3, h4, h5, h6, h7, h8⟩, h9, h10, h11⟩
  refine ⟨⟨h1, h2, h3, h4, h5, h6, h7, h8⟩, h9, h10, ?_⟩; simp only [Nm.even] at h11
  omega
 rintro ⟨⟨h1, h2, h3, h4, h5, h6, h7, h8⟩, h9, h10, h11⟩
 refine ⟨⟨h1, h2, h3, h4, h5, h6, h7, h8⟩, h9, h10, ?_⟩
 simp only [Nm.even]
 omega
abbrev rngP (z : Nm) : Prop := -1000000000 ≤ z.a ∧ z.a ≤ 1000000000 ∧ -1000000000 ≤ z.b ∧ z.b ≤ 1000000000 ∧ -1000000000 ≤ z.c ∧ z.c ≤ 1000000000 ∧ -1000000000 ≤ z.d ∧ z.d ≤ 1000000000
theorem okB_rest {z : Nm} (h : rngP z) (h0 : 0 ≤ z.k) (h1 : z.k ≤ 40) : z.okB = (decide (z.k = 0) || !evB z) := by
 rw [okB_alt, decide_eq_true h, decide_eq_true h0, decide_eq_true h1]; rfl
theorem okB_no {z : Nm} (h : ¬ (rngP z ∧ 0 ≤ z.k ∧ z.k ≤ 40)) : z.okB = false := by
 rw [okB_alt]
 by_cases h1 : rngP z
 ·by_cases h2 : 0 ≤ z.k
  ·rw [decide_eq_false (p := z.k ≤ 40) (fun h3 => h ⟨h1, h2, h3⟩)]; simp
  rw [decide_eq_false h2]; simp
 rw [decide_eq_false h1]; rfl
theorem tmod2 (n : Int) : n.tmod 2 = 0 ↔ n % 2 = 0 := by
 rcases Int.le_total 0 n with h | h
 ·rw [Int.tmod_eq_emod_of_nonneg h]
 have e := Int.neg_tmod (-n) 2
 rw [Int.neg_neg, Int.tmod_eq_emod_of_nonneg (show 0 ≤ -n by omega)] at e
 omega
theorem rValidNum_any (z : Nm) (w : World) : Calls Tryz.prog 11 #[nmV z] w fun e w' => e = .returned (.bool z.okB) ∧ Below w.heap.size w w' := by
 go_enter Tryz.func11, Tryz.ntmps11
 refine wk_start ?_
 refine wk_seq ?_
 refine Wr [1, 0] ?_
 refine Rgn fun g1 => ?_
 refine Zx ?_
 refine Zr ?_
 refine Wx [0] ?_
 refine rg_nil (ek_next (wk_block ?_))
 refine wk_unroll 4 ?_
 refine wk_seq (wk_seq ?_)
 refine Wx [0, 0] ?_
 refine rf_lss (b := true) rfl rfl rfl rfl (by decide) (Nq ?_)
 refine Zr ?_
 refine Wx [0, 0, 0, 0, 0, 0, 0, 0, 0, 0, 0, 0] ?_
 refine Fd 3 0 UU44 ?_
 refine Ia 0 1 0 UU42 ?_
 refine rf_load rfl rfl rfl UU3 rfl (fun w hw => (Kn.hd0 hw).at rfl) (Nq ?_)
 refine rfb_lss rfl rfl rfl rfl ?_
 rintro (_ | _) h1 <;> try simp only [qd, ne_eq] at h1
 ·refine Zx ?_
  apply rg_soft_g
  case hg => rfl
  case hy => (intro w hw; exact Gy)
  simp only [qz]; refine Fd 3 0 UU44 ?_; refine Ia 0 1 0 UU42 ?_; refine rf_load rfl rfl rfl UU3 rfl (fun w hw => (Kn.hd0 hw).at rfl) (Nq ?_); refine rfb_gtr rfl rfl rfl rfl ?_
  rintro (_ | _) h2 <;> try simp only [qd, ne_eq] at h2
  ·refine Zx ?_
   refine Zr ?_; refine Wx [0, 0, 0] ?_; refine rf_add (r := 1) rfl rfl rfl rfl (by decide) (Zx ?_); refine Zr ?_; refine Wx [0, 0] ?_; refine rf_lss (b := true) rfl rfl rfl rfl (by decide) (Nq ?_); refine Zr ?_; refine Wx [0, 0, 0, 0, 0, 0, 0, 0, 0, 0, 0, 0] ?_; refine Fd 3 0 UU44 ?_; refine Ia 1 1 1 UU42 ?_; refine rf_load rfl rfl rfl UU3 rfl (fun w hw => (Kn.hd0 hw).at rfl) (Nq ?_)
   refine rfb_lss rfl rfl rfl rfl ?_
   rintro (_ | _) h3 <;> try simp only [qd, ne_eq] at h3
   ·refine Zx ?_
    apply rg_soft_g
    case hg => rfl
    case hy => (intro w hw; exact Gy)
    simp only [qz]; refine Fd 3 0 UU44 ?_; refine Ia 1 1 1 UU42 ?_; refine rf_load rfl rfl rfl UU3 rfl (fun w hw => (Kn.hd0 hw).at rfl) (Nq ?_); refine rfb_gtr rfl rfl rfl rfl ?_
    rintro (_ | _) h4 <;> try simp only [qd, ne_eq] at h4
    ·refine Zx ?_
     refine Zr ?_; refine Wx [0, 0, 0] ?_; refine rf_add (r := 2) rfl rfl rfl rfl (by decide) (Zx ?_); refine Zr ?_; refine Wx [0, 0] ?_; refine rf_lss (b := true) rfl rfl rfl rfl (by decide) (Nq ?_); refine Zr ?_; refine Wx [0, 0, 0, 0, 0, 0, 0, 0, 0, 0, 0, 0] ?_; refine Fd 3 0 UU44 ?_; refine Ia 2 1 2 UU42 ?_; refine rf_load rfl rfl rfl UU3 rfl (fun w hw => (Kn.hd0 hw).at rfl) (Nq ?_)
     refine rfb_lss rfl rfl rfl rfl ?_
     rintro (_ | _) h5 <;> try simp only [qd, ne_eq] at h5
     ·refine Zx ?_
      apply rg_soft_g
      case hg => rfl
      case hy => (intro w hw; exact Gy)
      simp only [qz]; refine Fd 3 0 UU44 ?_; refine Ia 2 1 2 UU42 ?_; refine rf_load rfl rfl rfl UU3 rfl (fun w hw => (Kn.hd0 hw).at rfl) (Nq ?_); refine rfb_gtr rfl rfl rfl rfl ?_
      rintro (_ | _) h6 <;> try simp only [qd, ne_eq] at h6
      ·refine Zx ?_
       refine Zr ?_; refine Wx [0, 0, 0] ?_; refine rf_add (r := 3) rfl rfl rfl rfl (by decide) (Zx ?_); refine Zr ?_; refine Wx [0, 0] ?_; refine rf_lss (b := true) rfl rfl rfl rfl (by decide) (Nq ?_); refine Zr ?_; refine Wx [0, 0, 0, 0, 0, 0, 0, 0, 0, 0, 0, 0] ?_; refine Fd 3 0 UU44 ?_; refine Ia 3 1 3 UU42 ?_; refine rf_load rfl rfl rfl UU3 rfl (fun w hw => (Kn.hd0 hw).at rfl) (Nq ?_)
       refine rfb_lss rfl rfl rfl rfl ?_
       rintro (_ | _) h7 <;> try simp only [qd, ne_eq] at h7
       ·refine Zx ?_
        apply rg_soft_g
        case hg => rfl
        case hy => (intro w hw; exact Gy)
        simp only [qz]; refine Fd 3 0 UU44 ?_; refine Ia 3 1 3 UU42 ?_; refine rf_load rfl rfl rfl UU3 rfl (fun w hw => (Kn.hd0 hw).at rfl) (Nq ?_); refine rfb_gtr rfl rfl rfl rfl ?_
        rintro (_ | _) h8 <;> try simp only [qd, ne_eq] at h8
        ·refine Zx ?_
         refine Zr ?_; refine Wx [0, 0, 0] ?_; refine rf_add (r := 4) rfl rfl rfl rfl (by decide) (Zx ?_); refine Zr ?_; refine Wx [0, 0] ?_; refine rf_lss (b := false) rfl rfl rfl rfl (by decide) (Nq ?_); refine Zr ?_; refine Wr [0, 0, 0, 0, 0, 0, 0, 0] ?_; refine Fd 0 4 UU44 ?_; refine rf_load rfl rfl rfl UU3 rfl (fun w hw => (Kn.hd0 hw).at rfl) (Nq ?_); refine rfb_lss rfl rfl rfl rfl ?_
         rintro (_ | _) h9 <;> try simp only [qd, ne_eq] at h9
         ·refine Zx ?_
          refine Fd 0 4 UU44 ?_; refine rf_load rfl rfl rfl UU3 rfl (fun w hw => (Kn.hd0 hw).at rfl) (Nq ?_); refine rfb_gtr rfl rfl rfl rfl ?_
          rintro (_ | _) h10 <;> try simp only [qd, ne_eq] at h10
          ·refine Zx ?_
           refine Zr ?_; refine Wr [0, 0, 0, 0, 0, 0, 0, 0, 0, 0, 0, 0, 0, 0, 0, 0, 0, 0, 0, 0, 0, 0, 0, 0, 0, 0] ?_; refine Fd 0 4 UU44 ?_; refine rf_load rfl rfl rfl UU3 rfl (fun w hw => (Kn.hd0 hw).at rfl) (Nq ?_); refine rfb_eql rfl rfl rfl rfl ?_
           rintro (_ | _) h11 <;> try simp only [qd, ne_eq] at h11
           ·refine Zx ?_
            refine Fd 3 0 UU44 ?_; refine Ia 0 1 0 UU42 ?_; refine rf_load rfl rfl rfl UU3 rfl (fun w hw => (Kn.hd0 hw).at rfl) (Nq ?_); refine Fd 3 0 UU44 ?_; refine Ia 2 1 2 UU42 ?_; refine rf_load rfl rfl rfl UU3 rfl (fun w hw => (Kn.hd0 hw).at rfl) (Nq ?_); refine rf_add rfl rfl rfl rfl (wrap_ok Ox Ox) (Nq ?_); refine rf_rem (r := (z.a + z.c).tmod 2) rfl rfl rfl rfl (by decide) rfl (Nq ?_)
            refine rfb_neq rfl rfl rfl rfl ?_
            rintro (_ | _) h12 <;> try simp only [qd, ne_eq] at h12
            ·refine Zx ?_
             refine Fd 3 0 UU44 ?_; refine Ia 1 1 1 UU42 ?_; refine rf_load rfl rfl rfl UU3 rfl (fun w hw => (Kn.hd0 hw).at rfl) (Nq ?_); refine Fd 3 0 UU44 ?_; refine Ia 3 1 3 UU42 ?_; refine rf_load rfl rfl rfl UU3 rfl (fun w hw => (Kn.hd0 hw).at rfl) (Nq ?_); refine rf_add rfl rfl rfl rfl (wrap_ok Ox Ox) (Nq ?_); refine rf_rem (r := (z.b + z.d).tmod 2) rfl rfl rfl rfl (by decide) rfl (Nq ?_)
             refine rf_neq rfl rfl rfl rfl rfl (Zx ?_); refine Zr ?_
             refine Er fun w hw => ?_
             (try simp only [qz])
             exact ⟨by first | rw [okB_no Ox] | (rw [okB_rest Ox Ox Ox]; unfold evB; (try simp only [ne_eq, tmod2] at *); by_cases hA : (z.a + z.c) % 2 = 0 <;> by_cases hB : (z.b + z.d) % 2 = 0 <;> simp_all [tmod2]), hw.below⟩
            refine Zx ?_; refine Zr ?_
            refine Er fun w hw => ?_
            (try simp only [qz])
            exact ⟨by first | rw [okB_no Ox] | (rw [okB_rest Ox Ox Ox]; unfold evB; (try simp only [ne_eq, tmod2] at *); by_cases hA : (z.a + z.c) % 2 = 0 <;> by_cases hB : (z.b + z.d) % 2 = 0 <;> simp_all [tmod2]), hw.below⟩
           refine Zx ?_; refine Zr ?_
           refine Er fun w hw => ?_
           (try simp only [qz])
           exact ⟨by first | rw [okB_no Ox] | (rw [okB_rest Ox Ox Ox]; unfold evB; (try simp only [ne_eq, tmod2] at *); by_cases hA : (z.a + z.c) % 2 = 0 <;> by_cases hB : (z.b + z.d) % 2 = 0 <;> simp_all [tmod2]), hw.below⟩
          refine Zx ?_; refine Zr ?_; refine Wx [0] ?_; refine Zr ?_
          refine Er fun w hw => ?_
          (try simp only [qz])
          exact ⟨by first | rw [okB_no Ox] | (rw [okB_rest Ox Ox Ox]; unfold evB; (try simp only [ne_eq, tmod2] at *); by_cases hA : (z.a + z.c) % 2 = 0 <;> by_cases hB : (z.b + z.d) % 2 = 0 <;> simp_all [tmod2]), hw.below⟩
         refine Zx ?_; refine Zr ?_; refine Wx [0] ?_; refine Zr ?_
         refine Er fun w hw => ?_
         (try simp only [qz])
         exact ⟨by first | rw [okB_no Ox] | (rw [okB_rest Ox Ox Ox]; unfold evB; (try simp only [ne_eq, tmod2] at *); by_cases hA : (z.a + z.c) % 2 = 0 <;> by_cases hB : (z.b + z.d) % 2 = 0 <;> simp_all [tmod2]), hw.below⟩
        refine Zx ?_; refine Zr ?_; refine Wx [0] ?_; refine Zr ?_
        refine Er fun w hw => ?_
        (try simp only [qz])
        exact ⟨by first | rw [okB_no Ox] | (rw [okB_rest Ox Ox Ox]; unfold evB; (try simp only [ne_eq, tmod2] at *); by_cases hA : (z.a + z.c) % 2 = 0 <;> by_cases hB : (z.b + z.d) % 2 = 0 <;> simp_all [tmod2]), hw.below⟩
       refine Zx ?_; refine Zr ?_; refine Wx [0] ?_; refine Zr ?_
       refine Er fun w hw => ?_
       (try simp only [qz])
       exact ⟨by first | rw [okB_no Ox] | (rw [okB_rest Ox Ox Ox]; unfold evB; (try simp only [ne_eq, tmod2] at *); by_cases hA : (z.a + z.c) % 2 = 0 <;> by_cases hB : (z.b + z.d) % 2 = 0 <;> simp_all [tmod2]), hw.below⟩
      refine Zx ?_; refine Zr ?_; refine Wx [0] ?_; refine Zr ?_
      refine Er fun w hw => ?_
      (try simp only [qz])
      exact ⟨by first | rw [okB_no Ox] | (rw [okB_rest Ox Ox Ox]; unfold evB; (try simp only [ne_eq, tmod2] at *); by_cases hA : (z.a + z.c) % 2 = 0 <;> by_cases hB : (z.b + z.d) % 2 = 0 <;> simp_all [tmod2]), hw.below⟩
     refine Zx ?_; refine Zr ?_; refine Wx [0] ?_; refine Zr ?_
     refine Er fun w hw => ?_
     (try simp only [qz])
     exact ⟨by first | rw [okB_no Ox] | (rw [okB_rest Ox Ox Ox]; unfold evB; (try simp only [ne_eq, tmod2] at *); by_cases hA : (z.a + z.c) % 2 = 0 <;> by_cases hB : (z.b + z.d) % 2 = 0 <;> simp_all [tmod2]), hw.below⟩
    refine Zx ?_; refine Zr ?_; refine Wx [0] ?_; refine Zr ?_
    refine Er fun w hw => ?_
    (try simp only [qz])
    exact ⟨by first | rw [okB_no Ox] | (rw [okB_rest Ox Ox Ox]; unfold evB; (try simp only [ne_eq, tmod2] at *); by_cases hA : (z.a + z.c) % 2 = 0 <;> by_cases hB : (z.b + z.d) % 2 = 0 <;> simp_all [tmod2]), hw.below⟩
   refine Zx ?_; refine Zr ?_; refine Wx [0] ?_; refine Zr ?_
   refine Er fun w hw => ?_
   (try simp only [qz])
   exact ⟨by first | rw [okB_no Ox] | (rw [okB_rest Ox Ox Ox]; unfold evB; (try simp only [ne_eq, tmod2] at *); by_cases hA : (z.a + z.c) % 2 = 0 <;> by_cases hB : (z.b + z.d) % 2 = 0 <;> simp_all [tmod2]), hw.below⟩
  refine Zx ?_; refine Zr ?_; refine Wx [0] ?_; refine Zr ?_
  refine Er fun w hw => ?_
  (try simp only [qz])
  exact ⟨by first | rw [okB_no Ox] | (rw [okB_rest Ox Ox Ox]; unfold evB; (try simp only [ne_eq, tmod2] at *); by_cases hA : (z.a + z.c) % 2 = 0 <;> by_cases hB : (z.b + z.d) % 2 = 0 <;> simp_all [tmod2]), hw.below⟩
 refine Zx ?_
 refine Zr ?_
 refine Wx [0] ?_
 refine Zr ?_
 refine Er fun w hw => ?_
 (try simp only [qz])
 exact ⟨by first | rw [okB_no Ox] | (rw [okB_rest Ox Ox Ox]; unfold evB; (try simp only [ne_eq, tmod2] at *); by_cases hA : (z.a + z.c) % 2 = 0 <;> by_cases hB : (z.b + z.d) % 2 = 0 <;> simp_all [tmod2]), hw.below⟩
theorem numbers1_any (z : Nm) (w : World) : Calls Tryz.prog 122 #[nmV z] w fun e w' => e = .returned (.bool (!z.okB)) ∧ Below w.heap.size w w' := by
 go_enter Tryz.func122, Tryz.ntmps122
 refine wk_start ?_
 refine wk_seq ?_
 refine Wr [1, 0] ?_
 refine Rgn fun g1 => ?_
 refine Zx ?_
 refine Zr ?_
 refine Wr [0, 1, 0, 0] ?_
 refine rf_loadR (n := 5) rfl rfl rfl UU44 rfl Kx (fun w hw => Kn.hd0 hw) rfl rfl (Nq ?_)
 apply rg_pure Rx Kx
 case hargs => exact Ax
 case h => exact fun w hw => amvalid_any z w
 case hz => exact Nz
 refine Zx ?_
 refine Zr ?_
 refine Er fun w hw => ?_
 (try simp only [qz])
 first | exact ⟨rfl, hw.below⟩ | exact ⟨trivial, hw.below⟩ | exact hw.below
theorem index_num (xs : List Nm) (a : Option Addr) (c : Nat) (hl : xs.length ≤ 1000000) (w : World) (hA : AS w a (nms xs)) : Calls Tryz.prog 94 #[.slice a xs.length c, .func (.func 122) #[] #[]] w fun e w' => ∃ i : Int, e = .returned (.int .i64 i) ∧ decide (0 ≤ i) = !allOk xs ∧ Below w.heap.size w w' := by
 go_enter Tryz.func94, Tryz.ntmps94
 refine wk_start ?_
 refine wk_seq ?_
 refine Wx [0] ?_
 refine Zr ?_
 refine Wx [0, 0, 0] ?_
 refine rf_len rfl rfl rfl UU26 (Zx ?_)
 refine Zr ?_
 refine wk_loopF [4, 5, 8, 9, 10, 11, 12, 13, 14, 15, 16, 17, 18] (fun mz f s => ∃ (k : Nat), f 4 = .int .i64 0 ∧ f 8 = .int .i64 k ∧ s = [] ∧ mz = xs.length - k ∧ k ≤ xs.length ∧ (∀ j, j < k → (nm xs j).okB = true)) ((fun (k : Nat) => xs.length - k) (0)) ?_ Kx ?_
 ·exact ⟨0, rfl, rfl, rfl, rfl, by omega, fun j hj => by omega⟩
 rintro mz f1 s ⟨k, hs1_4, hs1_8, rfl, hn, hd1, hd2⟩
 simp only [Act.putF, List.foldl_cons, List.foldl_nil, hs1_4, hs1_8, Act.put, Act.eval, qW, Nat.reduceAdd, Bool.not_true, Bool.not_false]
 clear hs1_4 hs1_8
 refine wk_seq ?_
 refine Wr [0] ?_
 refine rfb_lss rfl rfl rfl rfl ?_
 rintro (_ | _) h1 <;> try simp only [qd, ne_eq] at h1
 ·simp only [qz]
  refine Zr ?_; refine Wx [0] ?_; refine Zr ?_
  refine Er fun w hw => ?_
  (try simp only [qz])
  exact ⟨-1, rfl, by rw [allOk_true (fun j hj => hd2 j Ox)]; simp, hw.below⟩
 simp only [qz]
 obtain ⟨b, off, rfl, hlt, hcell⟩ := AS.openN hA Ox
 refine Zr ?_
 refine Wx [0, 0] ?_
 refine Zr ?_
 refine Wx [0, 0, 0, 0, 0, 1] ?_
 refine rf_indexS (n := k) (sz := 5) (j := off + k * 5) rfl rfl rfl rfl UU26 Kx Ox Ox rfl (Nq ?_)
 refine rf_loadC (n := 5) (vs := [.int .i64 (nm xs k).a, .int .i64 (nm xs k).b, .int .i64 (nm xs k).c, .int .i64 (nm xs k).d, .int .i64 (nm xs k).k]) rfl rfl rfl UU44 rfl Kx rfl (fun w hw => atN_range ((hcell k Ox).kn hw hlt (by simp))) (Nq ?_)
 refine CV.rg_callVb (f := 122) (caps := #[]) (vs := #[nmV (nm xs k)]) (b := !(nm xs k).okB) Rx rfl Kx (by simp only [qm, qs, Act.eval] <;> rfl) (fun w hw => numbers1_any (nm xs k) w) Nz ?_
 rintro (_ | _) h2 <;> try simp only [qd, ne_eq] at h2
 ·simp only [qz]
  refine Zr ?_; refine Wr [0, 0] ?_; refine rf_add rfl rfl rfl rfl (wrap_ok Ox Ox) (Zx ?_); refine rg_nil ?_; refine ek_roundF (xs.length - (k + 1)) Ox Kx ?_
  exact ⟨k + 1, rfl, rfl, by rfl, by rfl, by omega, (fun j hj => by rcases (by omega : j < k ∨ j = k) with h | rfl; exact hd2 j h; simpa using h2)⟩
 simp only [qz]
 refine Zr ?_
 refine Wx [0, 0] ?_
 refine Zr ?_
 refine Er fun w hw => ?_
 (try simp only [qz])
 exact ⟨(k : Int), rfl, by rw [allOk_false (k := k) Ox (by simpa using h2)]; simp, hw.below⟩
theorem contains_num (xs : List Nm) (a : Option Addr) (c : Nat) (hl : xs.length ≤ 1000000) (w : World) (hA : AS w a (nms xs)) : Calls Tryz.prog 52 #[.slice a xs.length c, .func (.func 122) #[] #[]] w fun e w' => e = .returned (.bool (!allOk xs)) ∧ Below w.heap.size w w' := by
 go_enter Tryz.func52, Tryz.ntmps52
 refine wk_start ?_
 refine wk_seq ?_
 refine Wx [0] ?_
 refine Zr ?_
 refine Wx [0, 0, 1, 0, 0] ?_
 apply rg_call Rx Kx
 case hargs => exact Ax
 refine fun w hw => (index_num xs a c hl w (hA.kn0 hw)).mono ?_
 rintro e w' ⟨i, rfl, hi, hb⟩
 refine ⟨_, _, rfl, hw.call hb, Nz, ?_⟩
 simp only [qz]
 refine rf_geq rfl rfl rfl rfl rfl (Zx ?_)
 refine Zr ?_
 refine Er fun w hw => ?_
 (try simp only [qz])
 exact ⟨by rw [← hi], hw.below⟩
theorem numbers_any (xs : List Nm) (a : Option Addr) (c : Nat) (hl : xs.length ≤ 1000000) (w : World) (hA : AS w a (nms xs)) : Calls Tryz.prog 79 #[.slice a xs.length c] w fun e w' => e = .returned (.bool (allOk xs)) ∧ Below w.heap.size w w' := by
 go_enter Tryz.func79, Tryz.ntmps79
 refine wk_start ?_
 refine wk_seq ?_
 refine Wx [0] ?_
 refine Zr ?_
 refine Wx [0, 1, 0, 0] ?_
 apply rg_pure Rx Kx
 case hargs => exact Ax
 case h => exact fun w hw => contains_num xs a c hl w (hA.kn0 hw)
 case hz => exact Nz
 refine Zx ?_
 refine Zr ?_
 refine Er fun w hw => ?_
 (try simp only [qz])
 exact ⟨by rw [Bool.not_not], hw.below⟩
theorem small_sq {n : Int} (h0 : 1 ≤ n) (h1 : n ≤ 6) : 1 ≤ n * n ∧ n * n ≤ 36 := by
 have : n = 1 ∨ n = 2 ∨ n = 3 ∨ n = 4 ∨ n = 5 ∨ n = 6 := by omega
 rcases this with rfl | rfl | rfl | rfl | rfl | rfl <;> decide
theorem mvalid_any (n : Int) (xs : List Nm) (a : Option Addr) (c : Nat) (hl : xs.length ≤ 1000000) (w : World) (hA : AS w a (nms xs)) : Calls Tryz.prog 33 #[.agg #[.int .i64 n, .slice a xs.length c]] w fun e w' => e = .returned (.bool (validB n xs)) ∧ Below w.heap.size w w' := by
 go_enter Tryz.func33, Tryz.ntmps33
 refine wk_start ?_
 refine wk_seq ?_
 refine Wr [1, 0] ?_
 refine Rgn fun g1 => ?_
 refine Zx ?_
 refine Zr ?_
 refine Wr [0, 0, 0, 0, 0, 0, 0, 0, 0, 0, 0, 0, 0, 0, 0, 0, 0, 0, 0, 0, 0, 0, 1, 0, 0] ?_
 refine Fd 0 0 UU28 ?_
 refine rf_load rfl rfl rfl UU3 rfl (fun w hw => (Kn.hd0 hw).at rfl) (Nq ?_)
 refine rfb_geq rfl rfl rfl rfl ?_
 rintro (_ | _) h1 <;> try simp only [qd, ne_eq] at h1
 ·refine Zx ?_
  refine rg_skip_h Rx Nz ?_; refine Zx ?_; refine Zr ?_
  refine Er fun w hw => ?_
  (try simp only [qz])
  exact ⟨by unfold validB; simp [*] <;> (try omega), hw.below⟩
 refine Zx ?_
 refine Fd 0 0 UU28 ?_
 refine rf_load rfl rfl rfl UU3 rfl (fun w hw => (Kn.hd0 hw).at rfl) (Nq ?_)
 refine rfb_leq rfl rfl rfl rfl ?_
 rintro (_ | _) h2 <;> try simp only [qd, ne_eq] at h2
 ·refine Zx ?_
  refine rg_skip_h Rx Nz ?_; refine Zx ?_; refine Zr ?_
  refine Er fun w hw => ?_
  (try simp only [qz])
  exact ⟨by unfold validB; simp [*] <;> (try omega), hw.below⟩
 refine Zx ?_
 refine Fd 0 1 UU28 ?_
 refine rf_load rfl rfl rfl UU26 rfl (fun w hw => (Kn.hd0 hw).at rfl) (Nq ?_)
 refine rf_len rfl rfl rfl UU26 (Nq ?_)
 refine Fd 0 0 UU28 ?_
 refine rf_load rfl rfl rfl UU3 rfl (fun w hw => (Kn.hd0 hw).at rfl) (Nq ?_)
 refine Fd 0 0 UU28 ?_
 refine rf_load rfl rfl rfl UU3 rfl (fun w hw => (Kn.hd0 hw).at rfl) (Nq ?_)
 have hnn := small_sq (n := n) Ox Ox
 refine rf_mul rfl rfl rfl rfl (wrap_ok Ox Ox) (Nq ?_)
 refine rfb_eql rfl rfl rfl rfl ?_
 rintro (_ | _) h3 <;> try simp only [qd, ne_eq] at h3
 ·refine Zx ?_
  refine rg_skip_h Rx Nz ?_; refine Zx ?_; refine Zr ?_
  refine Er fun w hw => ?_
  (try simp only [qz])
  exact ⟨by unfold validB; simp [*] <;> (try omega), hw.below⟩
 refine Zx ?_
 refine Fd 0 1 UU28 ?_
 refine rf_load rfl rfl rfl UU26 rfl (fun w hw => (Kn.hd0 hw).at rfl) (Nq ?_)
 apply rg_pure Rx Kx
 case hargs => exact Ax
 case h => exact fun w hw => numbers_any xs a c hl w (hA.kn0 hw)
 case hz => exact Nz
 refine Zx ?_
 refine Zr ?_
 refine Er fun w hw => ?_
 (try simp only [qz])
 exact ⟨by unfold validB; simp [*] <;> (try omega), hw.below⟩
def expo (xs : List Nm) : Int := xs.foldl (fun k z => if k < z.k then z.k else k) 0
theorem expo_succ {xs : List Nm} {i : Nat} (h : i < xs.length) : expo (xs.take (i + 1)) = if expo (xs.take i) < (nm xs i).k then (nm xs i).k else expo (xs.take i) := by
 have e : xs.take (i + 1) = xs.take i ++ [nm xs i] := by
  rw [List.take_succ, List.getElem?_eq_getElem h]
  unfold nm El.at
  rw [List.getD_eq_getElem?_getD, List.getElem?_eq_getElem h]
  rfl
 unfold expo
 rw [e, List.foldl_append]
 rfl
theorem expo_all {xs : List Nm} {i : Nat} (h : xs.length ≤ i) : expo (xs.take i) = expo xs := by rw [List.take_of_length_le h]
theorem exponent_any (xs : List Nm) (a : Option Addr) (c : Nat) (hl : xs.length ≤ 1000000) (w : World) (hA : AS w a (nms xs)) : Calls Tryz.prog 108 #[.slice a xs.length c] w fun e w' => e = .returned (.int .i64 (expo xs)) ∧ Below w.heap.size w w' := by
 go_enter Tryz.func108, Tryz.ntmps108
 refine wk_start ?_
 refine wk_seq ?_
 refine Wm [0] ?_
 refine Zr ?_
 refine Wm [0] ?_
 refine Zr ?_
 refine Wm [0, 0, 0] ?_
 refine rf_len rfl rfl rfl UU26 (Zm ?_)
 refine Zr ?_
 refine wk_loopF [3, 5, 8, 9, 10, 11, 12, 13, 14, 15, 16] (fun mz f s => ∃ (i : Nat) (k : Int), f 3 = .int .i64 k ∧ f 8 = .int .i64 i ∧ s = [] ∧ mz = xs.length - i ∧ i ≤ xs.length ∧ Hid (expo (xs.take i) = k)) ((fun (i : Nat) (k : Int) => xs.length - i) (0) (0)) ?_ Kx ?_
 ·exact ⟨0, 0, rfl, rfl, rfl, rfl, by omega, Lib.hid rfl⟩
 rintro mz f1 s ⟨i, k, hs1_3, hs1_8, rfl, hn, hd1, hd2⟩
 simp only [Act.putF, List.foldl_cons, List.foldl_nil, hs1_3, hs1_8, Act.put, Act.eval, qW, Nat.reduceAdd, Bool.not_true, Bool.not_false]
 clear hs1_3 hs1_8
 have hk := hd2
 clear hd2
 refine wk_seq ?_
 refine Wr [0] ?_
 refine rfb_lss rfl rfl rfl rfl ?_
 rintro (_ | _) h1 <;> try simp only [qd, ne_eq] at h1
 ·simp only [qz]
  refine Zr ?_; refine Wm [0, 0] ?_; refine Zr ?_
  refine Er fun w hw => ?_
  (try simp only [qz])
  exact ⟨by rw [← hk.out, expo_all Ox], hw.below⟩
 simp only [qz]
 obtain ⟨b, off, rfl, hlt, hcell⟩ := AS.openN hA Ox
 refine Zr ?_
 refine Wr [0, 0, 1, 1] ?_
 refine rf_indexS (n := i) (sz := 5) (j := off + i * 5) rfl rfl rfl rfl UU26 Kx Ox Ox rfl (Nq ?_)
 refine rf_loadC (n := 5) (vs := [.int .i64 (nm xs i).a, .int .i64 (nm xs i).b, .int .i64 (nm xs i).c, .int .i64 (nm xs i).d, .int .i64 (nm xs i).k]) rfl rfl rfl UU44 rfl Kx rfl (fun w hw => atN_range ((hcell i Ox).kn hw hlt (by simp))) (Nq ?_)
 refine Rgn fun g1 => ?_
 simp only [qz]
 refine rf_storeR (n := 5) rfl rfl Kx rfl rfl (UpdR.here _ _ _ Nl) Nz (Nw ?_)
 refine rg_nil (ek_next ?_)
 refine Wm [0, 0, 0, 0, 0] ?_
 refine Fd 0 4 UU44 ?_
 refine rf_load rfl rfl rfl UU3 rfl (fun w hw => (Kn.hd0 hw).at rfl) (Nq ?_)
 refine Zk ?_
 refine Zr ?_
 refine Wr [0, 0] ?_
 refine rf_add rfl rfl rfl rfl (wrap_ok Ox Ox) (Zm ?_)
 refine rg_nil ?_
 refine ek_sub (sk _ sn) ?_
 refine ek_roundF (xs.length - (i + 1)) Ox Kx ?_
 exact ⟨i + 1, if k < (nm xs i).k then (nm xs i).k else k, rfl, rfl, by rfl, by rfl, by omega, (Lib.hid (by rw [expo_succ Ox, hk.out]))⟩
theorem scaled_any (z : Nm) (k : Int) (hz : z.Fit 1000000000) (h0 : 0 ≤ z.k) (h1 : z.k ≤ k) (h2 : k ≤ 40) (w : World) : Calls Tryz.prog 128 #[nmV z, .int .i64 k] w fun e w' => e = .returned (.agg #[.int .i64 (z.to k).a, .int .i64 (z.to k).b, .int .i64 (z.to k).c, .int .i64 (z.to k).d]) ∧ Below w.heap.size w w' := by
 go_enter Tryz.func128, Tryz.ntmps128
 refine wk_start ?_
 refine wk_seq ?_
 refine Wr [1, 1] ?_
 refine Rgn fun g1 => ?_
 simp only [qz]
 refine Rgn fun g2 => ?_
 simp only [qz]
 refine Zr ?_
 refine Wr [0, 0, 1, 1] ?_
 refine Fd 3 0 UU44 ?_
 refine rf_loadR (n := 4) rfl rfl rfl UU42 rfl Kx (fun w hw => Kn.hd0 (Kn.tl hw)) rfl rfl (Nq ?_)
 refine Rgn fun g3 => ?_
 simp only [qz]
 refine rf_storeR (n := 4) rfl rfl Kx rfl rfl (UpdR.here _ _ _ Nl) Nz (Nw ?_)
 refine Zr ?_
 refine Wm [0, 0, 0, 0, 0] ?_
 refine Fd 0 4 UU44 ?_
 refine rf_load rfl rfl rfl UU3 rfl (fun w hw => (Kn.hd0 (Kn.tl (Kn.tl hw))).at rfl) (Nq ?_)
 refine rf_sub rfl rfl rfl rfl (wrap_ok Ox Ox) (Zm ?_)
 refine Zr ?_
 refine wk_loopF [12, 13, 14, 15, 16, 17, 18, 19, 20, 21, 22, 23, 24, 25, 26, 27, 28, 29, 30, 31, 32, 33, 34, 35] (fun mz f s => ∃ (j : Nat) (y : Nm), f 12 = .int .i64 j ∧ s = ((g3, .cells #[.int .i64 y.a, .int .i64 y.b, .int .i64 y.c, .int .i64 y.d] 42) :: ((g2, .cells #[.int .i64 0, .int .i64 0, .int .i64 0, .int .i64 0] 42) :: ((g1, .cells #[.int .i64 z.a, .int .i64 z.b, .int .i64 z.c, .int .i64 z.d, .int .i64 z.k] 44) :: []))) ∧ mz = (k - z.k).toNat - j ∧ (j : Int) ≤ k - z.k ∧ Hid (Nm.up j z = y)) ((fun (j : Nat) (y : Nm) => (k - z.k).toNat - j) (0) (z)) ?_ Kx ?_
 ·exact ⟨0, z, rfl, rfl, rfl, Ox, Lib.hid rfl⟩
 rintro mz f1 s ⟨j, y, hs1_12, rfl, hn, hd1, hd2⟩
 simp only [Act.putF, List.foldl_cons, List.foldl_nil, hs1_12, Act.put, Act.eval, qW, Nat.reduceAdd, Bool.not_true, Bool.not_false]
 clear hs1_12
 have hy := hd2
 clear hd2
 have hfy := Nm.up40_fit (n := j) hz Ox
 rw [hy.out] at hfy
 obtain ⟨fa0, fa1, fb0, fb1, fc0, fc1, fd0, fd1⟩ := hfy
 refine wk_seq ?_
 refine Wr [0] ?_
 refine rfb_lss rfl rfl rfl rfl ?_
 rintro (_ | _) h1 <;> try simp only [qd, ne_eq] at h1
 ·simp only [qz]
  refine Zr ?_; refine Wr [0, 1] ?_; refine rf_loadR (n := 4) rfl rfl rfl UU42 rfl Kx (fun w hw => Kn.hd0 hw) rfl rfl (Nq ?_); refine rf_storeR (n := 4) rfl rfl Kx rfl rfl (UpdR.there _ (UpdR.here _ _ _ Nl)) Nz (Nw ?_); refine Zr ?_; refine ek_ret (fun w hw => ⟨rfl, _, run_results1 rfl rfl (Kn.hd0 (Kn.tl hw)) UU42 rfl Kx, ?_⟩); (try simp only [qz])
  have e : z.to k = y := by unfold Nm.to; rw [show (k - z.k).toNat = j by omega, hy.out]
  exact ⟨by rw [e], hw.below⟩
 simp only [qz]
 refine Zr ?_
 refine Wr [0, 0, 0, 0, 0, 0, 0, 0, 0, 0, 0, 0, 0, 0, 0, 0, 0, 0, 0, 0, 0, 1] ?_
 refine Ia 1 1 1 UU42 ?_
 refine rf_load rfl rfl rfl UU3 rfl (fun w hw => (Kn.hd0 hw).at rfl) (Nq ?_)
 refine Ia 3 1 3 UU42 ?_
 refine rf_load rfl rfl rfl UU3 rfl (fun w hw => (Kn.hd0 hw).at rfl) (Nq ?_)
 refine rf_sub rfl rfl rfl rfl (wrap_ok Ox Ox) (Nq ?_)
 refine Ia 0 1 0 UU42 ?_
 refine rf_load rfl rfl rfl UU3 rfl (fun w hw => (Kn.hd0 hw).at rfl) (Nq ?_)
 refine Ia 2 1 2 UU42 ?_
 refine rf_load rfl rfl rfl UU3 rfl (fun w hw => (Kn.hd0 hw).at rfl) (Nq ?_)
 refine rf_add rfl rfl rfl rfl (wrap_ok Ox Ox) (Nq ?_)
 refine Ia 1 1 1 UU42 ?_
 refine rf_load rfl rfl rfl UU3 rfl (fun w hw => (Kn.hd0 hw).at rfl) (Nq ?_)
 refine Ia 3 1 3 UU42 ?_
 refine rf_load rfl rfl rfl UU3 rfl (fun w hw => (Kn.hd0 hw).at rfl) (Nq ?_)
 refine rf_add rfl rfl rfl rfl (wrap_ok Ox Ox) (Nq ?_)
 refine Ia 2 1 2 UU42 ?_
 refine rf_load rfl rfl rfl UU3 rfl (fun w hw => (Kn.hd0 hw).at rfl) (Nq ?_)
 refine Ia 0 1 0 UU42 ?_
 refine rf_load rfl rfl rfl UU3 rfl (fun w hw => (Kn.hd0 hw).at rfl) (Nq ?_)
 refine rf_sub rfl rfl rfl rfl (wrap_ok Ox Ox) (Nq ?_)
 refine rf_build (cs := fun a => #[a.eval (.tmp 18), a.eval (.tmp 23), a.eval (.tmp 28), a.eval (.tmp 33)]) rfl rfl Kx (Nq ?_)
 refine rf_storeR (n := 4) rfl rfl Kx rfl rfl (UpdR.here _ _ _ Nl) Nz (Nw ?_)
 refine Zr ?_
 refine Wr [0, 0] ?_
 refine rf_add rfl rfl rfl rfl (wrap_ok Ox Ox) (Zm ?_)
 refine rg_nil ?_
 refine ek_roundF ((k - z.k).toNat - (j + 1)) Ox Kx ?_
 exact ⟨j + 1, y.tr, rfl, Rx, by rfl, Ox, (Lib.hid (by rw [Nm.up_succ1, hy.out]))⟩
theorem ix_small {i N : Nat} (hi : i < N) (hN : N ≤ 6) : i * N + N ≤ N * N ∧ N * N ≤ 36 := by
 have h1 := Nat.mul_le_mul_right N (show i + 1 ≤ N by omega)
 have h2 := Nat.mul_le_mul hN hN
 rw [Nat.add_mul, Nat.one_mul] at h1
 omega
theorem at_any (N i k : Nat) (xs : List Nm) (a : Option Addr) (c : Nat) (hl : xs.length = N * N) (hN : N ≤ 6) (hi : i < N) (hk : k < N) (w : World) (hA : AS w a (nms xs)) : Calls Tryz.prog 37 #[.agg #[.int .i64 N, .slice a xs.length c], .int .i64 i, .int .i64 k] w fun e w' => e = .returned (nmV (nm xs (i * N + k))) ∧ Below w.heap.size w w' := by
 have hm := ix_small hi hN
 have hc0 : ((i * N : Nat) : Int) = (i : Int) * N := Int.natCast_mul i N
 obtain ⟨b, off, rfl, hlt, hcell⟩ := AS.openN hA Ox
 go_enter Tryz.func37, Tryz.ntmps37
 refine wk_start ?_
 refine wk_seq ?_
 refine Wr [1, 1] ?_
 refine Rgn fun g1 => ?_
 simp only [qz]
 refine Rgn fun g2 => ?_
 simp only [qz]
 refine Zr ?_
 refine Wr [0, 0, 0, 0, 0, 0, 0, 0, 0, 0, 0, 0, 1] ?_
 refine Fd 1 0 UU79 ?_
 refine Fd 0 1 UU28 ?_
 refine rf_load rfl rfl rfl UU26 rfl (fun w hw => (Kn.hd0 (Kn.tl hw)).at rfl) (Zm ?_)
 refine Fd 1 0 UU79 ?_
 refine Fd 0 0 UU28 ?_
 refine rf_load rfl rfl rfl UU3 rfl (fun w hw => (Kn.hd0 (Kn.tl hw)).at rfl) (Nq ?_)
 refine rf_mul rfl rfl rfl rfl (wrap_ok Ox Ox) (Zm ?_)
 refine rf_add rfl rfl rfl rfl (wrap_ok Ox Ox) (Nq ?_)
 refine rf_indexS (n := i * N + k) (sz := 5) (j := off + (i * N + k) * 5) rfl rfl rfl rfl UU26 Kx (by rw [Int.natCast_add, Int.natCast_mul]) Ox rfl (Nq ?_)
 refine rf_loadC (n := 5) (vs := nmC (nm xs (i * N + k))) rfl rfl rfl UU44 rfl Kx rfl (fun w hw => atN_range ((hcell _ Ox).kn hw hlt (by simp))) (Nq ?_)
 refine rf_storeR (n := 5) rfl rfl Kx rfl rfl (UpdR.here _ _ _ Nl) Nz (Nw ?_)
 refine Zr ?_
 refine ek_ret (fun w hw => ⟨rfl, _, run_results1 rfl rfl (Kn.hd0 hw) UU44 rfl Kx, ?_⟩)
 (try simp only [qz])
 first | exact ⟨rfl, hw.below⟩ | exact ⟨trivial, hw.below⟩ | exact hw.below
theorem made_any (N : Nat) (hN : N ≤ 6) (fe : Nat → Nat → NR) (fv : Value) (hE : ∀ i k c, i < N → k < N → fe i k = .error c → c ≠ 0) (w : World) (hF : FnV w fv (D2 N N fun i k => numV (fe i k))) : Calls Tryz.prog 34 #[.int .i64 N, fv] w fun e w' => RetR w N (madeR N fe) e w' := by
 go_enter Tryz.func34, Tryz.ntmps34
 refine wk_start ?_
 refine wk_seq ?_
 refine Wr [1, 0] ?_
 refine Rgn fun g1 => ?_
 refine Zx ?_
 refine Zr ?_
 refine Wx [0, 0, 1, 1] ?_
 refine rf_build (cs := fun a => #[a.eval (.tmp 11), .slice none 0 0]) rfl rfl Kx (Nq ?_)
 refine Rgn fun g2 => ?_
 simp only [qz]
 refine rf_storeR (n := 2) rfl rfl Kx rfl rfl (UpdR.here _ _ _ Nl) Nz (Nw ?_)
 refine Zr ?_
 refine Wx [0, 0] ?_
 refine Zr ?_
 refine wk_loopF [5, 7, 8, 9, 10, 14, 15, 16, 17, 18, 19, 20, 21, 22, 23, 24, 25, 26, 27, 28, 29, 30, 31, 32, 33, 34, 35, 36, 37, 38, 39] (fun mz f s => ∃ (i : Nat) (l : List Nm) (u : List Blk) (av : Option Addr) (cv : Nat), f 14 = .int .i64 i ∧ s = (u ++ ((g2, .cells #[.int .i64 N, .slice av l.length cv] 28) :: ((g1, .cells #[.int .i64 0, .slice none 0 0] 28) :: []))) ∧ mz = N - i ∧ i ≤ N ∧ Hid (gather (fun t => fe (t / N) (t % N)) (i * N) = .ok l) ∧ OwnN u (.slice av l.length cv) l) ((fun (i : Nat) (l : List Nm) (u : List Blk) (av : Option Addr) (cv : Nat) => N - i) (0) ([]) ([]) (none) (0)) ?_ Kx ?_
 ·exact ⟨0, [], [], none, 0, rfl, rfl, rfl, by omega, (Lib.hid (by (try rw [Nat.zero_mul]); (try rfl))), OwnG.nil⟩
 rintro mz f1 s ⟨i, l, u, av, cv, hs1_14, rfl, hn, hd1, hd2, hd3⟩
 simp only [Act.putF, List.foldl_cons, List.foldl_nil, hs1_14, Act.put, Act.eval, qW, Nat.reduceAdd, Bool.not_true, Bool.not_false]
 clear hs1_14
 refine wk_seq ?_
 refine Wr [0] ?_
 refine rfb_lss rfl rfl rfl rfl ?_
 rintro (_ | _) h1 <;> try simp only [qd, ne_eq] at h1
 ·simp only [qz]
  refine Zr ?_; refine Wr [0, 1, 0] ?_; refine rf_loadR (n := 2) rfl rfl rfl UU28 rfl Kx (fun w hw => Kn.hd0 (Kn.tlU hw)) rfl rfl (Nq ?_); refine rf_storeR (n := 2) rfl rfl Kx rfl rfl (UpdR.app _ (UpdR.there _ (UpdR.here _ _ _ Nl))) Nz (Nw ?_); refine Zx ?_; refine Zr ?_; refine ek_ret (fun w hw => ⟨rfl, _, run_results2 rfl rfl (Kn.hd0 (Kn.tl (Kn.tlU hw))) UU28 rfl Kx, ?_⟩); (try simp only [qz])
  obtain rfl : N = i := by omega
  have hg := hd2.out
  exact ⟨.slice av l.length cv, u, by unfold madeR; rw [hg]; rfl, (by unfold madeR; rw [hg]; exact hd3), hw.made (List.sublist_append_left _ _)⟩
 simp only [qz]
 refine Zr ?_
 refine Wx [0, 0] ?_
 refine Zr ?_
 refine Wx [0, 0] ?_
 refine Zr ?_
 refine wk_loopF [5, 8, 9, 10, 18, 19, 20, 21, 22, 23, 24, 25, 26, 27, 28, 29, 30, 31, 32, 33, 34, 35, 36, 37, 38] (fun mz f s => ∃ (k : Nat) (l : List Nm) (u : List Blk) (av : Option Addr) (cv : Nat), f 18 = .int .i64 k ∧ s = (u ++ ((g2, .cells #[.int .i64 N, .slice av l.length cv] 28) :: ((g1, .cells #[.int .i64 0, .slice none 0 0] 28) :: []))) ∧ mz = N - k ∧ k ≤ N ∧ Hid (gather (fun t => fe (t / N) (t % N)) (i * N + k) = .ok l) ∧ OwnN u (.slice av l.length cv) l) ((fun (k : Nat) (l : List Nm) (u : List Blk) (av : Option Addr) (cv : Nat) => N - k) (0) (l) (u) (av) (cv)) ?_ Kx ?_
 ·exact ⟨0, l, u, av, cv, rfl, rfl, rfl, by omega, hd2, hd3⟩
 rintro mz f2 s ⟨k, l, u, av, cv, hs2_18, rfl, hn, he1, he2, he3⟩
 simp only [Act.putF, List.foldl_cons, List.foldl_nil, hs2_18, Act.put, Act.eval, qW, Nat.reduceAdd, Bool.not_true, Bool.not_false]
 clear hs2_18
 have hll : l.length ≤ 36 := by (have h1 := gather_len he2.out; have h2 := ix_small (i := i) (N := N) Ox hN; omega)
 refine wk_seq ?_
 refine Wr [0] ?_
 refine rfb_lss rfl rfl rfl rfl ?_
 rintro (_ | _) h2 <;> try simp only [qd, ne_eq] at h2
 ·simp only [qz]
  refine Zr ?_; refine Wr [0, 0] ?_; refine rf_add rfl rfl rfl rfl (wrap_ok Ox Ox) (Zx ?_); refine rg_nil ?_
  obtain rfl : N = k := by omega
  refine ek_roundF (N - (i + 1)) Ox Kx ?_
  exact ⟨i + 1, l, u, av, cv, rfl, by rfl, by rfl, Ox, (Lib.hid (by rw [← he2.out, Nat.add_mul, Nat.one_mul])), he3⟩
 simp only [qz]
 refine Zr ?_
 refine Wx [0, 0] ?_
 refine Zr ?_
 refine Wx [0, 0, 0, 1, 0, 0, 0, 1, 1, 0] ?_
 refine rg_fnv (numV (fe i k)) Rx hF rfl (by simp only [qm, qs, Act.eval] <;> rfl) ⟨i, k, by omega, by omega, rfl, rfl⟩ Nz ?_
 rcases hr : fe i k with c | z
 ·have hc0 := hE i k c Ox Ox hr
  (try simp only [numV]); refine Zx ?_
  refine Rgn fun g3 => ?_
  simp only [qz]; refine rf_storeR (n := 5) rfl rfl Kx rfl rfl (UpdR.here _ _ _ Nl) Nz (Nw ?_); refine Zx ?_; refine Zr ?_; refine Wx [0, 0] ?_; refine rfb_neq rfl rfl rfl rfl ?_; intro x h3
  obtain rfl : x = true := by (refine h3.symm.trans ?_; exact decide_eq_true Ox)
  clear h3; simp only [qz]; refine Zr ?_; refine Wr [0, 0, 1, 0] ?_; refine rf_build (cs := fun a => #[.int .i64 0, .slice none 0 0]) rfl rfl Kx (Zx ?_); refine rf_storeR (n := 2) rfl rfl Kx rfl rfl (UpdR.there _ (UpdR.app _ (UpdR.there _ (UpdR.here _ _ _ Nl)))) Nz (Nw ?_); refine Zx ?_; refine Zr ?_; refine ek_ret (fun w hw => ⟨rfl, _, run_results2 rfl rfl (Kn.hd0 (Kn.tl (Kn.tlU (Kn.tl hw)))) UU28 rfl Kx, ?_⟩)
  (try simp only [qz])
  have hg := gather_err (t := i * N + k) (c := c) he2.out (by (try dsimp only); rw [ix_div Ox, ix_mod Ox]; exact hr) (N * N) (ix_lt Ox Ox)
  exact ⟨.slice none 0 0, [], by unfold madeR; rw [hg]; rfl, (by unfold madeR; rw [hg]; exact OwnG.nil), .nil hw.below⟩
 (try simp only [numV])
 refine Zx ?_
 refine Rgn fun g3 => ?_
 simp only [qz]
 refine rf_storeR (n := 5) rfl rfl Kx rfl rfl (UpdR.here _ _ _ Nl) Nz (Nw ?_)
 refine Zx ?_
 refine Zr ?_
 refine Wx [0, 0] ?_
 refine rf_neq (b := false) rfl rfl rfl rfl (by decide) (Nq ?_)
 refine Zr ?_
 refine Wr [0, 0, 0, 1, 1, 0, 1] ?_
 refine Fd 0 1 UU28 ?_
 refine rf_load rfl rfl rfl UU26 rfl (fun w hw => (Kn.hd0 (Kn.tlU (Kn.tl hw))).at rfl) (Nq ?_)
 refine rf_loadR (n := 5) rfl rfl rfl UU44 rfl Kx (fun w hw => Kn.hd0 hw) rfl rfl (Nq ?_)
 refine rg_newS (cs := ?_) (ty := ?_) (n := 1) (c := 1) Rx (fun w => ?_) Nz (fun g4 => ?_); rotate_left 2
 focus (go_simp; rfl)
 simp only [qz]
 refine rg_appN (x := z) Rx rfl he3 rfl Ox (perm_atU (l := [_, _]) (((((List.Perm.refl _).cons _).cons _).cons _).cons _)) (fun w hw => Kn.hd0 hw) Nz (fun uN1 aN1 cN1 hON1 => ?_)
 simp only [qz]
 refine Fd 0 1 UU28 ?_
 refine rf_store rfl rfl Kx rfl rfl (UpdR.app _ (UpdR.there _ (UpdR.there _ (UpdR.here _ _ _ Nl)))) Nz (Nq ?_)
 refine Zr ?_
 refine Wr [0, 0] ?_
 refine rf_add rfl rfl rfl rfl (wrap_ok Ox Ox) (Zx ?_)
 refine rg_nil ?_
 refine ek_sub (Sa (sk _ (sk _ (sc _ (sc _ sn)))) _) ?_
 refine ek_roundF (N - (k + 1)) Ox Kx ?_
 exact ⟨k + 1, l ++ [z], uN1, aN1, cN1, rfl, (by simp only [List.length_append, List.length_cons, List.length_nil, Nat.zero_add]), by rfl, Ox, (Lib.hid (by rw [← Nat.add_assoc]; exact gather_ok he2.out (by (try dsimp only); rw [ix_div Ox, ix_mod Ox]; exact hr))), (by simpa using hON1)⟩
def idR (i k : Nat) : NR := .ok (if i = k then Nm.one else Nm.zero)
theorem identity1_any (i k : Nat) (w : World) : Calls Tryz.prog 76 #[.int .i64 (i : Int), .int .i64 (k : Int)] w fun e w' => e = .returned (numV (idR i k)) ∧ Below w.heap.size w w' := by
 go_enter Tryz.func76, Tryz.ntmps76
 refine wk_start ?_
 refine wk_seq ?_
 refine Wr [1, 0] ?_
 refine Rgn fun g1 => ?_
 refine Zx ?_
 refine Zr ?_
 refine Wx [0, 0, 0] ?_
 refine rfb_eql rfl rfl rfl rfl ?_
 rintro (_ | _) h1 <;> try simp only [qd, ne_eq] at h1
 ·simp only [qz]
  refine Zr ?_; refine Wr [0, 1, 0] ?_; refine rf_build (cs := fun a => #[.int .i64 0, .int .i64 0, .int .i64 0, .int .i64 0, .int .i64 0]) rfl rfl Kx (Nq ?_); refine rf_storeR (n := 5) rfl rfl Kx rfl rfl (UpdR.here _ _ _ Nl) Nz (Nw ?_); refine Zx ?_; refine Zr ?_; refine ek_ret (fun w hw => ⟨rfl, _, run_results2 rfl rfl (Kn.hd0 hw) UU44 rfl Kx, ?_⟩); (try simp only [qz])
  exact ⟨by (unfold idR; first | (rw [if_pos Ox]; done) | (rw [if_neg Ox]; done) | (rw [if_pos Ox]; rfl) | (rw [if_neg Ox]; rfl)), hw.below⟩
 simp only [qz]
 refine Zr ?_
 refine Wr [0, 0, 1, 0] ?_
 refine rf_build (cs := fun a => #[a.eval (.const (.int .i64 1)), .int .i64 0, .int .i64 0, .int .i64 0]) rfl rfl Kx (Nq ?_)
 refine rf_build (cs := fun a => #[cellAt (a.eval (.tmp 9)) 0, cellAt (a.eval (.tmp 9)) 1, cellAt (a.eval (.tmp 9)) 2, cellAt (a.eval (.tmp 9)) 3, .int .i64 0]) rfl rfl Kx (Nq ?_)
 refine rf_storeR (n := 5) rfl rfl Kx rfl rfl (UpdR.here _ _ _ Nl) Nz (Nw ?_)
 refine Zx ?_
 refine Zr ?_
 refine ek_ret (fun w hw => ⟨rfl, _, run_results2 rfl rfl (Kn.hd0 hw) UU44 rfl Kx, ?_⟩)
 (try simp only [qz])
 exact ⟨by (unfold idR; first | (rw [if_pos Ox]; done) | (rw [if_neg Ox]; done) | (rw [if_pos Ox]; rfl) | (rw [if_neg Ox]; rfl)), hw.below⟩
def identR (n : Int) : LR := if 1 ≤ n ∧ n ≤ 6 then madeR n.toNat idR else .error 2
theorem identity_any (n : Int) (w : World) : Calls Tryz.prog 30 #[.int .i64 n] w fun e w' => RetM w (rN n.toNat (identR n)) (rL (identR n)) (rC (identR n)) e w' := by
 go_enter Tryz.func30, Tryz.ntmps30
 refine wk_start ?_
 refine wk_seq ?_
 refine Wr [1, 0] ?_
 refine Rgn fun g1 => ?_
 refine Zx ?_
 refine Zr ?_
 refine Wx [0, 0, 0, 0, 0, 0] ?_
 refine rfb_lss rfl rfl rfl rfl ?_
 rintro (_ | _) h1 <;> try simp only [qd, ne_eq] at h1
 ·refine Zx ?_
  apply rg_soft_g
  case hg => rfl
  case hy => (intro w hw; exact Gy)
  simp only [qz]; refine rfb_gtr rfl rfl rfl rfl ?_
  rintro (_ | _) h2 <;> try simp only [qd, ne_eq] at h2
  ·refine Zx ?_
   refine Zr ?_; refine Wx [0, 1, 0, 0, 1, 0] ?_
   obtain ⟨N, rfl⟩ : ∃ N : Nat, n = N := ⟨n.toNat, by omega⟩
   apply rg_retM Rx Kx
   case hargs => exact Ax
   case h => exact fun w hw => made_any N Ox idR _ (fun i k c _ _ h => by cases h) w (FnV.lit Kx (fun w' vs r ⟨i, k, _, _, hv, hr⟩ => by subst hv hr; exact identity1_any i k w'))
   case hz => exact Nz
   intro va2 vc2 u2 hO2; refine Zx ?_; refine rf_storeR (n := 2) rfl rfl Kx rfl rfl (UpdR.app _ (UpdR.here _ _ _ Nl)) Nz (Nw ?_); refine Zx ?_; refine Zr ?_; refine ek_ret (fun w hw => ⟨rfl, _, run_results2 rfl rfl (Kn.hd0 (Kn.tlU hw)) UU28 rfl Kx, ?_⟩); (try simp only [qz])
   have hid : identR (N : Int) = madeR N idR := by (unfold identR; rw [if_pos Ox, Int.toNat_natCast])
   rw [Int.toNat_natCast, hid]
   exact ⟨.slice va2 (rL (madeR N idR)).length vc2, u2, rfl, hO2, hw.made (List.sublist_append_left _ _)⟩
  refine Zx ?_; refine Zr ?_; refine Wr [0, 1, 0] ?_; refine rf_build (cs := fun a => #[.int .i64 0, .slice none 0 0]) rfl rfl Kx (Nq ?_); refine rf_storeR (n := 2) rfl rfl Kx rfl rfl (UpdR.here _ _ _ Nl) Nz (Nw ?_); refine Zx ?_; refine Zr ?_; refine ek_ret (fun w hw => ⟨rfl, _, run_results2 rfl rfl (Kn.hd0 hw) UU28 rfl Kx, ?_⟩); (try simp only [qz])
  have hid : identR n = .error 2 := by (unfold identR; rw [if_neg Ox])
  rw [hid]
  exact ⟨.slice none 0 0, [], rfl, OwnG.nil, .nil hw.below⟩
 refine Zx ?_
 refine Zr ?_
 refine Wr [0, 1, 0] ?_
 refine rf_build (cs := fun a => #[.int .i64 0, .slice none 0 0]) rfl rfl Kx (Nq ?_)
 refine rf_storeR (n := 2) rfl rfl Kx rfl rfl (UpdR.here _ _ _ Nl) Nz (Nw ?_)
 refine Zx ?_
 refine Zr ?_
 refine ek_ret (fun w hw => ⟨rfl, _, run_results2 rfl rfl (Kn.hd0 hw) UU28 rfl Kx, ?_⟩)
 (try simp only [qz])
 have hid : identR n = .error 2 := by (unfold identR; rw [if_neg Ox])
 rw [hid]
 exact ⟨.slice none 0 0, [], rfl, OwnG.nil, .nil hw.below⟩
set_option maxHeartbeats 1000000
def dval : List Int → Int
  | [] => 0
  | x :: xs => x + 4294967296 * dval xs
def Dg (xs : List Int) : Prop := ∀ x ∈ xs, 0 ≤ x ∧ x < 4294967296
def dig (xs : List Int) (k : Nat) : Int := xs.getD k 0
def digs (n : Nat) : List Int := if h : n = 0 then [] else (n % 4294967296 : Nat) :: digs (n / 4294967296)
termination_by n
decreasing_by omega
theorem pw_pos (n : Nat) : (0 : Int) < 4294967296 ^ n := Int.pow_pos Ox
theorem pw_succ (n : Nat) : (4294967296 : Int) ^ (n + 1) = 4294967296 * 4294967296 ^ n := by rw [Int.pow_succ, Int.mul_comm]
theorem Dg.nil : Dg [] := fun _ h => nomatch h
theorem Dg.tail {x : Int} {xs : List Int} (h : Dg (x :: xs)) : Dg xs := fun y hy => h y (by simp [hy])
theorem Dg.app {xs ys : List Int} (h : Dg xs) (k : Dg ys) : Dg (xs ++ ys) := fun x hx => (List.mem_append.1 hx).elim (h x) (k x)
theorem Dg.snoc {xs : List Int} {y : Int} (h : Dg xs) (h0 : 0 ≤ y) (h1 : y < 4294967296) : Dg (xs ++ [y]) := h.app fun x hx => by simp at hx; subst hx; exact ⟨h0, h1⟩
theorem Dg.take {xs : List Int} (h : Dg xs) (n : Nat) : Dg (xs.take n) := fun x hx => h x (List.mem_of_mem_take hx)
theorem Dg.drop {xs : List Int} (h : Dg xs) (n : Nat) : Dg (xs.drop n) := fun x hx => h x (List.mem_of_mem_drop hx)
theorem dig_mem {xs : List Int} {k : Nat} (h : k < xs.length) : dig xs k ∈ xs := by
 unfold dig; rw [List.getD_eq_getElem?_getD, List.getElem?_eq_getElem h]; exact List.getElem_mem h
theorem dig_out {xs : List Int} {k : Nat} (h : xs.length ≤ k) : dig xs k = 0 := by
 unfold dig; rw [List.getD_eq_getElem?_getD, List.getElem?_eq_none h]; rfl
theorem Dg.at {xs : List Int} (h : Dg xs) (k : Nat) : 0 ≤ dig xs k ∧ dig xs k < 4294967296 := by
 rcases Nat.lt_or_ge k xs.length with hk | hk
 ·exact h _ (dig_mem hk)
 ·rw [dig_out hk]; omega
theorem dval_app : ∀ (xs ys : List Int), dval (xs ++ ys) = dval xs + 4294967296 ^ xs.length * dval ys
  | [], ys => by simp [dval]
  | x :: xs, ys => by
    have := dval_app xs ys
    simp only [List.cons_append, dval, List.length_cons]; rw [this, pw_succ]
    grind
theorem dval_snoc (xs : List Int) (y : Int) : dval (xs ++ [y]) = dval xs + 4294967296 ^ xs.length * y := by
 rw [dval_app]; simp [dval]
theorem dval_range : ∀ {xs : List Int}, Dg xs → 0 ≤ dval xs ∧ dval xs < 4294967296 ^ xs.length
  | [], _ => by simp [dval]
  | x :: xs, h => by
    have h1 := dval_range h.tail
    have h2 := h x (by simp)
    simp only [dval, List.length_cons]; rw [pw_succ]
    omega
theorem take_snoc {xs : List Int} {k : Nat} (h : k < xs.length) : xs.take (k + 1) = xs.take k ++ [dig xs k] := by
 unfold dig
 rw [List.take_succ, List.getD_eq_getElem?_getD, List.getElem?_eq_getElem h]
 rfl
theorem dval_take {xs : List Int} {k : Nat} (h : k < xs.length) : dval (xs.take (k + 1)) = dval (xs.take k) + 4294967296 ^ k * dig xs k := by
 rw [take_snoc h, dval_snoc, List.length_take, Nat.min_eq_left Ox]
theorem dval_take_out {xs : List Int} {k : Nat} (h : xs.length ≤ k) : dval (xs.take k) = dval xs := by rw [List.take_of_length_le h]
theorem dval_take' (xs : List Int) (k : Nat) : dval (xs.take (k + 1)) = dval (xs.take k) + 4294967296 ^ k * dig xs k := by
 rcases Nat.lt_or_ge k xs.length with h | h
 ·exact dval_take h
 ·rw [dval_take_out h, dval_take_out Ox, dig_out h]; omega
theorem dval_split (xs : List Int) (k : Nat) : dval xs = dval (xs.take k) + 4294967296 ^ k * dval (xs.drop k) := by
 rcases Nat.lt_or_ge k xs.length with h | h
 ·have := dval_app (xs.take k) (xs.drop k)
  rw [List.take_append_drop, List.length_take, Nat.min_eq_left Ox] at this
  exact this
 ·rw [dval_take_out h, List.drop_of_length_le h]; simp [dval]
theorem dval_zero : ∀ {xs : List Int}, (∀ j, dig xs j = 0) → dval xs = 0
  | [], _ => rfl
  | x :: xs, h => by
    have h1 : dval xs = 0 := dval_zero fun j => h (j + 1)
    have h2 : x = 0 := h 0
    simp only [dval, h1, h2]
    omega
theorem dig_drop (xs : List Int) (k j : Nat) : dig (xs.drop k) j = dig xs (k + j) := by
 unfold dig; rw [List.getD_eq_getElem?_getD, List.getD_eq_getElem?_getD, List.getElem?_drop]
theorem dig_take {xs : List Int} {k j : Nat} (h : j < k) : dig (xs.take k) j = dig xs j := by
 unfold dig; rw [List.getD_eq_getElem?_getD, List.getD_eq_getElem?_getD, List.getElem?_take_of_lt h]
theorem dval_cut {xs : List Int} {k : Nat} (h : ∀ j, k ≤ j → dig xs j = 0) : dval xs = dval (xs.take k) := by
 rw [dval_split xs k, dval_zero (xs := xs.drop k) fun j => by rw [dig_drop]; exact h _ Ox]; simp
theorem digs_zero : digs 0 = [] := by unfold digs; simp
theorem digs_pos {n : Nat} (h : n ≠ 0) : digs n = ((n % 4294967296 : Nat) : Int) :: digs (n / 4294967296) := by rw [digs]; simp [h]
theorem digs_dg (n : Nat) : Dg (digs n) := by
 induction n using Nat.strongRecOn with
 | _ n ih =>
  by_cases h : n = 0
  ·subst h; rw [digs_zero]; exact Dg.nil
  ·rw [digs_pos h]
   intro x hx
   rcases List.mem_cons.1 hx with rfl | hx
   ·omega
   ·exact ih _ Ox x hx
theorem dval_digs (n : Nat) : dval (digs n) = n := by
 induction n using Nat.strongRecOn with
 | _ n ih =>
  by_cases h : n = 0
  ·subst h; rw [digs_zero]; rfl
  ·rw [digs_pos h]
   simp only [dval]; rw [ih _ Ox]
   omega
def Trim (xs : List Int) : Prop := xs = [] ∨ dig xs (xs.length - 1) ≠ 0
theorem digs_trim (n : Nat) : Trim (digs n) := by
 induction n using Nat.strongRecOn with
 | _ n ih =>
  by_cases h : n = 0
  ·subst h; exact .inl digs_zero
  ·rw [digs_pos h]
   refine .inr ?_
   rcases ih (n / 4294967296) Ox with he | he
   ·rw [he]
    have : n / 4294967296 = 0 := by
     have := dval_digs (n / 4294967296)
     rw [he] at this
     simp [dval] at this
     omega
    show ((n % 4294967296 : Nat) : Int) ≠ 0
    omega
   ·have h0 : 0 < (digs (n / 4294967296)).length := by
     rcases Nat.eq_zero_or_pos (digs (n / 4294967296)).length with h0 | h0
     ·rw [List.eq_nil_of_length_eq_zero h0] at he; exact absurd rfl he
     ·exact h0
    rw [show (((n % 4294967296 : Nat) : Int) :: digs (n / 4294967296)).length - 1 = ((digs (n / 4294967296)).length - 1) + 1 by simp; omega]
    exact he
theorem digs_unique : ∀ {xs : List Int}, Dg xs → Trim xs → xs = digs (dval xs).toNat
  | [], _, _ => by simp [dval, digs_zero]
  | x :: xs, h, ht => by
    have hx := h x (by simp)
    have hr := dval_range h.tail
    have ht' : Trim xs := by
      by_cases he : xs = []
      · exact .inl he
      · refine .inr ?_
        have h0 : 0 < xs.length := List.length_pos_iff.2 he
        rcases ht with ht | ht
        · cases ht
        · rw [show (x :: xs).length - 1 = (xs.length - 1) + 1 by simp; omega] at ht
          exact ht
    have hne : (dval (x :: xs)).toNat ≠ 0 := by
      simp only [dval]; intro h0
      have hx0 : x = 0 := by omega
      have hv0 : dval xs = 0 := by omega
      have := digs_unique h.tail ht'
      rw [hv0] at this; simp only [Int.toNat_zero, digs_zero] at this
      subst this
      rcases ht with ht | ht
      · cases ht
      · exact ht hx0
    rw [digs_pos hne]
    have e1 : (((dval (x :: xs)).toNat % 4294967296 : Nat) : Int) = x := by simp only [dval]; omega
    have e2 : (dval (x :: xs)).toNat / 4294967296 = (dval xs).toNat := by simp only [dval]; omega
    rw [e1, e2, ← digs_unique h.tail ht']
theorem trim_eq {xs : List Int} {m : Nat} (h : Dg xs) (hm : m ≤ xs.length) (hz : ∀ j, m ≤ j → dig xs j = 0) (hl : m = 0 ∨ dig xs (m - 1) ≠ 0) : xs.take m = digs (dval xs).toNat := by
 rw [dval_cut hz]
 refine digs_unique (h.take m) ?_
 rcases hl with rfl | hl
 ·exact .inl (by simp)
 ·by_cases h0 : m = 0
  ·subst h0; exact .inl (by simp)
  ·refine .inr ?_
   rw [List.length_take, Nat.min_eq_left hm, dig_take Ox]
   exact hl
theorem digs_len_le {n L : Nat} (h : (n : Int) < 4294967296 ^ L) : (digs n).length ≤ L := by
 rcases Nat.lt_or_ge L (digs n).length with hl | hl
 ·exfalso
  have h1 := dval_digs n
  have h2 := digs_trim n
  rcases h2 with h2 | h2
  ·rw [h2] at hl; simp at hl
  ·have h3 := dval_split (digs n) ((digs n).length - 1)
   have h4 := (dval_range ((digs_dg n).take ((digs n).length - 1))).1
   have h5 : dval ((digs n).drop ((digs n).length - 1)) = dig (digs n) ((digs n).length - 1) := by
    have e : dval ((digs n).drop ((digs n).length - 1)) = dval (((digs n).drop ((digs n).length - 1)).take 1) := by rw [List.take_of_length_le (by simp; omega)]
    rw [e, dval_take (by simp; omega), dig_drop]
    simp [dval]
   have h6 := ((digs_dg n).at ((digs n).length - 1)).1
   rw [h5] at h3
   have h7 : (4294967296 : Int) ^ L ≤ 4294967296 ^ ((digs n).length - 1) := by
    obtain ⟨d, hd⟩ : ∃ d, (digs n).length - 1 = L + d := ⟨(digs n).length - 1 - L, by omega⟩
    rw [hd, Int.pow_add]
    have := pw_pos d
    have := pw_pos L
    have h9 : (1 : Int) ≤ 4294967296 ^ d := by omega
    have := Int.mul_le_mul_of_nonneg_left h9 (c := (4294967296 : Int) ^ L) Ox
    omega
   have h8 : (4294967296 : Int) ^ ((digs n).length - 1) * 1 ≤ 4294967296 ^ ((digs n).length - 1) * dig (digs n) ((digs n).length - 1) :=
    Int.mul_le_mul_of_nonneg_left Ox (by have := pw_pos ((digs n).length - 1); omega)
   omega
 ·exact hl
theorem digs_lt_of_len {m n : Nat} (h : (digs m).length < (digs n).length) : m < n := by
 rcases Nat.lt_or_ge m n with hl | hl
 ·exact hl
 ·exfalso
  have h1 := dval_digs m
  have h2 := (dval_range (digs_dg m)).2
  have := digs_len_le (n := n) (L := (digs m).length) Ox
  omega
theorem lt_of_dig {xs ys : List Int} {i : Nat} (hx : Dg xs) (hy : Dg ys) (hi : i < xs.length) (hl : xs.length = ys.length) (hj : ∀ j, i < j → dig xs j = dig ys j) (h : dig xs i < dig ys i) : dval xs < dval ys := by
 have e1 := dval_split xs (i + 1)
 have e2 := dval_split ys (i + 1)
 have e3 : xs.drop (i + 1) = ys.drop (i + 1) := by
  apply List.ext_getElem
  ·simp [hl]
  ·intro j h1 h2
   have := hj (i + 1 + j) Ox
   simp only [List.length_drop] at h1 h2
   unfold dig at this
   rw [List.getD_eq_getElem?_getD, List.getD_eq_getElem?_getD, List.getElem?_eq_getElem Ox, List.getElem?_eq_getElem Ox] at this
   simpa using this
 rw [dval_take hi] at e1
 rw [dval_take Ox] at e2
 rw [e3] at e1
 have r1 := (dval_range (hx.take i)).2
 have r2 := (dval_range (hy.take i)).1
 rw [List.length_take, Nat.min_eq_left Ox] at r1
 have := pw_pos i
 have h8 : (4294967296 : Int) ^ i * (dig xs i + 1) ≤ 4294967296 ^ i * dig ys i := Int.mul_le_mul_of_nonneg_left Ox Ox
 rw [Int.mul_add] at h8
 omega
theorem eq_of_dig {xs ys : List Int} (hl : xs.length = ys.length) (hj : ∀ j, dig xs j = dig ys j) : xs = ys := by
 apply List.ext_getElem hl
 intro j h1 h2
 have := hj j
 unfold dig at this
 rw [List.getD_eq_getElem?_getD, List.getD_eq_getElem?_getD, List.getElem?_eq_getElem h1, List.getElem?_eq_getElem h2] at this
 simpa using this
theorem dval_set : ∀ {xs : List Int} {j : Nat} (y : Int), j < xs.length → dval (xs.set j y) = dval xs + 4294967296 ^ j * (y - dig xs j)
  | x :: xs, 0, y, _ => by simp [dval, dig]; omega
  | x :: xs, j + 1, y, h => by
    have := dval_set (xs := xs) (j := j) y (by simpa using h)
    simp only [List.set_cons_succ, dval]; rw [this, pw_succ]
    have e : dig (x :: xs) (j + 1) = dig xs j := rfl
    rw [e]
    grind
theorem dig_set {xs : List Int} {j : Nat} (y : Int) (k : Nat) (h : j < xs.length) : dig (xs.set j y) k = if k = j then y else dig xs k := by
 unfold dig
 rw [List.getD_eq_getElem?_getD, List.getElem?_set, List.getD_eq_getElem?_getD]
 split
 ·next e => subst e; simp [h]
 ·next e => rw [if_neg (Ne.symm e)]
theorem Dg.set {xs : List Int} (h : Dg xs) (j : Nat) {y : Int} (h0 : 0 ≤ y) (h1 : y < 4294967296) : Dg (xs.set j y) := fun x hx => by
  rcases List.mem_or_eq_of_mem_set hx with h' | rfl
  · exact h x h'
  · exact ⟨h0, h1⟩
theorem digs_nil_iff {n : Nat} : digs n = [] ↔ n = 0 := by
 constructor
 ·intro h; have := dval_digs n; rw [h] at this; simp [dval] at this; omega
 ·rintro rfl; exact digs_zero
theorem digs_even (n : Nat) : dig (digs n) 0 % 2 = (n : Int) % 2 := by
 by_cases h : n = 0
 ·subst h; rw [digs_zero]; rfl
 ·rw [digs_pos h]
  show ((n % 4294967296 : Nat) : Int) % 2 = _
  omega
theorem plus_step {xs ys zs : List Int} {i : Nat} {cy t : Int} (hl : zs.length = i) (h : dval zs + 4294967296 ^ i * cy = dval (xs.take i) + dval (ys.take i)) (ht : t = cy + dig xs i + dig ys i) :
    dval (zs ++ [t % 4294967296]) + 4294967296 ^ (i + 1) * (t / 4294967296) = dval (xs.take (i + 1)) + dval (ys.take (i + 1)) := by
  rw [dval_snoc, hl, dval_take', dval_take', pw_succ]
  have e : 4294967296 ^ i * (t % 4294967296) + 4294967296 * 4294967296 ^ i * (t / 4294967296) = 4294967296 ^ i * t := by
    have := Int.mul_ediv_add_emod t 4294967296
    grind
  have e2 : (4294967296 : Int) ^ i * t = 4294967296 ^ i * cy + 4294967296 ^ i * dig xs i + 4294967296 ^ i * dig ys i := by rw [ht]; grind
  omega
theorem minus_step {xs ys zs : List Int} {i : Nat} {bo t : Int} (hl : zs.length = i) (h : dval zs = dval (xs.take i) - dval (ys.take i) + 4294967296 ^ i * bo) (ht : t = dig xs i - bo - dig ys i) (q : Int) :
    dval (zs ++ [t + 4294967296 * q]) = dval (xs.take (i + 1)) - dval (ys.take (i + 1)) + 4294967296 ^ (i + 1) * q := by
  rw [dval_snoc, hl, dval_take', dval_take', pw_succ, ht, h]
  grind
abbrev DgE : El Int := ⟨1, fun x => [.int .u32 x], 0, by decide, fun _ => rfl, fun x v hv => by simp at hv; subst hv; rfl⟩
abbrev us (xs : List Int) : List Value := DgE.flat xs
theorem us_get (xs : List Int) (k : Nat) (h : k < xs.length) : (us xs)[k]? = some (.int .u32 (dig xs k)) := by
 have := DgE.get xs k 0 h (by decide)
 simp only [Nat.mul_one, Nat.add_zero] at this
 exact this
theorem us_len (xs : List Int) : (us xs).length = xs.length := by rw [DgE.flat_len]; simp
theorem AS.openU {w : World} {a : Option Addr} {xs : List Int} (h : AS w a (us xs)) (hn : 0 < xs.length) :
    ∃ b off, a = some ⟨b, off, none⟩ ∧ b < w.heap.size ∧ ∀ j, j < xs.length → w.cell? ⟨b, off + j, none⟩ = some (.int .u32 (dig xs j)) := by
  obtain ⟨b, off, ha, hb, hc⟩ := h.openG hn
  exact ⟨b, off, ha, hb, fun j hj => by have := hc j hj 0 (by decide); simpa [dig, El.at] using this⟩
theorem us_take (xs : List Int) (m : Nat) : us (xs.take m) = (us xs).take m := by
 have : ∀ ys : List Int, us ys = ys.map (.int .u32) := fun ys => by
  induction ys with
  | nil => rfl
  | cons y ys ih => rw [us, El.flat_cons, List.map_cons, ← ih]; rfl
 rw [this, this, List.map_take]
theorem AS.take {w : World} {a : Option Addr} {xs : List Int} (h : AS w a (us xs)) (m : Nat) : AS w a (us (xs.take m)) := by
 intro hne
 have hne' : us xs ≠ [] := by intro e; rw [us_take, e] at hne; simp at hne
 obtain ⟨b, off, ha, hb, hc⟩ := h hne'
 refine ⟨b, off, ha, hb, fun j hj => ?_⟩
 rw [us_take] at hj ⊢
 rw [List.length_take] at hj
 rw [hc j Ox, List.getElem?_take, if_pos Ox]
def SA (w : World) (s : Value) (n : Nat) : Prop := ∃ a c, s = .slice a (digs n).length c ∧ AS w a (us (digs n))
def SU (u : List Blk) (s : Value) (n : Nat) : Prop := (∃ a c, s = .slice a (digs n).length c) ∧ ∀ (B : World) (F : List Nat) (w : World), Kn B F u w → SA w s n
theorem SU.mono {u v : List Blk} {s : Value} {n : Nat} (h : SU u s n) (hs : u.Sublist v) : SU v s n := ⟨h.1, fun B F w K => h.2 B F w (K.sub hs)⟩
theorem SU.at {u s : List Blk} {v : Value} {n : Nat} {B w : World} {F : List Nat} (h : SU u v n) (K : Kn B F s w) (hs : u.Sublist s) : SA w v n := h.2 B F w (K.sub hs)
theorem SA.below {w w' : World} {s : Value} {n : Nat} (h : SA w s n) (hb : Below w.heap.size w w') : SA w' s n := let ⟨a, c, e, hA⟩ := h; ⟨a, c, e, hA.below hb⟩
theorem SA.kn {B w : World} {s : List Blk} {v : Value} {n : Nat} (h : SA B v n) (K : Kn B [] s w) : SA w v n := let ⟨a, c, e, hA⟩ := h; ⟨a, c, e, hA.kn0 K⟩
theorem SU.own {e : Nat} {u : List Blk} {v : Value} {n : Nat} {xs : List Int} (h : OwnG DgE e u v xs) (m : Nat) (hm : m ≤ xs.length) (hd : xs.take m = digs n) :
    ∀ {a : Option Addr} {c : Nat}, v = .slice a xs.length c → SU u (.slice a m c) n := by
  intro a c hv; refine ⟨⟨a, c, by rw [← hd, List.length_take, Nat.min_eq_left hm]⟩, fun B F w K => ?_⟩
  obtain ⟨a', cap, e1, hA⟩ := h.as (s := []) (by simpa using K)
  rw [hv] at e1
  injection e1 with e1 e2 e3
  subst e1 e3
  refine ⟨a, c, ?_, ?_⟩
  · rw [← hd, List.length_take, Nat.min_eq_left hm]
  · rw [← hd]; exact hA.take m
theorem SU.nil : SU [] (.slice none 0 0) 0 := ⟨⟨none, 0, by rw [digs_zero]; rfl⟩, fun B F w K => ⟨none, 0, by rw [digs_zero]; rfl, by rw [digs_zero]; exact AS.nil⟩⟩
theorem SA.nil {w : World} : SA w (.slice none 0 0) 0 := ⟨none, 0, by rw [digs_zero]; rfl, by rw [digs_zero]; exact AS.nil⟩
abbrev bgV (n : Int) (s : Value) : Value := .agg #[.bool (decide (n < 0)), s]
def RetB (w : World) (n : Int) (e : Ending) (w' : World) : Prop := ∃ v u, e = .returned v ∧ (∃ s, v = bgV n s ∧ SU u s n.natAbs) ∧ Made w u w'
def RetD (w : World) (n : Nat) (e : Ending) (w' : World) : Prop := ∃ v u, e = .returned v ∧ SU u v n ∧ Made w u w'
theorem uInfo : (Tryz.prog.info? 141).map (fun i => (i.zero, i.size, i.bytes)) = some (some (.int .u32 0), 1, 4) := by kernel_rfl
theorem ip {P : Program} {t : TypeId} {z : Option Value} {n b : Nat} (h : (P.info? t).map (fun i => (i.zero, i.size, i.bytes)) = some (z, n, b)) : ∃ i, P.info? t = some i ∧ i.zero = z ∧ i.size = n ∧ i.bytes = b := by
 cases hi : P.info? t with
 | none => rw [hi] at h; cases h
 | some i => rw [hi] at h; simp at h; exact ⟨i, rfl, h.1, h.2.1, h.2.2⟩
theorem OwnG.val {α : Type} {E : El α} {e : Nat} {u : List Blk} {v : Value} {xs : List α} (h : OwnG E e u v xs) : ∃ a cap, v = .slice a xs.length cap ∧ xs.length ≤ cap := Own.val h
theorem OwnG.as' {α : Type} {E : El α} {e : Nat} {u s : List Blk} {a : Option Addr} {n c : Nat} {xs : List α} {B w : World} {F : List Nat} (h : OwnG E e u (.slice a n c) xs) (K : Kn B F (u ++ s) w) : AS w a (E.flat xs) := by
 obtain ⟨a', cap, e1, hA⟩ := h.as K
 injection e1 with e1 e2 e3
 subst e1
 exact hA
section
variable {R : Option Nat} {ops : Array Oper} {Q : Exit → Act → World → Prop} {B : World} {F : List Nat} {s0 : Option (List Blk × List Blk)}
variable {l : List (Oper × Nat)} {a : Act} {s S : List Blk} {d : Option Tmp} {t : TypeId} {p : String} {af : Array Edge} {v : Value}
theorem rg_pushU {so xo : Operand} {u : List Blk} {xs : List Int} {g1 : Nat} {x : Int} {gd : Option (Nat × Bool)} (hg : Region.wanted ⟨d, .call ⟨.builtin .append, #[so, xo], #[36, 36]⟩, t, p, af, gd⟩ (yielded ops a.tmps) = true)
    (hs : a.eval so = v) (hown : OwnG DgE 141 u v xs) (hx : a.eval xo = .slice (some ⟨g1, 0, none⟩) 1 1) (hn : xs.length ≤ 1000000) (hzz : ∀ z ∈ s0, z.1.Sublist s)
    (h : ∀ u' v', OwnG DgE 141 u' v' (xs ++ [x]) → Rg R Tryz.prog ops Q B F s0 l (a.put d v') (u' ++ s)) :
    Rg R Tryz.prog ops Q B F s0 ((⟨d, .call ⟨.builtin .append, #[so, xo], #[36, 36]⟩, t, p, af, gd⟩, 1) :: l) a ((g1, .cells #[.int .u32 x] 141) :: (u ++ s)) := by
  obtain ⟨i, hi, hz, hsz, hb⟩ := ip uInfo
  refine rg_append1 (E := DgE) (i := i) (z := .int .u32 0) (u := u) (s := (g1, .cells #[.int .u32 x] 141) :: s) (x := x) (g := g1) hg UU36 hi hz hsz rfl Ox hs hown hx Ox List.perm_middle.symm (fun w K => Kn.hd0 K)
    (fun z hz' => (hzz z hz').trans (List.sublist_cons_self _ _)) fun u' v' hO => ?_
  exact rg_sub (Sa (List.sublist_cons_self _ _) _) (fun z hz' => (hzz z hz').trans (Sr _ _)) (h u' v' hO)
end
theorem trimmed_any (xs : List Int) (a : Option Addr) (c : Nat) (hd : Dg xs) (hc : xs.length ≤ c) (hl : xs.length ≤ 1000000) (w : World) (hA : AS w a (us xs)) : Calls Tryz.prog 93 #[.slice a xs.length c] w fun e w' => ∃ m, m ≤ xs.length ∧ e = .returned (.slice a m c) ∧ (∀ j, m ≤ j → dig xs j = 0) ∧ (m = 0 ∨ dig xs (m - 1) ≠ 0) ∧ Below w.heap.size w w' := by
 go_enter Tryz.func93, Tryz.ntmps93
 refine wk_start ?_
 refine wk_seq ?_
 refine Wx [0] ?_
 refine Zr ?_
 refine wk_loopF [0, 3, 4, 5, 6, 7, 8, 9, 10, 11, 12, 13, 14, 15, 16, 17, 18, 19] (fun mz f s => ∃ (m : Nat), f 0 = .slice a m c ∧ f 2 = .slice none 0 0 ∧ s = [] ∧ mz = m ∧ m ≤ xs.length ∧ (∀ j, m ≤ j → dig xs j = 0)) ((fun (m : Nat) => m) (xs.length)) ?_ Kx ?_
 ·exact ⟨xs.length, rfl, rfl, rfl, rfl, by omega, fun j hj => dig_out hj⟩
 rintro mz f1 s ⟨m, hs1_0, hs1_2, rfl, hn, hc1, hc2⟩
 simp only [Act.putF, List.foldl_cons, List.foldl_nil, hs1_0, hs1_2, Act.put, Act.eval, qW, Nat.reduceAdd, Bool.not_true, Bool.not_false]
 clear hs1_0 hs1_2
 refine wk_seq (wk_seq ?_)
 refine Wx [0, 0, 0, 0, 0, 0, 0, 0, 0, 0, 0, 0] ?_
 refine rf_len rfl rfl rfl UU36 (Nq ?_)
 refine rfb_gtr rfl rfl rfl rfl ?_
 rintro (_ | _) h1 <;> try simp only [qd, ne_eq] at h1
 ·refine Zx ?_
  refine Zr ?_; refine Wx [0, 0] ?_; refine Zr ?_
  refine Er fun w hw => ?_
  (try simp only [qz])
  exact ⟨m, hc1, rfl, hc2, Or.inl Ox, hw.below⟩
 simp only [qz]
 obtain ⟨b, off, rfl, hlt, hcell⟩ := AS.openU hA Ox
 have hdg := hd.at (m - 1)
 refine Zx ?_
 apply rg_soft_g
 case hg => rfl
 case hy => (intro w hw; exact Gy)
 simp only [qz]
 apply rg_soft_g
 case hg => rfl
 case hy => (intro w hw; exact Gy)
 simp only [qz]
 refine rf_len rfl rfl rfl UU36 (Nq ?_)
 refine rf_sub rfl rfl rfl rfl (wrap_ok Ox Ox) (Nq ?_)
 refine rf_indexS (n := m - 1) (sz := 1) (j := off + (m - 1) * 1) rfl rfl rfl rfl UU36 Kx Ox Ox rfl (Nq ?_)
 refine rf_load rfl rfl rfl UU141 rfl (fun w hw => (by have := (Kn.cellB hw hlt (by simp) (off + (m - 1))).trans (hcell (m - 1) Ox); simpa using this)) (Nq ?_)
 refine rfb_eql rfl rfl rfl rfl ?_
 rintro (_ | _) h2 <;> try simp only [qd, ne_eq] at h2
 ·refine Zx ?_
  refine Zr ?_; refine Wx [0, 0] ?_; refine Zr ?_
  refine Er fun w hw => ?_
  (try simp only [qz])
  exact ⟨m, hc1, rfl, hc2, Or.inr Ox, hw.below⟩
 refine Zx ?_
 refine Zr ?_
 refine Wx [0, 0, 0, 0, 0, 0] ?_
 refine rf_len rfl rfl rfl UU36 (Nq ?_)
 refine rf_sub rfl rfl rfl rfl (wrap_ok Ox Ox) (Nq ?_)
 refine rf_sliceTo (n := m - 1) (sz := 1) rfl rfl rfl rfl UU36 Kx Ox Ox (Zx ?_)
 refine rg_nil (ek_block ?_)
 refine ek_roundF (m - 1) Ox Kx ?_
 exact ⟨m - 1, rfl, rfl, by rfl, by rfl, by omega, fun j hj => if he : j = m - 1 then (by subst he; omega) else hc2 j Ox⟩
end Go.Proofs.YthjjkajjpejcdaaGreat
