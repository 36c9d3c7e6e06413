/- Plain: permanents: expansions by the first and by the last row, other orders of rows and columns, transposes, sets of columns. -/
import Derived.Test.YtjeijnjaleldkaaVaPl
namespace Go.Proofs.Ytjeijnjaleldkaa
set_option linter.all false

/-- The sum over all ways to take one out of a list; the rest goes along. -/
def pk {α : Type} : List α → (α → List α → Q4) → Q4
  | [], _ => 0
  | x :: t, F => F x t + pk t fun y r => F y (x :: r)
section
variable {α β : Type}
theorem pk_congr' : ∀ (l : List α) {F G : α → List α → Q4}, (∀ x r, (x :: r).Perm l → F x r = G x r) → pk l F = pk l G
  | [], _, _, _ => rfl
  | x :: t, F, G, h => by
    unfold pk
    rw [h x t (List.Perm.refl _), pk_congr' t fun y r hp => h y (x :: r) ((List.Perm.swap x y r).trans (hp.cons x))]
theorem pk_congr (l : List α) {F G : α → List α → Q4} (h : ∀ x r, F x r = G x r) : pk l F = pk l G := pk_congr' l fun x r _ => h x r
theorem add4 (a b c d : Q4) : a + b + (c + d) = a + c + (b + d) := by
  rw [Q4.add_assoc, Q4.add_assoc, ← Q4.add_assoc b c d, Q4.add_comm b c, Q4.add_assoc c b d]
theorem pk_add : ∀ (l : List α) (F G : α → List α → Q4), pk l (fun x r => F x r + G x r) = pk l F + pk l G
  | [], _, _ => (Q4.add_zero 0).symm
  | x :: t, F, G => by
    unfold pk
    rw [pk_add t, add4]
theorem pk_mul (c : Q4) : ∀ (l : List α) (F : α → List α → Q4), pk l (fun x r => c * F x r) = c * pk l F
  | [], _ => (Q4.mul_zero c).symm
  | x :: t, F => by
    unfold pk
    rw [pk_mul c t, Q4.mul_add]
theorem pk_mulr (c : Q4) (l : List α) (F : α → List α → Q4) : pk l (fun x r => F x r * c) = pk l F * c := by
  rw [Q4.mul_comm, ← pk_mul]
  exact pk_congr l fun x r => Q4.mul_comm _ _
theorem pk_zero : ∀ (l : List α), pk l (fun _ _ => 0) = 0
  | [] => rfl
  | x :: t => by
    unfold pk
    rw [pk_zero t, Q4.add_zero]
theorem pk_comm (m : List β) : ∀ (l : List α) (f : α → List α → β → List β → Q4), pk l (fun x r => pk m fun y q => f x r y q) = pk m fun y q => pk l fun x r => f x r y q
  | [], _ => (pk_zero m).symm
  | x :: t, f => by
    show (pk m fun y q => f x t y q) + pk t (fun z r => pk m fun y q => f z (x :: r) y q) = pk m fun y q => f x t y q + pk t fun z r => f z (x :: r) y q
    rw [pk_comm m t, ← pk_add]
theorem pk_swap : ∀ (l : List α) (f : α → α → List α → Q4), pk l (fun x r => pk r fun y q => f x y q) = pk l fun x r => pk r fun y q => f y x q
  | [], _ => rfl
  | x :: t, f => by
    have h := pk_swap t fun y z q => f y z (x :: q)
    show pk t (fun y q => f x y q) + pk t (fun y r => f y x r + pk r fun z q => f y z (x :: q)) = pk t (fun y q => f y x q) + pk t (fun y r => f x y r + pk r fun z q => f z y (x :: q))
    rw [pk_add, pk_add, h, ← Q4.add_assoc, ← Q4.add_assoc, Q4.add_comm (pk t fun y q => f x y q)]
theorem pk_perm {l l' : List α} (h : l.Perm l') : ∀ {F : α → List α → Q4}, (∀ x r r', r.Perm r' → F x r = F x r') → pk l F = pk l' F := by
  induction h with
  | nil => intro F _; rfl
  | cons x h ih =>
    intro F hF
    unfold pk
    rw [hF x _ _ h, ih fun y r r' hr => hF y _ _ (hr.cons x)]
  | swap x y t =>
    intro F hF
    show F y (x :: t) + (F x (y :: t) + pk t fun z r => F z (y :: x :: r)) = F x (y :: t) + (F y (x :: t) + pk t fun z r => F z (x :: y :: r))
    rw [← Q4.add_assoc, ← Q4.add_assoc, Q4.add_comm (F y (x :: t)), pk_congr t fun z r => hF z _ _ (List.Perm.swap x y r)]
  | trans _ _ ih1 ih2 => intro F hF; rw [ih1 hF, ih2 hF]

/-- The permanent of the rows R and the columns l, by the first row. -/
def pm (a : α → β → Q4) : List α → List β → Q4
  | [], _ => 1
  | r :: R, l => pk l fun x q => a r x * pm a R q
theorem pm_last (a : α → β → Q4) (r : α) : ∀ (R : List α) (l : List β), pm a (R ++ [r]) l = pk l fun x q => pm a R q * a r x
  | [], l => by
    show pk l (fun x q => a r x * 1) = pk l fun x q => 1 * a r x
    exact pk_congr l fun x q => Q4.mul_comm _ _
  | s :: R, l => by
    show pk l (fun x q => a s x * pm a (R ++ [r]) q) = pk l fun x q => (pk q fun y p => a s y * pm a R p) * a r x
    have h1 : pk l (fun x q => a s x * pm a (R ++ [r]) q) = pk l fun x q => pk q fun y p => a s x * pm a R p * a r y :=
      pk_congr l fun x q => by
        rw [pm_last a r R q, ← pk_mul]
        exact pk_congr q fun y p => (Q4.mul_assoc _ _ _).symm
    have h2 : pk l (fun x q => (pk q fun y p => a s y * pm a R p) * a r x) = pk l fun x q => pk q fun y p => a s y * pm a R p * a r x :=
      pk_congr l fun x q => (pk_mulr _ q _).symm
    rw [h1, h2]
    exact pk_swap l fun x y p => a s x * pm a R p * a r y
theorem pm_rot (a : α → β → Q4) (r : α) (R : List α) (l : List β) : pm a (r :: R) l = pm a (R ++ [r]) l := by
  rw [pm_last]
  exact pk_congr l fun x q => Q4.mul_comm _ _
theorem pm_cols (a : α → β → Q4) : ∀ (R : List α) {l l' : List β}, l.Perm l' → pm a R l = pm a R l'
  | [], _, _, _ => rfl
  | r :: R, l, l', h => pk_perm h fun x q q' hq => by rw [pm_cols a R hq]
theorem pm_turn (a : α → β → Q4) (l : List β) : ∀ (X Y : List α), pm a (X ++ Y) l = pm a (Y ++ X) l
  | [], Y => by rw [List.nil_append, List.append_nil]
  | x :: X, Y => by
    have h := pm_turn a l X (Y ++ [x])
    rw [List.cons_append, pm_rot, List.append_assoc, h, List.append_assoc]
    rfl
theorem pm_col (a : α → β → Q4) : ∀ (R : List α) (x : β) (C : List β), R.length = C.length + 1 → pm a R (x :: C) = pk R fun r S => a r x * pm a S C
  | [], _, _, h => by simp at h
  | r :: R, x, C, h => by
    have hl : R.length = C.length := by simpa using h
    show a r x * pm a R C + pk C (fun y q => a r y * pm a R (x :: q)) = a r x * pm a R C + pk R fun s S => a s x * pk C fun y q => a r y * pm a S q
    have h1 : pk C (fun y q => a r y * pm a R (x :: q)) = pk C fun y q => pk R fun s S => a r y * (a s x * pm a S q) :=
      pk_congr' C fun y q hp => by
        have := hp.length_eq
        rw [pm_col a R x q (by simp at this; omega), ← pk_mul]
    have h2 : pk R (fun s S => a s x * pk C fun y q => a r y * pm a S q) = pk R fun s S => pk C fun y q => a r y * (a s x * pm a S q) :=
      pk_congr R fun s S => by
        rw [← pk_mul]
        exact pk_congr C fun y q => by rw [← Q4.mul_assoc, ← Q4.mul_assoc, Q4.mul_comm (a s x)]
    rw [h1, h2, pk_comm]
theorem pm_T (a : α → β → Q4) : ∀ (l : List β) (R : List α), R.length = l.length → pm a R l = pm (fun y x => a x y) l R
  | [], R, h => by
    obtain rfl : R = [] := List.length_eq_zero_iff.1 h
    rfl
  | x :: C, R, h => by
    rw [pm_col a R x C (by simpa using h)]
    exact pk_congr' R fun r S hp => by
      have := hp.length_eq
      rw [pm_T a C S (by simp at this h; omega)]
theorem pm_congr {a b : α → β → Q4} : ∀ (R : List α) (l : List β), (∀ r ∈ R, ∀ x ∈ l, a r x = b r x) → pm a R l = pm b R l
  | [], _, _ => rfl
  | r :: R, l, h => pk_congr' l fun x q hp => by
    rw [h r (by simp) x (hp.mem_iff.1 (by simp)), pm_congr R q fun s hs y hy => h s (by simp [hs]) y (hp.mem_iff.1 (by simp [hy]))]
theorem pm_map {γ δ : Type} (a : α → β → Q4) (f : γ → α) (g : δ → β) : ∀ (R : List γ) (l : List δ), pm a (R.map f) (l.map g) = pm (fun r x => a (f r) (g x)) R l
  | [], _ => rfl
  | r :: R, l => by
    have key : ∀ (l : List δ) (F : β → List β → Q4), pk (l.map g) F = pk l fun x q => F (g x) (q.map g) := by
      intro l
      induction l with
      | nil => intro F; rfl
      | cons x t ih =>
        intro F
        show F (g x) (t.map g) + pk (t.map g) (fun y r => F y (g x :: r)) = F (g x) (t.map g) + pk t fun y r => F (g y) ((x :: r).map g)
        rw [ih]
        rfl
    show pk (l.map g) (fun x q => a (f r) x * pm a (R.map f) q) = pk l fun x q => a (f r) (g x) * pm (fun r x => a (f r) (g x)) R q
    rw [key]
    exact pk_congr l fun x q => by rw [pm_map a f g R q]
end

/-- The sum over a list. -/
def slQ {α : Type} : List α → (α → Q4) → Q4
  | [], _ => 0
  | x :: t, f => f x + slQ t f
section
variable {α : Type}
theorem slQ_app (f : α → Q4) : ∀ (l m : List α), slQ (l ++ m) f = slQ l f + slQ m f
  | [], m => (Q4.zero_add _).symm
  | x :: t, m => by
    show f x + slQ (t ++ m) f = f x + slQ t f + slQ m f
    rw [slQ_app f t m, Q4.add_assoc]
theorem slQ_congr {f g : α → Q4} : ∀ (l : List α), (∀ x ∈ l, f x = g x) → slQ l f = slQ l g
  | [], _ => rfl
  | x :: t, h => by
    show f x + slQ t f = g x + slQ t g
    rw [h x (by simp), slQ_congr t fun y hy => h y (by simp [hy])]
end
theorem slQ_range (f : Nat → Q4) : ∀ n, slQ (List.range n) f = sumQ n f
  | 0 => rfl
  | n + 1 => by
    rw [List.range_succ, slQ_app, slQ_range f n]
    show sumQ n f + (f n + 0) = sumQ n f + f n
    rw [Q4.add_zero]
theorem sumQ_cons (f : Nat → Q4) : ∀ n, sumQ (n + 1) f = f 0 + sumQ n fun k => f (k + 1)
  | 0 => by
    show 0 + f 0 = f 0 + 0
    rw [Q4.add_comm]
  | n + 1 => by
    show sumQ (n + 1) f + f (n + 1) = f 0 + (sumQ n (fun k => f (k + 1)) + f (n + 1))
    rw [sumQ_cons f n, Q4.add_assoc]
theorem pk_idx {α : Type} (d : α) : ∀ (l : List α) (F : α → List α → Q4), pk l F = sumQ l.length fun k => F (l.getD k d) (l.eraseIdx k)
  | [], _ => rfl
  | x :: t, F => by
    rw [List.length_cons, sumQ_cons]
    show F x t + pk t (fun y r => F y (x :: r)) = _
    rw [pk_idx d t]
    rfl
theorem pk_filter {α : Type} [DecidableEq α] (p : α → Bool) : ∀ (l : List α) (F : α → List α → Q4), l.Nodup → pk (l.filter p) F = slQ l fun k => if p k then F k (l.filter fun j => p j && decide (j ≠ k)) else 0
  | [], _, _ => rfl
  | x :: t, F, h => by
    have hx : x ∉ t := (List.nodup_cons.1 h).1
    have ht := (List.nodup_cons.1 h).2
    have e : (t.filter fun j => p j && decide (j ≠ x)) = t.filter p := List.filter_congr fun j hj => by
      have : j ≠ x := fun e => hx (e ▸ hj)
      simp [this]
    show _ = (if p x then F x ((x :: t).filter fun j => p j && decide (j ≠ x)) else 0) + slQ t _
    by_cases hp : p x = true
    · rw [List.filter_cons_of_pos hp, if_pos hp]
      have e0 : ((x :: t).filter fun j => p j && decide (j ≠ x)) = t.filter p := by rw [List.filter_cons_of_neg (by simp), e]
      rw [e0]
      show F x (t.filter p) + pk (t.filter p) (fun y r => F y (x :: r)) = _
      rw [pk_filter p t _ ht]
      congr 1
      refine slQ_congr t fun k hk => ?_
      have : x ≠ k := fun e => hx (e ▸ hk)
      rw [List.filter_cons_of_pos (by simp [hp, this])]
    · rw [List.filter_cons_of_neg hp, if_neg hp, pk_filter p t _ ht, Q4.zero_add]
      refine slQ_congr t fun k hk => ?_
      rw [List.filter_cons_of_neg (by simp [hp])]

/-- The ways to choose the columns of a set from the first c rows. -/
def wyQ (a : Nat → Nat → Q4) (n : Nat) : Nat → Nat → Q4
  | 0, _ => 1
  | c + 1, S => sumQ n fun k => if S.testBit k then wyQ a n c (S - 2 ^ k) * a c k else 0
def colsOf (n S : Nat) : List Nat := (List.range n).filter fun k => S.testBit k
theorem bit_out : ∀ S, S < 64 → ∀ k, k < 6 → S.testBit k = true → S - 2 ^ k < 64 ∧ ∀ j, j < 6 → (S - 2 ^ k).testBit j = (S.testBit j && decide (j ≠ k)) := by decide
theorem wyQ_pm (a : Nat → Nat → Q4) {n : Nat} (hn : n ≤ 6) : ∀ c S, S < 64 → wyQ a n c S = pm a (List.range c) (colsOf n S)
  | 0, _, _ => rfl
  | c + 1, S, hS => by
    rw [List.range_succ, pm_last]
    unfold colsOf
    rw [pk_filter _ _ _ List.nodup_range, slQ_range]
    show sumQ n _ = sumQ n _
    have key : ∀ m, m ≤ n → sumQ m (fun k => if S.testBit k then wyQ a n c (S - 2 ^ k) * a c k else 0) = sumQ m fun k => if S.testBit k then pm a (List.range c) ((List.range n).filter fun j => S.testBit j && decide (j ≠ k)) * a c k else 0 := by
      intro m
      induction m with
      | zero => intro _; rfl
      | succ m ih =>
        intro hm
        show sumQ m _ + _ = sumQ m _ + _
        rw [ih (by omega)]
        congr 1
        dsimp only
        by_cases hb : S.testBit m = true
        · rw [if_pos hb, if_pos hb]
          obtain ⟨h1, h2⟩ := bit_out S hS m (by omega) hb
          rw [wyQ_pm a hn c _ h1]
          congr 2
          exact List.filter_congr fun j hj => h2 j (by have := List.mem_range.1 hj; omega)
        · rw [if_neg hb, if_neg hb]
    exact key n (Nat.le_refl _)
theorem cols_full : ∀ n, n ≤ 6 → colsOf n (2 ^ n - 1) = List.range n := by decide
/-- All columns. -/
theorem wyQ_full (a : Nat → Nat → Q4) {n : Nat} (hn : n ≤ 6) : wyQ a n n (2 ^ n - 1) = pm a (List.range n) (List.range n) := by
  have h : 2 ^ n - 1 < 64 := by
    have : n = 0 ∨ n = 1 ∨ n = 2 ∨ n = 3 ∨ n = 4 ∨ n = 5 ∨ n = 6 := by omega
    rcases this with rfl | rfl | rfl | rfl | rfl | rfl | rfl <;> decide
  rw [wyQ_pm a hn n _ h, cols_full n hn]
end Go.Proofs.Ytjeijnjaleldkaa
