/- A region that draws its order, walked once along one fixed order: operations that only read are taken as soon as they are ready, the others one by one. -/
import Derived.Test.YtccbinnlnkpplaaRows
import Derived.WalkKit
import Derived.Deep.RegionHeld3
import Derived.WalkLawsBesides
import Derived.Handy
import Derived.Lib.Hide
import Derived.Deep.Light
import Derived.Outline
import Derived.Deep.QuietTactic
import Derived.BigQuiet
namespace Go.Proofs.Ytccbinnlnkpplaa
set_option linter.all false
open Go.RowKit

section
variable {P : Program} {ops : Array Oper} {Q : Exit → Act → World → Prop} {md : Region.Mode} {S : World → Prop}

def wpEag (P : Program) (ops : Array Oper) (Q : Exit → Act → World → Prop) (S : World → Prop) : List (Nat × Bool) → Act → World → Prop
  | [], a, w => Q .normal a w
  | (i, true) :: l, a, w => ∃ o v, ops[i]? = some o ∧ YieldsIf P ops S o v a ∧ wpEag P ops Q S l (a.put o.dst v) w
  | (i, false) :: l, a, w => wpOp P ops Q i (fun a' w' => S w' ∧ wpEag P ops Q S l a' w') a w

def eagB (md : Region.Mode) (ops : Array Oper) : List (Nat × Bool) → Array Bool → Bool
  | [], listed => (Region.ready md ops listed).isEmpty
  | (i, true) :: l, listed => (Region.ready md ops listed).contains i && (Region.free md ops listed i && eagB md ops l (listed.setIfInBounds i true))
  | (i, false) :: l, listed => (match Region.ready md ops listed with | [j] => j == i | _ => false) && eagB md ops l (listed.setIfInBounds i true)

theorem wpAnyH_of_eag (hs : Region.noSelect ops = true) (hQ : ∀ c d v a w, Q (.panic c) (Act.put a d v) w → Q (.panic c) a w) :
    ∀ (l : List (Nat × Bool)) (listed : Array Bool) (a : Act) (w : World), eagB md ops l listed = true → S w → wpEag P ops Q S l a w →
      wpAnyH P md ops Q S l.length listed a w
  | [], listed, a, w, hB, _, h => ⟨by simpa [eagB] using hB, h⟩
  | (i, true) :: l, listed, a, w, hB, hS, h => by
    simp only [eagB, Bool.and_eq_true] at hB
    obtain ⟨hr, hf, hB'⟩ := hB
    obtain ⟨o, v, ho, hy, hrest⟩ := h
    exact wpAnyH_take ho hs hf hr (fun c a w => hQ c _ _ a w) hy hS (wpAnyH_of_eag hs hQ l _ _ _ hB' hS hrest)
  | (i, false) :: l, listed, a, w, hB, hS, h => by
    simp only [eagB, Bool.and_eq_true] at hB
    obtain ⟨hr, hB'⟩ := hB
    have hr' : Region.ready md ops listed = [i] := by
      revert hr
      split
      · rename_i j hj; intro hr; rw [hj]; simp at hr; rw [hr]
      · intro hr; cases hr
    refine wpAnyH_all hr' (by simp) (fun j hj => ?_)
    have hji : j = i := by simpa using hj
    subst hji
    exact wpOp_mono (fun a' w' h' => ⟨h'.1, wpAnyH_of_eag hs hQ l _ _ _ hB' h'.1 h'.2⟩) h

/-- What a list of one operation says of it. -/
theorem wpOp_of_list {K : Act → World → Prop} {i : Nat} {a : Act} {w : World} {o : Oper} (ho : ops[i]? = some o) (h : wpList P ops (Exit.then K Q) [o] a w) : wpOp P ops Q i K a w := by
  unfold wpOp
  simp only [ho]
  unfold wpList at h
  split
  · rename_i hw
    rw [if_pos hw] at h
    rcases h with h | h
    · refine .inl ?_
      unfold Oper.wp at *
      generalize (execOp a.eval o).run P w = r at *
      cases r with
      | ok n w' =>
        cases n <;> simp only [Oper.upon] at h ⊢ <;>
          first
            | exact h
            | exact Calls.mono h (fun e w'' he => by cases e <;> first | exact he | (obtain ⟨a₀, w₀, h₀⟩ := he; exact ⟨a₀, w₀, h₀⟩))
      | halt x w' => cases x <;> simp only [Oper.upon] at h ⊢ <;> exact h
    · obtain ⟨h1, a₀, w₀, h2⟩ := h
      exact .inr ⟨h1, a₀, w₀, h2⟩
  · rename_i hw
    rw [if_neg hw] at h
    exact h

/-- The same walk, over the operations themselves. -/
def wpEagL (P : Program) (ops : Array Oper) (Q : Exit → Act → World → Prop) (S : World → Prop) : List (Oper × Bool) → Act → World → Prop
  | [], a, w => Q .normal a w
  | (o, true) :: l, a, w => ∃ v, YieldsIf P ops S o v a ∧ wpEagL P ops Q S l (a.put o.dst v) w
  | (o, false) :: l, a, w => wpList P ops (Exit.then (fun a' w' => S w' ∧ wpEagL P ops Q S l a' w') Q) [o] a w

theorem wpList_one_mono {K K' : Act → World → Prop} {a : Act} {w : World} {o : Oper} (hk : ∀ a w, K a w → K' a w)
    (h : wpList P ops (Exit.then K Q) [o] a w) : wpList P ops (Exit.then K' Q) [o] a w := by
  unfold wpList at *
  split
  · rename_i hw
    rw [if_pos hw] at h
    rcases h with h | h
    · refine .inl ?_
      unfold Oper.wp at *
      generalize (execOp a.eval o).run P w = r at *
      cases r with
      | ok n w' =>
        cases n <;> simp only [Oper.upon] at h ⊢ <;>
          first
            | exact hk _ _ h
            | exact h
            | exact Calls.mono h (fun e w'' he => by cases e <;> first | exact hk _ _ he | exact he | (obtain ⟨a₀, w₀, h₀⟩ := he; exact ⟨a₀, w₀, h₀⟩))
            | exact Rows.mono h (fun _ _ he => hk _ _ he)
      | halt x w' => cases x <;> simp only [Oper.upon] at h ⊢ <;> exact h
    · obtain ⟨h1, a₀, w₀, h2⟩ := h
      exact .inr ⟨h1, a₀, w₀, h2⟩
  · rename_i hw
    rw [if_neg hw] at h
    exact hk _ _ h

theorem wpEag_of_L : ∀ (ord : List (Nat × Bool)) (a : Act) (w : World), (ord.all fun p => decide (p.1 < ops.size)) = true →
    wpEagL P ops Q S (ord.map fun p => (ops.toList.getD p.1 default, p.2)) a w → wpEag P ops Q S ord a w
  | [], _, _, _, h => h
  | (i, true) :: l, a, w, hi, h => by
    simp only [List.all_cons, Bool.and_eq_true, decide_eq_true_eq] at hi
    obtain ⟨v, hy, hr⟩ := h
    have ho : ops[i]? = some (ops.toList.getD i default) := by
      simp [List.getD_eq_getElem?_getD, hi.1]
    exact ⟨_, v, ho, hy, wpEag_of_L l _ _ hi.2 hr⟩
  | (i, false) :: l, a, w, hi, h => by
    simp only [List.all_cons, Bool.and_eq_true, decide_eq_true_eq] at hi
    have ho : ops[i]? = some (ops.toList.getD i default) := by
      simp [List.getD_eq_getElem?_getD, hi.1]
    exact wpOp_of_list ho (wpList_one_mono (fun a' w' h' => ⟨h'.1, wpEag_of_L l a' w' hi.2 h'.2⟩) h)

/-- The whole region. -/
theorem wp_region_eag {id : Nat} {a : Act} {w : World} {l : List Oper} (S : World → Prop) (ord : List (Nat × Bool)) (hm : P.follows .mixedOrders = true)
    (hB : (Region.noSelect l.toArray && (decide (ord.length = l.length) && ((ord.all fun p => decide (p.1 < l.length)) && eagB .any l.toArray ord (Array.replicate l.length false)))) = true)
    (hQ : ∀ c d v a w, Q (.panic c) (Act.put a d v) w → Q (.panic c) a w) (hS : S w.drew)
    (h : wpEagL P l.toArray Q S (ord.map fun p => (l.getD p.1 default, p.2)) a w.drew) : (Code.region id l.toArray true).wp P Q a w := by
  simp only [Bool.and_eq_true, decide_eq_true_eq] at hB
  obtain ⟨hs, hl, hi, hB⟩ := hB
  refine wp_region_held (S := S) hm ?_
  have := wpAnyH_of_eag (md := .any) hs hQ ord _ a w.drew hB hS (wpEag_of_L ord a w.drew (by simpa using hi) (by simpa using h))
  rw [hl] at this
  simpa using this

theorem eag_nil {a : Act} {w : World} (h : Q .normal a w) : wpEagL P ops Q S [] a w := h

section
variable {l : List (Oper × Bool)} {a : Act} {w : World} {d : Option Tmp} {op : Op} {t : TypeId} {p : String} {af : Array Edge} {v : Value}
/-- An operation that yields v in every world of the class. -/
theorem eag_soft (hy : ∀ w', S w' → (execOp a.eval ⟨d, op, t, p, af, none⟩).run P w' = .ok (.value v) w') (h : wpEagL P ops Q S l (a.put d v) w) :
    wpEagL P ops Q S ((⟨d, op, t, p, af, none⟩, true) :: l) a w :=
  ⟨v, .inl ⟨by simp [Region.wanted], hy⟩, h⟩
theorem eag_move {x : Operand} (h : wpEagL P ops Q S l (a.put d (a.eval x)) w) : wpEagL P ops Q S ((⟨d, .move x, t, p, af, none⟩, true) :: l) a w :=
  eag_soft (fun w' _ => BigFrame.run_move x rfl w') h
theorem eag_assign {x : Operand} (h : wpEagL P ops Q S l (a.put d (a.eval x)) w) : wpEagL P ops Q S ((⟨d, .assign x, t, p, af, none⟩, true) :: l) a w :=
  eag_soft (fun w' _ => BigFrame.run_assign x rfl w') h
/-- A guarded operation that is wanted. -/
theorem eag_soft_g {g : Nat × Bool} (hg : Region.wanted ⟨d, op, t, p, af, some g⟩ (yielded ops a.tmps) = true)
    (hy : ∀ w', S w' → (execOp a.eval ⟨d, op, t, p, af, some g⟩).run P w' = .ok (.value v) w') (h : wpEagL P ops Q S l (a.put d v) w) :
    wpEagL P ops Q S ((⟨d, op, t, p, af, some g⟩, true) :: l) a w :=
  ⟨v, .inl ⟨hg, hy⟩, h⟩
/-- A guarded operation that is passed over. -/
theorem eag_skip {g : Nat × Bool} (hg : Region.wanted ⟨d, op, t, p, af, some g⟩ (yielded ops a.tmps) = false)
    (h : wpEagL P ops Q S l (a.put d undef) w) : wpEagL P ops Q S ((⟨d, op, t, p, af, some g⟩, true) :: l) a w :=
  ⟨undef, .inr ⟨hg, rfl⟩, h⟩
/-- An operation that is carried out: as a list of one. -/
theorem eag_hard {o : Oper} (h : wpList P ops (Exit.then (fun a' w' => S w' ∧ wpEagL P ops Q S l a' w') Q) [o] a w) : wpEagL P ops Q S ((o, false) :: l) a w := h
end

/-! ### One operation (number f) may come up anywhere among the others: items (i, 0): soft; (i, 1): hard, alone; (i, 2): hard, and f may come up in its place -/
def flStrip (f : Nat) : List (Nat × Nat) → List (Nat × Bool)
  | [] => []
  | (i, 0) :: l => (i, true) :: flStrip f l
  | (i, _ + 1) :: l => if i = f then flStrip f l else (i, false) :: flStrip f l

def wpFl (P : Program) (ops : Array Oper) (Q : Exit → Act → World → Prop) (S : World → Prop) (f : Nat) : List (Nat × Nat) → Act → World → Prop
  | [], a, w => Q .normal a w
  | (i, 0) :: l, a, w => ∃ o v, ops[i]? = some o ∧ YieldsIf P ops S o v a ∧ wpFl P ops Q S f l (a.put o.dst v) w
  | (i, 1) :: l, a, w => wpOp P ops Q i (fun a' w' => S w' ∧ wpFl P ops Q S f l a' w') a w
  | (i, _ + 2) :: l, a, w => wpOp P ops Q i (fun a' w' => S w' ∧ wpFl P ops Q S f l a' w') a w ∧
      wpOp P ops Q f (fun a' w' => S w' ∧ wpEag P ops Q S ((i, false) :: flStrip f l) a' w') a w

def flB (md : Region.Mode) (ops : Array Oper) (f : Nat) : List (Nat × Nat) → Array Bool → Bool
  | [], listed => (Region.ready md ops listed).isEmpty
  | (i, 0) :: l, listed => (Region.ready md ops listed).contains i && (Region.free md ops listed i && flB md ops f l (listed.setIfInBounds i true))
  | (i, 1) :: l, listed => decide (Region.ready md ops listed = [i]) && flB md ops f l (listed.setIfInBounds i true)
  | (i, _ + 2) :: l, listed => (decide (Region.ready md ops listed = [i, f]) || decide (Region.ready md ops listed = [f, i])) &&
      (flB md ops f l (listed.setIfInBounds i true) && (eagB md ops ((i, false) :: flStrip f l) (listed.setIfInBounds f true) && decide ((flStrip f l).length + 1 = l.length)))

theorem wpAnyH_of_fl (hs : Region.noSelect ops = true) (hQ : ∀ c d v a w, Q (.panic c) (Act.put a d v) w → Q (.panic c) a w) (f : Nat) :
    ∀ (l : List (Nat × Nat)) (listed : Array Bool) (a : Act) (w : World), flB md ops f l listed = true → S w → wpFl P ops Q S f l a w →
      wpAnyH P md ops Q S l.length listed a w
  | [], listed, a, w, hB, _, h => ⟨by simpa [flB] using hB, h⟩
  | (i, 0) :: l, listed, a, w, hB, hS, h => by
    simp only [flB, Bool.and_eq_true] at hB
    obtain ⟨hr, hf, hB'⟩ := hB
    obtain ⟨o, v, ho, hy, hrest⟩ := h
    exact wpAnyH_take ho hs hf hr (fun c a w => hQ c _ _ a w) hy hS (wpAnyH_of_fl hs hQ f l _ _ _ hB' hS hrest)
  | (i, 1) :: l, listed, a, w, hB, hS, h => by
    simp only [flB, Bool.and_eq_true, decide_eq_true_eq] at hB
    obtain ⟨hr', hB'⟩ := hB
    refine wpAnyH_all hr' (by simp) (fun j hj => ?_)
    have hji : j = i := by simpa using hj
    subst hji
    exact wpOp_mono (fun a' w' h' => ⟨h'.1, wpAnyH_of_fl hs hQ f l _ _ _ hB' h'.1 h'.2⟩) h
  | (i, n + 2) :: l, listed, a, w, hB, hS, h => by
    simp only [flB, Bool.and_eq_true, Bool.or_eq_true, decide_eq_true_eq] at hB
    obtain ⟨hr', hB', hE, hl⟩ := hB
    obtain ⟨h1, h2⟩ := h
    have hne : Region.ready md ops listed ≠ [] := by rcases hr' with h | h <;> rw [h] <;> simp
    refine wpAnyH_all rfl hne (fun j hj => ?_)
    have hji : j = i ∨ j = f := by
      rcases hr' with h | h <;> rw [h] at hj <;> simp at hj <;> omega
    by_cases hi : j = i
    · subst hi
      exact wpOp_mono (fun a' w' h' => ⟨h'.1, wpAnyH_of_fl hs hQ f l _ _ _ hB' h'.1 h'.2⟩) h1
    · have hf : j = f := by omega
      subst hf
      refine wpOp_mono (fun a' w' h' => ⟨h'.1, ?_⟩) h2
      have := wpAnyH_of_eag hs hQ _ _ _ _ hE h'.1 h'.2
      rw [List.length_cons, hl] at this
      exact this

def flStripL : List (Oper × Nat) → List (Oper × Bool)
  | [] => []
  | (o, 0) :: l => (o, true) :: flStripL l
  | (_, 3) :: l => flStripL l
  | (o, _ + 1) :: l => (o, false) :: flStripL l

/-- The same over the operations themselves: (o, 3) is the one that floats, where it must come. -/
def wpFlL (P : Program) (ops : Array Oper) (Q : Exit → Act → World → Prop) (S : World → Prop) (u : Oper) : List (Oper × Nat) → Act → World → Prop
  | [], a, w => Q .normal a w
  | (o, 0) :: l, a, w => ∃ v, YieldsIf P ops S o v a ∧ wpFlL P ops Q S u l (a.put o.dst v) w
  | (o, 2) :: l, a, w => wpList P ops (Exit.then (fun a' w' => S w' ∧ wpFlL P ops Q S u l a' w') Q) [o] a w ∧
      wpList P ops (Exit.then (fun a' w' => S w' ∧ wpEagL P ops Q S ((o, false) :: flStripL l) a' w') Q) [u] a w
  | (o, _ + 1) :: l, a, w => wpList P ops (Exit.then (fun a' w' => S w' ∧ wpFlL P ops Q S u l a' w') Q) [o] a w

def flMark (f : Nat) (l : List Oper) (p : Nat × Nat) : Oper × Nat := (l.getD p.1 default, if p.1 = f then 3 else p.2)

theorem flStripL_mark (f : Nat) (l : List Oper) : ∀ (ord : List (Nat × Nat)), (ord.all fun p => decide (p.2 ≤ 2) && (p.2 != 0 || p.1 != f)) = true →
    flStripL (ord.map (flMark f l)) = (flStrip f ord).map fun p => (l.getD p.1 default, p.2)
  | [], _ => rfl
  | (i, k) :: r, h => by
    simp only [List.all_cons, Bool.and_eq_true, decide_eq_true_eq, Bool.or_eq_true, bne_iff_ne, ne_eq] at h
    obtain ⟨⟨h1, h2⟩, h3⟩ := h
    have ih := flStripL_mark f l r (by simpa using h3)
    by_cases hf : i = f
    · have hk : k = 1 ∨ k = 2 := by omega
      rcases hk with rfl | rfl <;> simp [flMark, flStripL, flStrip, hf, ih]
    · have hk : k = 0 ∨ k = 1 ∨ k = 2 := by omega
      rcases hk with rfl | rfl | rfl <;> simp [flMark, flStripL, flStrip, hf, ih]

theorem wpFl_of_L (f : Nat) : ∀ (ord : List (Nat × Nat)) (a : Act) (w : World), f < ops.size → (ord.all fun p => decide (p.1 < ops.size)) = true →
    (ord.all fun p => decide (p.2 ≤ 2) && (p.2 != 0 || p.1 != f)) = true → (ord.all fun p => p.2 != 2 || p.1 != f) = true →
    wpFlL P ops Q S (ops.toList.getD f default) (ord.map (flMark f ops.toList)) a w → wpFl P ops Q S f ord a w
  | [], _, _, _, _, _, _, h => h
  | (i, k) :: l, a, w, hf, hi, hk, hn, h => by
    have hi0 := hi
    have hk0 := hk
    simp only [List.all_cons, Bool.and_eq_true, decide_eq_true_eq, Bool.or_eq_true, bne_iff_ne, ne_eq] at hi hk hn
    have ho : ops[i]? = some (ops.toList.getD i default) := by
      simp [List.getD_eq_getElem?_getD, hi.1]
    have hu : ops[f]? = some (ops.toList.getD f default) := by
      simp [List.getD_eq_getElem?_getD, hf]
    have ih : ∀ a w, wpFlL P ops Q S (ops.toList.getD f default) (l.map (flMark f ops.toList)) a w → wpFl P ops Q S f l a w :=
      fun a w h => wpFl_of_L f l a w hf (by simpa using hi.2) (by simpa using hk.2) (by simpa using hn.2) h
    obtain ⟨⟨hk1, hk2⟩, hkr⟩ := hk
    have hk3 : k = 0 ∨ k = 1 ∨ k = 2 := by omega
    rcases hk3 with rfl | rfl | rfl
    · have hne : i ≠ f := by omega
      simp only [List.map_cons, flMark, if_neg hne] at h
      obtain ⟨v, hy, hr⟩ := h
      exact ⟨_, v, ho, hy, ih _ _ hr⟩
    · by_cases hif : i = f
      · simp only [List.map_cons, flMark, if_pos hif] at h
        exact wpOp_of_list ho (wpList_one_mono (fun a' w' h' => ⟨h'.1, ih a' w' h'.2⟩) h)
      · simp only [List.map_cons, flMark, if_neg hif] at h
        exact wpOp_of_list ho (wpList_one_mono (fun a' w' h' => ⟨h'.1, ih a' w' h'.2⟩) h)
    · have hne : i ≠ f := by have := hn.1; omega
      simp only [List.map_cons, flMark, if_neg hne] at h
      obtain ⟨h1, h2⟩ := h
      refine ⟨wpOp_of_list ho (wpList_one_mono (fun a' w' h' => ⟨h'.1, ih a' w' h'.2⟩) h1), wpOp_of_list hu (wpList_one_mono (fun a' w' h' => ⟨h'.1, ?_⟩) h2)⟩
      have hs := flStripL_mark f ops.toList l (by simpa using hkr)
      have h3 := h'.2
      rw [hs] at h3
      refine wpEag_of_L ((i, false) :: flStrip f l) a' w' ?_ h3
      have hall : ∀ (l : List (Nat × Nat)), (l.all fun p => decide (p.1 < ops.size)) = true → ((flStrip f l).all fun p => decide (p.1 < ops.size)) = true := by
        intro l
        induction l with
        | nil => intro _; rfl
        | cons x r ih' =>
          obtain ⟨x1, x2⟩ := x
          intro h
          simp only [List.all_cons, Bool.and_eq_true, decide_eq_true_eq] at h
          cases x2 with
          | zero => simp only [flStrip, List.all_cons, Bool.and_eq_true, decide_eq_true_eq]; exact ⟨h.1, ih' h.2⟩
          | succ x2 =>
            simp only [flStrip]
            split
            · exact ih' h.2
            · simp only [List.all_cons, Bool.and_eq_true, decide_eq_true_eq]; exact ⟨h.1, ih' h.2⟩
      simp only [List.all_cons, Bool.and_eq_true, decide_eq_true_eq]
      exact ⟨hi.1, hall l (by simpa using hi.2)⟩

theorem wp_region_fl {id : Nat} {a : Act} {w : World} {l : List Oper} (S : World → Prop) (f : Nat) (ord : List (Nat × Nat)) (hm : P.follows .mixedOrders = true)
    (hB : (Region.noSelect l.toArray && (decide (ord.length = l.length) && (decide (f < l.length) && ((ord.all fun p => decide (p.1 < l.length)) && ((ord.all fun p => decide (p.2 ≤ 2) && (p.2 != 0 || p.1 != f)) &&
      ((ord.all fun p => p.2 != 2 || p.1 != f) && flB .any l.toArray f ord (Array.replicate l.length false))))))) = true)
    (hQ : ∀ c d v a w, Q (.panic c) (Act.put a d v) w → Q (.panic c) a w) (hS : S w.drew)
    (h : wpFlL P l.toArray Q S (l.getD f default) (ord.map (flMark f l)) a w.drew) : (Code.region id l.toArray true).wp P Q a w := by
  simp only [Bool.and_eq_true, decide_eq_true_eq] at hB
  obtain ⟨hs, hl, hf, hi, hk, hn, hB⟩ := hB
  refine wp_region_held (S := S) hm ?_
  have := wpAnyH_of_fl (md := .any) hs hQ f ord _ a w.drew hB hS (wpFl_of_L f ord a w.drew (by simpa using hf) (by simpa using hi) hk hn (by simpa using h))
  rw [hl] at this
  simpa using this

section
variable {u : Oper} {l : List (Oper × Nat)} {a : Act} {w : World} {d : Option Tmp} {op : Op} {t : TypeId} {p : String} {af : Array Edge} {v : Value}
theorem fl_nil (h : Q .normal a w) : wpFlL P ops Q S u [] a w := h
theorem fl_soft (hy : ∀ w', S w' → (execOp a.eval ⟨d, op, t, p, af, none⟩).run P w' = .ok (.value v) w') (h : wpFlL P ops Q S u l (a.put d v) w) :
    wpFlL P ops Q S u ((⟨d, op, t, p, af, none⟩, 0) :: l) a w := ⟨v, .inl ⟨by simp [Region.wanted], hy⟩, h⟩
theorem fl_move {x : Operand} (h : wpFlL P ops Q S u l (a.put d (a.eval x)) w) : wpFlL P ops Q S u ((⟨d, .move x, t, p, af, none⟩, 0) :: l) a w :=
  fl_soft (fun w' _ => BigFrame.run_move x rfl w') h
theorem fl_assign {x : Operand} (h : wpFlL P ops Q S u l (a.put d (a.eval x)) w) : wpFlL P ops Q S u ((⟨d, .assign x, t, p, af, none⟩, 0) :: l) a w :=
  fl_soft (fun w' _ => BigFrame.run_assign x rfl w') h
theorem fl_hard {o : Oper} (h : wpList P ops (Exit.then (fun a' w' => S w' ∧ wpFlL P ops Q S u l a' w') Q) [o] a w) : wpFlL P ops Q S u ((o, 1) :: l) a w := h
theorem fl_must {o : Oper} (h : wpList P ops (Exit.then (fun a' w' => S w' ∧ wpFlL P ops Q S u l a' w') Q) [o] a w) : wpFlL P ops Q S u ((o, 3) :: l) a w := h
theorem fl_both {o : Oper} (h : wpList P ops (Exit.then (fun a' w' => S w' ∧ wpFlL P ops Q S u l a' w') Q) [o] a w)
    (h' : wpList P ops (Exit.then (fun a' w' => S w' ∧ wpEagL P ops Q S ((o, false) :: flStripL l) a' w') Q) [u] a w) : wpFlL P ops Q S u ((o, 2) :: l) a w := ⟨h, h'⟩
end
end

theorem qs {α : Type} : (∀ (xs : List α) (i : Nat) (a : α), xs.toArray.setIfInBounds i a = (xs.set i a).toArray) ∧ (∀ (x : α) (xs : List α) (a : α), (x :: xs).set 0 a = a :: xs) ∧ (∀ (x : α) (xs : List α) (a : α) (n : Nat), (x :: xs).set (n + 1) a = x :: xs.set n a) ∧ (∀ (xs : Array α) (i : Nat) (d : α), xs.getD i d = xs[i]?.getD d) ∧ (∀ (xs : List α) (i : Nat), xs.toArray[i]? = xs[i]?) ∧ (∀ (x : α) (xs : List α), (x :: xs)[0]? = some x) ∧ (∀ (x : α) (xs : List α) (n : Nat), (x :: xs)[n + 1]? = xs[n]?) ∧ (∀ (x y : α), (some x).getD y = x) :=
  ⟨fun _ _ _ => List.setIfInBounds_toArray .., fun _ _ _ => rfl, fun _ _ _ _ => rfl, fun _ _ _ => Array.getD_eq_getD_getElem? .., fun _ _ => List.getElem?_toArray .., fun _ _ => rfl, fun _ _ _ => rfl, fun _ _ => rfl⟩
theorem qm {α : Type} : (∀ {β : Type} (f : α → β) (xs : List α), xs.toArray.map f = (xs.map f).toArray) ∧ (∀ {β : Type} (f : α → β) (x : α) (xs : List α), (x :: xs).map f = f x :: xs.map f) ∧ (∀ {β : Type} (f : α → β), ([] : List α).map f = []) :=
  ⟨fun _ _ => List.map_toArray .., fun _ _ _ => rfl, fun _ => rfl⟩
end Go.Proofs.Ytccbinnlnkpplaa
