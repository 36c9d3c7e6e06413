/- Several texts in one. -/
import Derived.Test.YtpbbbfglecbceaaRows
import Derived.WalkKit
import Derived.Deep.RegionHeld3
import Derived.WalkLawsBesides
import Derived.Handy
import Derived.Lib.Hide
import Derived.Deep.Light
import Derived.Outline
import Derived.Deep.QuietTactic
import Derived.BigQuiet
import Derived.Lib.Mul64
import Derived.Laws.Bits64b
import Derived.Lib.Strings
import Derived.Lib.Slices
import Derived.Lib.Small
import Derived.Lib.Walk
import Derived.Lib.BitFns
import Derived.Lib.ItoaNum
import Derived.Laws.BitsLemmas
import Derived.KernelRfl
import Derived.ProofKit
import Derived.OpenShut
import Derived.ChangeSame
/- A region that draws its order, walked once along one fixed order: operations that only read are taken as soon as they are ready, the others one by one. -/
namespace Go.Proofs.Ytpbbbfglecbceaa
set_option linter.all false
open Go.RowKit

section
variable {P : Program} {ops : Array Oper} {Q : Exit → Act → World → Prop} {md : Region.Mode} {S : World → Prop}

def wpEag (P : Program) (ops : Array Oper) (Q : Exit → Act → World → Prop) (S : World → Prop) : List (Nat × Bool) → Act → World → Prop
  | [], a, w => Q .normal a w
  | (i, true) :: l, a, w => ∃ o v, ops[i]? = some o ∧ YieldsIf P ops S o v a ∧ wpEag P ops Q S l (a.put o.dst v) w
  | (i, false) :: l, a, w => wpOp P ops Q i (fun a' w' => S w' ∧ wpEag P ops Q S l a' w') a w

def eagB (md : Region.Mode) (ops : Array Oper) : List (Nat × Bool) → Array Bool → Bool
  | [], listed => (Region.ready md ops listed).isEmpty
  | (i, true) :: l, listed => (Region.ready md ops listed).contains i && (Region.free md ops listed i && eagB md ops l (listed.setIfInBounds i true))
  | (i, false) :: l, listed => (match Region.ready md ops listed with | [j] => j == i | _ => false) && eagB md ops l (listed.setIfInBounds i true)

theorem wpAnyH_of_eag (hs : Region.noSelect ops = true) (hQ : ∀ c d v a w, Q (.panic c) (Act.put a d v) w → Q (.panic c) a w) :
    ∀ (l : List (Nat × Bool)) (listed : Array Bool) (a : Act) (w : World), eagB md ops l listed = true → S w → wpEag P ops Q S l a w →
      wpAnyH P md ops Q S l.length listed a w
  | [], listed, a, w, hB, _, h => ⟨by simpa [eagB] using hB, h⟩
  | (i, true) :: l, listed, a, w, hB, hS, h => by
    simp only [eagB, Bool.and_eq_true] at hB
    obtain ⟨hr, hf, hB'⟩ := hB
    obtain ⟨o, v, ho, hy, hrest⟩ := h
    exact wpAnyH_take ho hs hf hr (fun c a w => hQ c _ _ a w) hy hS (wpAnyH_of_eag hs hQ l _ _ _ hB' hS hrest)
  | (i, false) :: l, listed, a, w, hB, hS, h => by
    simp only [eagB, Bool.and_eq_true] at hB
    obtain ⟨hr, hB'⟩ := hB
    have hr' : Region.ready md ops listed = [i] := by
      revert hr
      split
      · rename_i j hj; intro hr; rw [hj]; simp at hr; rw [hr]
      · intro hr; cases hr
    refine wpAnyH_all hr' (by simp) (fun j hj => ?_)
    have hji : j = i := by simpa using hj
    subst hji
    exact wpOp_mono (fun a' w' h' => ⟨h'.1, wpAnyH_of_eag hs hQ l _ _ _ hB' h'.1 h'.2⟩) h

/-- What a list of one operation says of it. -/
theorem wpOp_of_list {K : Act → World → Prop} {i : Nat} {a : Act} {w : World} {o : Oper} (ho : ops[i]? = some o) (h : wpList P ops (Exit.then K Q) [o] a w) : wpOp P ops Q i K a w := by
  unfold wpOp
  simp only [ho]
  unfold wpList at h
  split
  · rename_i hw
    rw [if_pos hw] at h
    rcases h with h | h
    · refine .inl ?_
      unfold Oper.wp at *
      generalize (execOp a.eval o).run P w = r at *
      cases r with
      | ok n w' =>
        cases n <;> simp only [Oper.upon] at h ⊢ <;>
          first
            | exact h
            | exact Calls.mono h (fun e w'' he => by cases e <;> first | exact he | (obtain ⟨a₀, w₀, h₀⟩ := he; exact ⟨a₀, w₀, h₀⟩))
      | halt x w' => cases x <;> simp only [Oper.upon] at h ⊢ <;> exact h
    · obtain ⟨h1, a₀, w₀, h2⟩ := h
      exact .inr ⟨h1, a₀, w₀, h2⟩
  · rename_i hw
    rw [if_neg hw] at h
    exact h

/-- The same walk, over the operations themselves. -/
def wpEagL (P : Program) (ops : Array Oper) (Q : Exit → Act → World → Prop) (S : World → Prop) : List (Oper × Bool) → Act → World → Prop
  | [], a, w => Q .normal a w
  | (o, true) :: l, a, w => ∃ v, YieldsIf P ops S o v a ∧ wpEagL P ops Q S l (a.put o.dst v) w
  | (o, false) :: l, a, w => wpList P ops (Exit.then (fun a' w' => S w' ∧ wpEagL P ops Q S l a' w') Q) [o] a w

theorem wpList_one_mono {K K' : Act → World → Prop} {a : Act} {w : World} {o : Oper} (hk : ∀ a w, K a w → K' a w)
    (h : wpList P ops (Exit.then K Q) [o] a w) : wpList P ops (Exit.then K' Q) [o] a w := by
  unfold wpList at *
  split
  · rename_i hw
    rw [if_pos hw] at h
    rcases h with h | h
    · refine .inl ?_
      unfold Oper.wp at *
      generalize (execOp a.eval o).run P w = r at *
      cases r with
      | ok n w' =>
        cases n <;> simp only [Oper.upon] at h ⊢ <;>
          first
            | exact hk _ _ h
            | exact h
            | exact Calls.mono h (fun e w'' he => by cases e <;> first | exact hk _ _ he | exact he | (obtain ⟨a₀, w₀, h₀⟩ := he; exact ⟨a₀, w₀, h₀⟩))
            | exact Rows.mono h (fun _ _ he => hk _ _ he)
      | halt x w' => cases x <;> simp only [Oper.upon] at h ⊢ <;> exact h
    · obtain ⟨h1, a₀, w₀, h2⟩ := h
      exact .inr ⟨h1, a₀, w₀, h2⟩
  · rename_i hw
    rw [if_neg hw] at h
    exact hk _ _ h

theorem wpEag_of_L : ∀ (ord : List (Nat × Bool)) (a : Act) (w : World), (ord.all fun p => decide (p.1 < ops.size)) = true →
    wpEagL P ops Q S (ord.map fun p => (ops.toList.getD p.1 default, p.2)) a w → wpEag P ops Q S ord a w
  | [], _, _, _, h => h
  | (i, true) :: l, a, w, hi, h => by
    simp only [List.all_cons, Bool.and_eq_true, decide_eq_true_eq] at hi
    obtain ⟨v, hy, hr⟩ := h
    have ho : ops[i]? = some (ops.toList.getD i default) := by
      simp [List.getD_eq_getElem?_getD, hi.1]
    exact ⟨_, v, ho, hy, wpEag_of_L l _ _ hi.2 hr⟩
  | (i, false) :: l, a, w, hi, h => by
    simp only [List.all_cons, Bool.and_eq_true, decide_eq_true_eq] at hi
    have ho : ops[i]? = some (ops.toList.getD i default) := by
      simp [List.getD_eq_getElem?_getD, hi.1]
    exact wpOp_of_list ho (wpList_one_mono (fun a' w' h' => ⟨h'.1, wpEag_of_L l a' w' hi.2 h'.2⟩) h)

/-- The whole region. -/
theorem wp_region_eag {id : Nat} {a : Act} {w : World} {l : List Oper} (S : World → Prop) (ord : List (Nat × Bool)) (hm : P.follows .mixedOrders = true)
    (hB : (Region.noSelect l.toArray && (decide (ord.length = l.length) && ((ord.all fun p => decide (p.1 < l.length)) && eagB .any l.toArray ord (Array.replicate l.length false)))) = true)
    (hQ : ∀ c d v a w, Q (.panic c) (Act.put a d v) w → Q (.panic c) a w) (hS : S w.drew)
    (h : wpEagL P l.toArray Q S (ord.map fun p => (l.getD p.1 default, p.2)) a w.drew) : (Code.region id l.toArray true).wp P Q a w := by
  simp only [Bool.and_eq_true, decide_eq_true_eq] at hB
  obtain ⟨hs, hl, hi, hB⟩ := hB
  refine wp_region_held (S := S) hm ?_
  have := wpAnyH_of_eag (md := .any) hs hQ ord _ a w.drew hB hS (wpEag_of_L ord a w.drew (by simpa using hi) (by simpa using h))
  rw [hl] at this
  simpa using this

theorem eag_nil {a : Act} {w : World} (h : Q .normal a w) : wpEagL P ops Q S [] a w := h

section
variable {l : List (Oper × Bool)} {a : Act} {w : World} {d : Option Tmp} {op : Op} {t : TypeId} {p : String} {af : Array Edge} {v : Value}
/-- An operation that yields v in every world of the class. -/
theorem eag_soft (hy : ∀ w', S w' → (execOp a.eval ⟨d, op, t, p, af, none⟩).run P w' = .ok (.value v) w') (h : wpEagL P ops Q S l (a.put d v) w) :
    wpEagL P ops Q S ((⟨d, op, t, p, af, none⟩, true) :: l) a w :=
  ⟨v, .inl ⟨by simp [Region.wanted], hy⟩, h⟩
theorem eag_move {x : Operand} (h : wpEagL P ops Q S l (a.put d (a.eval x)) w) : wpEagL P ops Q S ((⟨d, .move x, t, p, af, none⟩, true) :: l) a w :=
  eag_soft (fun w' _ => BigFrame.run_move x rfl w') h
theorem eag_assign {x : Operand} (h : wpEagL P ops Q S l (a.put d (a.eval x)) w) : wpEagL P ops Q S ((⟨d, .assign x, t, p, af, none⟩, true) :: l) a w :=
  eag_soft (fun w' _ => BigFrame.run_assign x rfl w') h
/-- A guarded operation that is wanted. -/
theorem eag_soft_g {g : Nat × Bool} (hg : Region.wanted ⟨d, op, t, p, af, some g⟩ (yielded ops a.tmps) = true)
    (hy : ∀ w', S w' → (execOp a.eval ⟨d, op, t, p, af, some g⟩).run P w' = .ok (.value v) w') (h : wpEagL P ops Q S l (a.put d v) w) :
    wpEagL P ops Q S ((⟨d, op, t, p, af, some g⟩, true) :: l) a w :=
  ⟨v, .inl ⟨hg, hy⟩, h⟩
/-- A guarded operation that is passed over. -/
theorem eag_skip {g : Nat × Bool} (hg : Region.wanted ⟨d, op, t, p, af, some g⟩ (yielded ops a.tmps) = false)
    (h : wpEagL P ops Q S l (a.put d undef) w) : wpEagL P ops Q S ((⟨d, op, t, p, af, some g⟩, true) :: l) a w :=
  ⟨undef, .inr ⟨hg, rfl⟩, h⟩
/-- An operation that is carried out: as a list of one. -/
theorem eag_hard {o : Oper} (h : wpList P ops (Exit.then (fun a' w' => S w' ∧ wpEagL P ops Q S l a' w') Q) [o] a w) : wpEagL P ops Q S ((o, false) :: l) a w := h
end

/-! ### One operation (number f) may come up anywhere among the others: items (i, 0): soft; (i, 1): hard, alone; (i, 2): hard, and f may come up in its place -/
def flStrip (f : Nat) : List (Nat × Nat) → List (Nat × Bool)
  | [] => []
  | (i, 0) :: l => (i, true) :: flStrip f l
  | (i, _ + 1) :: l => if i = f then flStrip f l else (i, false) :: flStrip f l

def wpFl (P : Program) (ops : Array Oper) (Q : Exit → Act → World → Prop) (S : World → Prop) (f : Nat) : List (Nat × Nat) → Act → World → Prop
  | [], a, w => Q .normal a w
  | (i, 0) :: l, a, w => ∃ o v, ops[i]? = some o ∧ YieldsIf P ops S o v a ∧ wpFl P ops Q S f l (a.put o.dst v) w
  | (i, 1) :: l, a, w => wpOp P ops Q i (fun a' w' => S w' ∧ wpFl P ops Q S f l a' w') a w
  | (i, _ + 2) :: l, a, w => wpOp P ops Q i (fun a' w' => S w' ∧ wpFl P ops Q S f l a' w') a w ∧
      wpOp P ops Q f (fun a' w' => S w' ∧ wpEag P ops Q S ((i, false) :: flStrip f l) a' w') a w

def flB (md : Region.Mode) (ops : Array Oper) (f : Nat) : List (Nat × Nat) → Array Bool → Bool
  | [], listed => (Region.ready md ops listed).isEmpty
  | (i, 0) :: l, listed => (Region.ready md ops listed).contains i && (Region.free md ops listed i && flB md ops f l (listed.setIfInBounds i true))
  | (i, 1) :: l, listed => decide (Region.ready md ops listed = [i]) && flB md ops f l (listed.setIfInBounds i true)
  | (i, _ + 2) :: l, listed => (decide (Region.ready md ops listed = [i, f]) || decide (Region.ready md ops listed = [f, i])) &&
      (flB md ops f l (listed.setIfInBounds i true) && (eagB md ops ((i, false) :: flStrip f l) (listed.setIfInBounds f true) && decide ((flStrip f l).length + 1 = l.length)))

theorem wpAnyH_of_fl (hs : Region.noSelect ops = true) (hQ : ∀ c d v a w, Q (.panic c) (Act.put a d v) w → Q (.panic c) a w) (f : Nat) :
    ∀ (l : List (Nat × Nat)) (listed : Array Bool) (a : Act) (w : World), flB md ops f l listed = true → S w → wpFl P ops Q S f l a w →
      wpAnyH P md ops Q S l.length listed a w
  | [], listed, a, w, hB, _, h => ⟨by simpa [flB] using hB, h⟩
  | (i, 0) :: l, listed, a, w, hB, hS, h => by
    simp only [flB, Bool.and_eq_true] at hB
    obtain ⟨hr, hf, hB'⟩ := hB
    obtain ⟨o, v, ho, hy, hrest⟩ := h
    exact wpAnyH_take ho hs hf hr (fun c a w => hQ c _ _ a w) hy hS (wpAnyH_of_fl hs hQ f l _ _ _ hB' hS hrest)
  | (i, 1) :: l, listed, a, w, hB, hS, h => by
    simp only [flB, Bool.and_eq_true, decide_eq_true_eq] at hB
    obtain ⟨hr', hB'⟩ := hB
    refine wpAnyH_all hr' (by simp) (fun j hj => ?_)
    have hji : j = i := by simpa using hj
    subst hji
    exact wpOp_mono (fun a' w' h' => ⟨h'.1, wpAnyH_of_fl hs hQ f l _ _ _ hB' h'.1 h'.2⟩) h
  | (i, n + 2) :: l, listed, a, w, hB, hS, h => by
    simp only [flB, Bool.and_eq_true, Bool.or_eq_true, decide_eq_true_eq] at hB
    obtain ⟨hr', hB', hE, hl⟩ := hB
    obtain ⟨h1, h2⟩ := h
    have hne : Region.ready md ops listed ≠ [] := by rcases hr' with h | h <;> rw [h] <;> simp
    refine wpAnyH_all rfl hne (fun j hj => ?_)
    have hji : j = i ∨ j = f := by
      rcases hr' with h | h <;> rw [h] at hj <;> simp at hj <;> omega
    by_cases hi : j = i
    · subst hi
      exact wpOp_mono (fun a' w' h' => ⟨h'.1, wpAnyH_of_fl hs hQ f l _ _ _ hB' h'.1 h'.2⟩) h1
    · have hf : j = f := by omega
      subst hf
      refine wpOp_mono (fun a' w' h' => ⟨h'.1, ?_⟩) h2
      have := wpAnyH_of_eag hs hQ _ _ _ _ hE h'.1 h'.2
      rw [List.length_cons, hl] at this
      exact this

def flStripL : List (Oper × Nat) → List (Oper × Bool)
  | [] => []
  | (o, 0) :: l => (o, true) :: flStripL l
  | (_, 3) :: l => flStripL l
  | (o, _ + 1) :: l => (o, false) :: flStripL l

/-- The same over the operations themselves: (o, 3) is the one that floats, where it must come. -/
def wpFlL (P : Program) (ops : Array Oper) (Q : Exit → Act → World → Prop) (S : World → Prop) (u : Oper) : List (Oper × Nat) → Act → World → Prop
  | [], a, w => Q .normal a w
  | (o, 0) :: l, a, w => ∃ v, YieldsIf P ops S o v a ∧ wpFlL P ops Q S u l (a.put o.dst v) w
  | (o, 2) :: l, a, w => wpList P ops (Exit.then (fun a' w' => S w' ∧ wpFlL P ops Q S u l a' w') Q) [o] a w ∧
      wpList P ops (Exit.then (fun a' w' => S w' ∧ wpEagL P ops Q S ((o, false) :: flStripL l) a' w') Q) [u] a w
  | (o, _ + 1) :: l, a, w => wpList P ops (Exit.then (fun a' w' => S w' ∧ wpFlL P ops Q S u l a' w') Q) [o] a w

def flMark (f : Nat) (l : List Oper) (p : Nat × Nat) : Oper × Nat := (l.getD p.1 default, if p.1 = f then 3 else p.2)

theorem flStripL_mark (f : Nat) (l : List Oper) : ∀ (ord : List (Nat × Nat)), (ord.all fun p => decide (p.2 ≤ 2) && (p.2 != 0 || p.1 != f)) = true →
    flStripL (ord.map (flMark f l)) = (flStrip f ord).map fun p => (l.getD p.1 default, p.2)
  | [], _ => rfl
  | (i, k) :: r, h => by
    simp only [List.all_cons, Bool.and_eq_true, decide_eq_true_eq, Bool.or_eq_true, bne_iff_ne, ne_eq] at h
    obtain ⟨⟨h1, h2⟩, h3⟩ := h
    have ih := flStripL_mark f l r (by simpa using h3)
    by_cases hf : i = f
    · have hk : k = 1 ∨ k = 2 := by omega
      rcases hk with rfl | rfl <;> simp [flMark, flStripL, flStrip, hf, ih]
    · have hk : k = 0 ∨ k = 1 ∨ k = 2 := by omega
      rcases hk with rfl | rfl | rfl <;> simp [flMark, flStripL, flStrip, hf, ih]

theorem wpFl_of_L (f : Nat) : ∀ (ord : List (Nat × Nat)) (a : Act) (w : World), f < ops.size → (ord.all fun p => decide (p.1 < ops.size)) = true →
    (ord.all fun p => decide (p.2 ≤ 2) && (p.2 != 0 || p.1 != f)) = true → (ord.all fun p => p.2 != 2 || p.1 != f) = true →
    wpFlL P ops Q S (ops.toList.getD f default) (ord.map (flMark f ops.toList)) a w → wpFl P ops Q S f ord a w
  | [], _, _, _, _, _, _, h => h
  | (i, k) :: l, a, w, hf, hi, hk, hn, h => by
    have hi0 := hi
    have hk0 := hk
    simp only [List.all_cons, Bool.and_eq_true, decide_eq_true_eq, Bool.or_eq_true, bne_iff_ne, ne_eq] at hi hk hn
    have ho : ops[i]? = some (ops.toList.getD i default) := by
      simp [List.getD_eq_getElem?_getD, hi.1]
    have hu : ops[f]? = some (ops.toList.getD f default) := by
      simp [List.getD_eq_getElem?_getD, hf]
    have ih : ∀ a w, wpFlL P ops Q S (ops.toList.getD f default) (l.map (flMark f ops.toList)) a w → wpFl P ops Q S f l a w :=
      fun a w h => wpFl_of_L f l a w hf (by simpa using hi.2) (by simpa using hk.2) (by simpa using hn.2) h
    obtain ⟨⟨hk1, hk2⟩, hkr⟩ := hk
    have hk3 : k = 0 ∨ k = 1 ∨ k = 2 := by omega
    rcases hk3 with rfl | rfl | rfl
    · have hne : i ≠ f := by omega
      simp only [List.map_cons, flMark, if_neg hne] at h
      obtain ⟨v, hy, hr⟩ := h
      exact ⟨_, v, ho, hy, ih _ _ hr⟩
    · by_cases hif : i = f
      · simp only [List.map_cons, flMark, if_pos hif] at h
        exact wpOp_of_list ho (wpList_one_mono (fun a' w' h' => ⟨h'.1, ih a' w' h'.2⟩) h)
      · simp only [List.map_cons, flMark, if_neg hif] at h
        exact wpOp_of_list ho (wpList_one_mono (fun a' w' h' => ⟨h'.1, ih a' w' h'.2⟩) h)
    · have hne : i ≠ f := by have := hn.1; omega
      simp only [List.map_cons, flMark, if_neg hne] at h
      obtain ⟨h1, h2⟩ := h
      refine ⟨wpOp_of_list ho (wpList_one_mono (fun a' w' h' => ⟨h'.1, ih a' w' h'.2⟩) h1), wpOp_of_list hu (wpList_one_mono (fun a' w' h' => ⟨h'.1, ?_⟩) h2)⟩
      have hs := flStripL_mark f ops.toList l (by simpa using hkr)
      have h3 := h'.2
      rw [hs] at h3
      refine wpEag_of_L ((i, false) :: flStrip f l) a' w' ?_ h3
      have hall : ∀ (l : List (Nat × Nat)), (l.all fun p => decide (p.1 < ops.size)) = true → ((flStrip f l).all fun p => decide (p.1 < ops.size)) = true := by
        intro l
        induction l with
        | nil => intro _; rfl
        | cons x r ih' =>
          obtain ⟨x1, x2⟩ := x
          intro h
          simp only [List.all_cons, Bool.and_eq_true, decide_eq_true_eq] at h
          cases x2 with
          | zero => simp only [flStrip, List.all_cons, Bool.and_eq_true, decide_eq_true_eq]; exact ⟨h.1, ih' h.2⟩
          | succ x2 =>
            simp only [flStrip]
            split
            · exact ih' h.2
            · simp only [List.all_cons, Bool.and_eq_true, decide_eq_true_eq]; exact ⟨h.1, ih' h.2⟩
      simp only [List.all_cons, Bool.and_eq_true, decide_eq_true_eq]
      exact ⟨hi.1, hall l (by simpa using hi.2)⟩

theorem wp_region_fl {id : Nat} {a : Act} {w : World} {l : List Oper} (S : World → Prop) (f : Nat) (ord : List (Nat × Nat)) (hm : P.follows .mixedOrders = true)
    (hB : (Region.noSelect l.toArray && (decide (ord.length = l.length) && (decide (f < l.length) && ((ord.all fun p => decide (p.1 < l.length)) && ((ord.all fun p => decide (p.2 ≤ 2) && (p.2 != 0 || p.1 != f)) &&
      ((ord.all fun p => p.2 != 2 || p.1 != f) && flB .any l.toArray f ord (Array.replicate l.length false))))))) = true)
    (hQ : ∀ c d v a w, Q (.panic c) (Act.put a d v) w → Q (.panic c) a w) (hS : S w.drew)
    (h : wpFlL P l.toArray Q S (l.getD f default) (ord.map (flMark f l)) a w.drew) : (Code.region id l.toArray true).wp P Q a w := by
  simp only [Bool.and_eq_true, decide_eq_true_eq] at hB
  obtain ⟨hs, hl, hf, hi, hk, hn, hB⟩ := hB
  refine wp_region_held (S := S) hm ?_
  have := wpAnyH_of_fl (md := .any) hs hQ f ord _ a w.drew hB hS (wpFl_of_L f ord a w.drew (by simpa using hf) (by simpa using hi) hk hn (by simpa using h))
  rw [hl] at this
  simpa using this

section
variable {u : Oper} {l : List (Oper × Nat)} {a : Act} {w : World} {d : Option Tmp} {op : Op} {t : TypeId} {p : String} {af : Array Edge} {v : Value}
theorem fl_nil (h : Q .normal a w) : wpFlL P ops Q S u [] a w := h
theorem fl_soft (hy : ∀ w', S w' → (execOp a.eval ⟨d, op, t, p, af, none⟩).run P w' = .ok (.value v) w') (h : wpFlL P ops Q S u l (a.put d v) w) :
    wpFlL P ops Q S u ((⟨d, op, t, p, af, none⟩, 0) :: l) a w := ⟨v, .inl ⟨by simp [Region.wanted], hy⟩, h⟩
theorem fl_move {x : Operand} (h : wpFlL P ops Q S u l (a.put d (a.eval x)) w) : wpFlL P ops Q S u ((⟨d, .move x, t, p, af, none⟩, 0) :: l) a w :=
  fl_soft (fun w' _ => BigFrame.run_move x rfl w') h
theorem fl_assign {x : Operand} (h : wpFlL P ops Q S u l (a.put d (a.eval x)) w) : wpFlL P ops Q S u ((⟨d, .assign x, t, p, af, none⟩, 0) :: l) a w :=
  fl_soft (fun w' _ => BigFrame.run_assign x rfl w') h
theorem fl_hard {o : Oper} (h : wpList P ops (Exit.then (fun a' w' => S w' ∧ wpFlL P ops Q S u l a' w') Q) [o] a w) : wpFlL P ops Q S u ((o, 1) :: l) a w := h
theorem fl_must {o : Oper} (h : wpList P ops (Exit.then (fun a' w' => S w' ∧ wpFlL P ops Q S u l a' w') Q) [o] a w) : wpFlL P ops Q S u ((o, 3) :: l) a w := h
theorem fl_both {o : Oper} (h : wpList P ops (Exit.then (fun a' w' => S w' ∧ wpFlL P ops Q S u l a' w') Q) [o] a w)
    (h' : wpList P ops (Exit.then (fun a' w' => S w' ∧ wpEagL P ops Q S ((o, false) :: flStripL l) a' w') Q) [u] a w) : wpFlL P ops Q S u ((o, 2) :: l) a w := ⟨h, h'⟩
end
end

theorem qs {α : Type} : (∀ (xs : List α) (i : Nat) (a : α), xs.toArray.setIfInBounds i a = (xs.set i a).toArray) ∧ (∀ (x : α) (xs : List α) (a : α), (x :: xs).set 0 a = a :: xs) ∧ (∀ (x : α) (xs : List α) (a : α) (n : Nat), (x :: xs).set (n + 1) a = x :: xs.set n a) ∧ (∀ (xs : Array α) (i : Nat) (d : α), xs.getD i d = xs[i]?.getD d) ∧ (∀ (xs : List α) (i : Nat), xs.toArray[i]? = xs[i]?) ∧ (∀ (x : α) (xs : List α), (x :: xs)[0]? = some x) ∧ (∀ (x : α) (xs : List α) (n : Nat), (x :: xs)[n + 1]? = xs[n]?) ∧ (∀ (x y : α), (some x).getD y = x) :=
  ⟨fun _ _ _ => List.setIfInBounds_toArray .., fun _ _ _ => rfl, fun _ _ _ _ => rfl, fun _ _ _ => Array.getD_eq_getD_getElem? .., fun _ _ => List.getElem?_toArray .., fun _ _ => rfl, fun _ _ _ => rfl, fun _ _ => rfl⟩
theorem qm {α : Type} : (∀ {β : Type} (f : α → β) (xs : List α), xs.toArray.map f = (xs.map f).toArray) ∧ (∀ {β : Type} (f : α → β) (x : α) (xs : List α), (x :: xs).map f = f x :: xs.map f) ∧ (∀ {β : Type} (f : α → β), ([] : List α).map f = []) :=
  ⟨fun _ _ => List.map_toArray .., fun _ _ _ => rfl, fun _ => rfl⟩
end Go.Proofs.Ytpbbbfglecbceaa
/-  -/
namespace Go.Proofs.Ytpbbbfglecbceaa
set_option linter.all false
open Go.RowKit

/-- enclose.size -/
theorem size_any (n : Int) (h1 : -9223372036854775807 ≤ n) (h2 : n ≤ 9223372036854775807) (w : World) :
    Calls Try.prog 136 #[.int .i64 n] w fun e w' => e = .returned (.int .u64 (if n < 0 then -n else n)) ∧ w = w' := by
  go_enter Try.func136, Try.ntmps136
  go_wp2
  · go_ret
    have : IntKind.u64.wrap (-IntKind.u64.wrap n) = -n := by rw [IntKind.wrap_u64, IntKind.wrap_u64]; omega
    simp [this]
  · go_ret
    simp

namespace Mul64
theorem maskN (a : Nat) (ha : a < 18446744073709551616) : bits .and .u64 (a : Int) 4294967295 = ((a % 4294967296 : Nat) : Int) := by
  have h := bits_and_u64_nat a 4294967295 ha (by omega)
  have e : a &&& 4294967295 = a % 4294967296 := Nat.and_two_pow_sub_one_eq_mod a 32
  rw [e] at h
  exact h
theorem divN (a : Nat) : (a : Int) / 4294967296 = ((a / 4294967296 : Nat) : Int) := by omega
theorem mulN (a b : Nat) : (a : Int) * (b : Int) = ((a * b : Nat) : Int) := (Int.natCast_mul a b).symm
theorem addN (a b : Nat) : (a : Int) + (b : Int) = ((a + b : Nat) : Int) := (Int.natCast_add a b).symm
theorem wrapN (a : Nat) (ha : a < 18446744073709551616) : IntKind.u64.wrap (a : Int) = (a : Int) := by rw [IntKind.wrap_u64]; omega
theorem wrapM (a : Nat) : IntKind.u64.wrap (a : Int) = ((a % 18446744073709551616 : Nat) : Int) := by rw [IntKind.wrap_u64]; omega
end Mul64

set_option maxHeartbeats 1000000 in
theorem mul64_nat (x y : Nat) (hx : x < 18446744073709551616) (hy : y < 18446744073709551616) (w : World) :
    Calls Try.prog 126 #[.int .u64 x, .int .u64 y] w fun e w' => e = .returned (.tuple #[.int .u64 ((x * y / 18446744073709551616 : Nat) : Int), .int .u64 ((x * y % 18446744073709551616 : Nat) : Int)]) ∧ w = w' := by
  obtain ⟨bd, bt, bw, hhi⟩ := Lib.mul64_hi x y hx hy
  have ba := Lib.half_mul_le (a := x / 4294967296) (b := y / 4294967296) (by omega) (by omega)
  have bb := Lib.half_mul_le (a := x / 4294967296) (b := y % 4294967296) (by omega) (by omega)
  have bc := Lib.half_mul_le (a := x % 4294967296) (b := y / 4294967296) (by omega) (by omega)
  have ba' : x / 4294967296 * (y / 4294967296) < 18446744073709551616 := by omega
  have bb' : x / 4294967296 * (y % 4294967296) < 18446744073709551616 := by omega
  have bc' : x % 4294967296 * (y / 4294967296) < 18446744073709551616 := by omega
  have bh1 : x / 4294967296 * (y / 4294967296) + (x / 4294967296 * (y % 4294967296) + x % 4294967296 * (y % 4294967296) / 4294967296) / 4294967296 < 18446744073709551616 := by omega
  have bh : x / 4294967296 * (y / 4294967296) + (x / 4294967296 * (y % 4294967296) + x % 4294967296 * (y % 4294967296) / 4294967296) / 4294967296 + ((x / 4294967296 * (y % 4294967296) + x % 4294967296 * (y % 4294967296) / 4294967296) % 4294967296 + x % 4294967296 * (y / 4294967296)) / 4294967296 < 18446744073709551616 := by omega
  go_enter Try.func126, Try.ntmps126
  go_wp2
  simp only [Mul64.maskN x hx, Mul64.maskN y hy, Mul64.divN, Mul64.mulN, Mul64.addN, Mul64.wrapN _ bd, Mul64.wrapN _ bb', Mul64.wrapN _ bt, Mul64.maskN _ bt, Mul64.wrapN _ bc', Mul64.wrapN _ bw, Mul64.wrapN _ ba', Mul64.wrapN _ bh1, Mul64.wrapN _ bh, Mul64.wrapM (x * y)]
  rw [hhi]
  go_ret2
  exact ⟨rfl, rfl⟩

/-- math/bits.Mul64 over Int. -/
theorem mul64_any (x y : Int) (hx0 : 0 ≤ x) (hx : x ≤ 18446744073709551615) (hy0 : 0 ≤ y) (hy : y ≤ 18446744073709551615) (w : World) :
    Calls Try.prog 126 #[.int .u64 x, .int .u64 y] w fun e w' => e = .returned (.tuple #[.int .u64 (x * y / 18446744073709551616), .int .u64 (x * y % 18446744073709551616)]) ∧ w = w' := by
  obtain ⟨a, rfl⟩ := Int.eq_ofNat_of_zero_le hx0
  obtain ⟨b, rfl⟩ := Int.eq_ofNat_of_zero_le hy0
  refine (mul64_nat a b (by omega) (by omega) w).mono fun e w' ⟨he, hw⟩ => ⟨?_, hw⟩
  rw [he]
  simp

set_option maxRecDepth 100000 in
theorem len8tab_size : (Lib.len8tab.size : Int) = 256 := by
  have : Lib.len8tab.size = 256 := by decide
  omega
/-- THE LAST STEP OF EACH OF THE EIGHT WAYS, PROVED ONCE, OUTSIDE: 'omega' on it INSIDE the way's context (a chain of divisions by great numbers) took 25 s a way and gigabytes. -/
theorem wrap_add (k a b : Nat) (hk : k ≤ 56) (ha : a ≤ 8) (hb : b = k + a) : RowKit.wrap64 ((k : Int) + RowKit.wrap64 (a : Int)) = (b : Int) := by
  unfold RowKit.wrap64
  omega
theorem wrap_wrap (a : Nat) (ha : a ≤ 8) : RowKit.wrap64 (RowKit.wrap64 (a : Int)) = (a : Int) := by
  unfold RowKit.wrap64
  omega
theorem wrap_one (a : Nat) (ha : a ≤ 8) : RowKit.wrap64 (a : Int) = (a : Int) := by
  unfold RowKit.wrap64
  omega
/-- The table's byte, as an index's plain meaning reads it, IS the shelf's 'Lib.len8'. -/
theorem len8_get (y : Int) (h : y.toNat < Lib.len8tab.size) : ((Lib.len8tab[y.toNat]'h).toNat : Int) = Lib.len8 y := by
  unfold Lib.len8
  rw [getElem?_pos Lib.len8tab y.toNat h]
  rfl

set_option maxHeartbeats 4000000 in
set_option maxRecDepth 100000 in
/-- math/bits.Len64. -/
theorem len64_any (x : Int) (h0 : 0 ≤ x) (h1 : x ≤ 18446744073709551615) (w : World) :
    Calls Try.prog 154 #[.int .u64 x] w fun e w' => e = .returned (.int .i64 (Lib.bitLen x.toNat)) ∧ w = w' := by
  go_enter Try.func154, Try.ntmps154
  go_wp2
  all_goals first
    | (go_ret; refine ⟨congrArg Ending.returned (congrArg (Value.int IntKind.i64) ?_), rfl⟩; go_light)
    | (exfalso
       go_light
       have hs := len8tab_size
       omega)
  all_goals first
    | (rw [len8_get (x / 4294967296 / 65536 / 256) _, Lib.len8_of (x / 4294967296 / 65536 / 256) (by omega) (by omega)]
       have e : (x / 4294967296 / 65536 / 256).toNat = x.toNat / 72057594037927936 := by omega
       have l := Lib.bitLen_le8' (x / 4294967296 / 65536 / 256) (by omega) (by omega)
       have s := Lib.bitLen_shift56 x.toNat (by omega) (by omega)
       rw [e] at l ⊢
       exact wrap_add 56 _ _ (by decide) l s)
    | (rw [len8_get (x / 4294967296 / 65536) _, Lib.len8_of (x / 4294967296 / 65536) (by omega) (by omega)]
       have e : (x / 4294967296 / 65536).toNat = x.toNat / 281474976710656 := by omega
       have l := Lib.bitLen_le8' (x / 4294967296 / 65536) (by omega) (by omega)
       have s := Lib.bitLen_shift48 x.toNat (by omega) (by omega)
       rw [e] at l ⊢
       exact wrap_add 48 _ _ (by decide) l s)
    | (rw [len8_get (x / 4294967296 / 256) _, Lib.len8_of (x / 4294967296 / 256) (by omega) (by omega)]
       have e : (x / 4294967296 / 256).toNat = x.toNat / 1099511627776 := by omega
       have l := Lib.bitLen_le8' (x / 4294967296 / 256) (by omega) (by omega)
       have s := Lib.bitLen_shift40 x.toNat (by omega) (by omega)
       rw [e] at l ⊢
       exact wrap_add 40 _ _ (by decide) l s)
    | (rw [len8_get (x / 4294967296) _, Lib.len8_of (x / 4294967296) (by omega) (by omega)]
       have e : (x / 4294967296).toNat = x.toNat / 4294967296 := by omega
       have l := Lib.bitLen_le8' (x / 4294967296) (by omega) (by omega)
       have s := Lib.bitLen_shift32 x.toNat (by omega) (by omega)
       rw [e] at l ⊢
       exact wrap_add 32 _ _ (by decide) l s)
    | (rw [len8_get (x / 65536 / 256) _, Lib.len8_of (x / 65536 / 256) (by omega) (by omega)]
       have e : (x / 65536 / 256).toNat = x.toNat / 16777216 := by omega
       have l := Lib.bitLen_le8' (x / 65536 / 256) (by omega) (by omega)
       have s := Lib.bitLen_shift24 x.toNat (by omega) (by omega)
       rw [e] at l ⊢
       exact wrap_add 24 _ _ (by decide) l s)
    | (rw [len8_get (x / 65536) _, Lib.len8_of (x / 65536) (by omega) (by omega)]
       have e : (x / 65536).toNat = x.toNat / 65536 := by omega
       have l := Lib.bitLen_le8' (x / 65536) (by omega) (by omega)
       have s := Lib.bitLen_shift16 x.toNat (by omega) (by omega)
       rw [e] at l ⊢
       exact wrap_add 16 _ _ (by decide) l s)
    | (rw [len8_get (x / 256) _, Lib.len8_of (x / 256) (by omega) (by omega)]
       have e : (x / 256).toNat = x.toNat / 256 := by omega
       have l := Lib.bitLen_le8' (x / 256) (by omega) (by omega)
       have s := Lib.bitLen_shift8 x.toNat (by omega) (by omega)
       rw [e] at l ⊢
       exact wrap_add 8 _ _ (by decide) l s)
    | (rw [len8_get (x) _, Lib.len8_of (x) (by omega) (by omega)]
       have e : (x).toNat = x.toNat := by omega
       have l := Lib.bitLen_le8' (x) (by omega) (by omega)
       rw [e] at l ⊢
       first | exact wrap_wrap _ l | exact wrap_add 0 _ _ (by decide) l (by omega) | exact wrap_one _ l)


theorem bitLen_le64 (x : Int) (h0 : 0 ≤ x) (h1 : x ≤ 18446744073709551615) : Lib.bitLen x.toNat ≤ 64 := Lib.bitLen_le _ 64 (Nat.le_refl _) (by omega)

/-- math/bits.LeadingZeros64. -/
theorem lz64_any (x : Int) (h0 : 0 ≤ x) (h1 : x ≤ 18446744073709551615) (w : World) :
    Calls Try.prog 152 #[.int .u64 x] w fun e w' => e = .returned (.int .i64 (64 - (Lib.bitLen x.toNat : Int))) ∧ w = w' := by
  have l := bitLen_le64 x h0 h1
  go_enter Try.func152, Try.ntmps152
  go_wp2_with (go_at_call 154; refine (len64_any x h0 h1 _).mono ?_; rintro e w' ⟨rfl, rfl⟩)
  go_ret
  exact ⟨rfl, rfl⟩
end Go.Proofs.Ytpbbbfglecbceaa
/- The arithmetic of a division of two words by one (no program in sight). -/
namespace Go.Proofs.Ytpbbbfglecbceaa.DivPl
set_option linter.all false

theorem norm (y : Int) (h1 : 0 < y) (h2 : y ≤ 18446744073709551615) (s : Int) (hs : s = 64 - (Lib.bitLen y.toNat : Int)) :
    0 ≤ s ∧ s ≤ 63 ∧ 9223372036854775808 ≤ y * 2 ^ s.toNat ∧ y * 2 ^ s.toNat ≤ 18446744073709551615 := by
  obtain ⟨n, rfl⟩ := Int.eq_ofNat_of_zero_le (Int.le_of_lt h1)
  have hn : n < 2 ^ 64 := by omega
  obtain ⟨a, b, c⟩ := Lib.bitLenAux_bounds 64 n hn (by omega)
  have hL : Lib.bitLen n ≤ 64 := Lib.bitLen_le n 64 (Nat.le_refl _) hn
  have hb : Lib.bitLenAux 64 n = Lib.bitLen n := rfl
  rw [hb] at a b c
  rw [Int.toNat_natCast] at hs
  generalize Lib.bitLen n = k at *
  have hst : s.toNat = 64 - k := by omega
  rw [hst]
  have e1 : (2 : Nat) ^ (k - 1) * 2 ^ (64 - k) = 2 ^ 63 := by rw [← Nat.pow_add]; congr 1; omega
  have e2 : (2 : Nat) ^ k * 2 ^ (64 - k) = 2 ^ 64 := by rw [← Nat.pow_add]; congr 1; omega
  have m1 : 2 ^ (k - 1) * 2 ^ (64 - k) ≤ n * 2 ^ (64 - k) := Nat.mul_le_mul_right _ b
  have m2 : n * 2 ^ (64 - k) < 2 ^ k * 2 ^ (64 - k) := Nat.mul_lt_mul_of_pos_right c (Nat.two_pow_pos _)
  rw [e1] at m1
  rw [e2] at m2
  have e3 : (n : Int) * 2 ^ (64 - k) = ((n * 2 ^ (64 - k) : Nat) : Int) := by simp
  rw [e3]
  exact ⟨by omega, by omega, by omega, by omega⟩

/-- The numbers that are divided, moved up by s bits. -/
theorem moved (hi lo y s : Int) (hy : hi < y) (h0 : 0 ≤ hi) (l0 : 0 ≤ lo) (l1 : lo ≤ 18446744073709551615) (s0 : 0 ≤ s) (s1 : s ≤ 63) (p q U L : Int) (hp' : p = 2 ^ s.toNat) (hq' : q = 2 ^ (64 - s).toNat)
    (hYp : y * p ≤ 18446744073709551615) (hU : U = hi * p + lo / q) (hL0 : L = lo * p % 18446744073709551616) :
    0 < p ∧ bits .or .u64 (IntKind.u64.wrap (hi * p)) (lo / q) = U ∧ IntKind.u64.wrap (lo * p) = L ∧ U * 18446744073709551616 + L = (hi * 18446744073709551616 + lo) * p ∧
      0 ≤ U ∧ U < y * p ∧ 0 ≤ L ∧ L ≤ 18446744073709551615 := by
  have hp : 0 < p := by rw [hp']; exact Int.pow_pos (by omega)
  have hq : 0 < q := by rw [hq']; exact Int.pow_pos (by omega)
  have hpq : p * q = 18446744073709551616 := by
    rw [hp', hq', ← Int.pow_add, show s.toNat + (64 - s).toNat = 64 by omega]
    rfl
  have hhp : hi * p + p ≤ y * p := by
    have : (hi + 1) * p ≤ y * p := Int.mul_le_mul_of_nonneg_right (by omega) (by omega)
    rw [Int.add_mul, Int.one_mul] at this
    exact this
  have hhp0 : 0 ≤ hi * p := Int.mul_nonneg h0 (by omega)
  have hlq : lo / q < p := by
    rw [Int.ediv_lt_iff_lt_mul hq, hpq]; omega
  have hlq0 : 0 ≤ lo / q := Int.ediv_nonneg l0 (by omega)
  have hw : IntKind.u64.wrap (hi * p) = hi * p := by rw [IntKind.wrap_u64]; omega
  have hor : bits .or .u64 (hi * p) (lo / q) = hi * p + lo / q := by
    refine bits_join .u64 64 (by decide) (fun n h0 h1 => by rw [IntKind.wrap_u64]; omega) s.toNat _ _ hhp0 ?_ ?_ hlq0 (by rw [← hp']; exact hlq) ?_
    · rw [← hp']; exact Int.mul_emod_left _ _
    · have : (2 : Int) ^ 64 = 18446744073709551616 := by decide
      omega
    · have : (2 : Int) ^ 64 = 18446744073709551616 := by decide
      omega
  have hL : IntKind.u64.wrap (lo * p) = L := by rw [IntKind.wrap_u64, hL0]
  have hLd : lo * p = (lo / q) * 18446744073709551616 + L := by
    have hdiv : lo * p / 18446744073709551616 = lo / q := by
      rw [← hpq, Int.mul_comm p q]
      exact Int.mul_ediv_mul_of_pos_left _ _ hp
    have := Int.mul_ediv_add_emod (lo * p) 18446744073709551616
    rw [hdiv] at this
    omega
  refine ⟨hp, by rw [hw, hU]; exact hor, hL, ?_, by omega, by omega, by omega, by omega⟩
  rw [hU, Int.add_mul, Int.add_mul, Int.mul_right_comm hi p, hLd]
  omega

/-- One digit: the guess, and when it is right. U < Y, N = U * 2^32 + d. -/
theorem guess (U Y d q r : Int) (hq : q * (Y / 4294967296) + r = U) :
    q * Y - (U * 4294967296 + d) = q * (Y % 4294967296) - (4294967296 * r + d) := by
  have e : Y = Y / 4294967296 * 4294967296 + Y % 4294967296 := by omega
  have : q * Y = q * (Y / 4294967296) * 4294967296 + q * (Y % 4294967296) := by
    conv => lhs; rw [e]
    rw [Int.mul_add, Int.mul_assoc]
  rw [this, ← hq, Int.add_mul]
  omega

structure Dig (U Y d : Int) : Prop where
  U0 : 0 ≤ U
  UY : U < Y
  Y0 : 9223372036854775808 ≤ Y
  Y1 : Y ≤ 18446744073709551615
  d0 : 0 ≤ d
  d1 : d ≤ 4294967295

/-- What holds at the head of the loop. -/
structure Inv (U Y d q r : Int) : Prop where
  eq : q * (Y / 4294967296) + r = U
  ge : (U * 4294967296 + d) / Y ≤ q
  q1 : q ≤ 4294967297
  r0 : 0 ≤ r
  r1 : r ≤ 4294967295

theorem tlt {U Y d : Int} (h : Dig U Y d) : 0 ≤ (U * 4294967296 + d) / Y ∧ (U * 4294967296 + d) / Y ≤ 4294967295 := by
  have hY : 0 < Y := by have := h.Y0; omega
  have := h.U0; have := h.UY; have := h.d0; have := h.d1
  refine ⟨Int.ediv_nonneg (by omega) (by omega), ?_⟩
  have : (U * 4294967296 + d) / Y < 4294967296 := by
    rw [Int.ediv_lt_iff_lt_mul hY]
    have : U * 4294967296 + 4294967296 ≤ 4294967296 * Y := by omega
    omega
  omega

theorem start {U Y d : Int} (h : Dig U Y d) : Inv U Y d (U / (Y / 4294967296)) (U - U / (Y / 4294967296) * (Y / 4294967296)) := by
  obtain ⟨U0, UY, Y0, Y1, d0, d1⟩ := h
  generalize hY1 : Y / 4294967296 = a
  have ha : 2147483648 ≤ a ∧ a ≤ 4294967295 := by omega
  have hm := Int.mul_ediv_add_emod U a
  have hr0 := Int.emod_nonneg U (show a ≠ 0 by omega)
  have hr1 := Int.emod_lt_of_pos U (show 0 < a by omega)
  have hcomm : a * (U / a) = U / a * a := Int.mul_comm _ _
  refine ⟨by rw [hY1]; omega, ?_, ?_, by omega, by omega⟩
  · -- the guess is not less
    refine Int.le_of_lt_add_one ?_
    rw [Int.ediv_lt_iff_lt_mul (by omega)]
    have e : Y = a * 4294967296 + Y % 4294967296 := by omega
    have h1 : (U / a + 1) * Y = (U / a * a + a) * 4294967296 + (U / a + 1) * (Y % 4294967296) := by
      conv => lhs; rw [e]
      rw [Int.mul_add, ← Int.mul_assoc, Int.add_mul (U / a) 1 a]
      omega
    have h2 : 0 ≤ (U / a + 1) * (Y % 4294967296) := Int.mul_nonneg (by have := Int.ediv_nonneg U0 (show 0 ≤ a by omega); omega) (by omega)
    rw [h1]
    omega
  · -- at most two more than a digit
    have : U / a < 4294967298 := by
      rw [Int.ediv_lt_iff_lt_mul (by omega)]
      omega
    omega

/-- The test says no: the digit is right. -/
theorem right {U Y d q r : Int} (h : Dig U Y d) (hi : Inv U Y d q r) (ht : q * (Y % 4294967296) ≤ 4294967296 * r + d) : q = (U * 4294967296 + d) / Y := by
  have hg := guess U Y d q r hi.eq
  have h1 : q ≤ (U * 4294967296 + d) / Y := by
    rw [Int.le_ediv_iff_mul_le (by have := h.Y0; omega)]
    omega
  have := hi.ge
  omega

/-- The test says yes: one less is not too few. -/
theorem less {U Y d q r : Int} (h : Dig U Y d) (hi : Inv U Y d q r) (ht : 4294967296 ≤ q ∨ 4294967296 * r + d < q * (Y % 4294967296)) :
    (U * 4294967296 + d) / Y ≤ q - 1 ∧ (q - 1) * (Y / 4294967296) + (r + Y / 4294967296) = U ∧ 1 ≤ q := by
  have hg := guess U Y d q r hi.eq
  have ht' := tlt h
  have e : (q - 1) * (Y / 4294967296) = q * (Y / 4294967296) - Y / 4294967296 := by rw [Int.sub_mul, Int.one_mul]
  have heq := hi.eq
  have hlt : (U * 4294967296 + d) / Y < q := by
    rcases ht with ht | ht
    · omega
    · rw [Int.ediv_lt_iff_lt_mul (by have := h.Y0; omega)]
      omega
  exact ⟨by omega, by omega, by omega⟩

theorem again {U Y d q r : Int} (h : Dig U Y d) (hi : Inv U Y d q r) (ht : 4294967296 ≤ q ∨ 4294967296 * r + d < q * (Y % 4294967296)) (hr : r + Y / 4294967296 ≤ 4294967295) :
    Inv U Y d (q - 1) (r + Y / 4294967296) := by
  obtain ⟨h1, h2, h3⟩ := less h hi ht
  have := hi.q1; have := hi.r0; have := h.Y0
  exact ⟨h2, h1, by omega, by omega, hr⟩

theorem stop {U Y d q r : Int} (h : Dig U Y d) (hi : Inv U Y d q r) (ht : 4294967296 ≤ q ∨ 4294967296 * r + d < q * (Y % 4294967296)) (hr : 4294967296 ≤ r + Y / 4294967296) :
    q - 1 = (U * 4294967296 + d) / Y := by
  obtain ⟨h1, h2, h3⟩ := less h hi ht
  have hg := guess U Y d (q - 1) (r + Y / 4294967296) h2
  have hq := hi.q1
  have hm : (q - 1) * (Y % 4294967296) ≤ 4294967296 * 4294967295 := by
    have h5 : (q - 1) * (Y % 4294967296) ≤ 4294967296 * (Y % 4294967296) := Int.mul_le_mul_of_nonneg_right (by omega) (by omega)
    omega
  have hd := h.d0
  have h4 : q - 1 ≤ (U * 4294967296 + d) / Y := by
    rw [Int.le_ediv_iff_mul_le (by have := h.Y0; omega)]
    omega
  omega

/-- The numbers of the test do not wrap. -/
theorem test_in {U Y d q r : Int} (h : Dig U Y d) (hi : Inv U Y d q r) (hq : q < 4294967296) :
    0 ≤ q ∧ 0 ≤ q * (Y % 4294967296) ∧ q * (Y % 4294967296) ≤ 18446744073709551615 := by
  have h0 : 0 ≤ q := by have := hi.ge; have := tlt h; omega
  have h1 : q * (Y % 4294967296) ≤ 4294967295 * (Y % 4294967296) := Int.mul_le_mul_of_nonneg_right (by omega) (by omega)
  exact ⟨h0, Int.mul_nonneg h0 (by omega), by omega⟩

/-- What is left of a digit's division. -/
theorem left {U Y d T : Int} (h : Dig U Y d) (hT : T = (U * 4294967296 + d) / Y) :
    IntKind.u64.wrap (IntKind.u64.wrap (IntKind.u64.wrap (U * 4294967296) + d) - IntKind.u64.wrap (T * Y)) = (U * 4294967296 + d) % Y ∧
      0 ≤ (U * 4294967296 + d) % Y ∧ (U * 4294967296 + d) % Y < Y := by
  have hm := Int.mul_ediv_add_emod (U * 4294967296 + d) Y
  rw [Int.mul_comm Y, ← hT] at hm
  have hr0 := Int.emod_nonneg (U * 4294967296 + d) (show Y ≠ 0 by have := h.Y0; omega)
  have hr1 := Int.emod_lt_of_pos (U * 4294967296 + d) (show 0 < Y by have := h.Y0; omega)
  have := h.Y1
  refine ⟨?_, hr0, hr1⟩
  simp only [IntKind.wrap_u64]
  generalize T * Y = z at *
  generalize (U * 4294967296 + d) % Y = R at *
  omega

/-- Both digits together. -/
theorem both {hi lo y p U L Y R T T' : Int} (hp : 0 < p) (hY : Y = y * p) (hy : 0 < y) (hUL : U * 18446744073709551616 + L = (hi * 18446744073709551616 + lo) * p)
    (hR : R = (U * 4294967296 + L / 4294967296) % Y) (hT : T = (U * 4294967296 + L / 4294967296) / Y) (hT' : T' = (R * 4294967296 + L % 4294967296) / Y) :
    T * 4294967296 + T' = (hi * 18446744073709551616 + lo) / y ∧ (R * 4294967296 + L % 4294967296) % Y / p = (hi * 18446744073709551616 + lo) % y := by
  have hYp : 0 < Y := by rw [hY]; exact Int.mul_pos hy hp
  have h1 := Int.mul_ediv_add_emod (U * 4294967296 + L / 4294967296) Y
  rw [← hR, ← hT] at h1
  have hN : (hi * 18446744073709551616 + lo) * p = (R * 4294967296 + L % 4294967296) + Y * (T * 4294967296) := by
    rw [← hUL, ← Int.mul_assoc]
    omega
  have hd : (hi * 18446744073709551616 + lo) * p / Y = T' + T * 4294967296 := by
    rw [hN, Int.add_mul_ediv_left _ _ (show Y ≠ 0 by omega), hT']
  have hmod : (hi * 18446744073709551616 + lo) * p % Y = (R * 4294967296 + L % 4294967296) % Y := by
    rw [hN, Int.add_mul_emod_self_left]
  have e : ∀ a : Int, a * p = p * a := fun a => Int.mul_comm _ _
  rw [hY, e, e y, Int.mul_ediv_mul_of_pos _ _ hp] at hd
  rw [← hmod, hY, e, e y, Int.mul_emod_mul_of_pos _ _ hp, Int.mul_ediv_cancel_left _ (by omega)]
  exact ⟨by omega, rfl⟩
end Go.Proofs.Ytpbbbfglecbceaa.DivPl
/- math/bits.Div64 gives the quotient and the remainder, for a high word below the divisor. -/
namespace Go.Proofs.Ytpbbbfglecbceaa
set_option linter.all false
open Go.RowKit

theorem mask32 (a : Int) (h0 : 0 ≤ a) (h1 : a ≤ 18446744073709551615) : bits .and .u64 a 4294967295 = a % 4294967296 := by
  obtain ⟨n, rfl⟩ := Int.eq_ofNat_of_zero_le h0
  rw [Mul64.maskN n (by omega)]
  omega

set_option maxRecDepth 100000 in
set_option maxHeartbeats 2000000 in
theorem div64_walk (hi lo y s Y U L Yh Yl Lh Ll q0 r0 T R q0' r0' T' R' B : Int) (h1 : 0 < hi) (h2 : hi < y) (h3 : y ≤ 18446744073709551615) (l0 : 0 ≤ lo) (l1 : lo ≤ 18446744073709551615)
   (C : Hid (∀ w, Calls Try.prog 152 #[.int .u64 y] w fun e w' => e = .returned (.int .i64 s) ∧ w = w')) (s0 : 0 ≤ s) (s1 : s ≤ 63)
   (eY : IntKind.u64.wrap (y * 2 ^ s.toNat) = Y) (Y0 : 9223372036854775808 ≤ Y) (Y1 : Y ≤ 18446744073709551615)
   (eU : bits .or .u64 (IntKind.u64.wrap (hi * 2 ^ s.toNat)) (lo / 2 ^ (64 - s).toNat) = U) (U0 : 0 ≤ U) (U1 : U ≤ 18446744073709551615)
   (eL : IntKind.u64.wrap (lo * 2 ^ s.toNat) = L) (L0 : 0 ≤ L) (L1 : L ≤ 18446744073709551615)
   (eYh : Y / 4294967296 = Yh) (eYl : bits .and .u64 Y 4294967295 = Yl) (eLh : L / 4294967296 = Lh) (eLl : bits .and .u64 L 4294967295 = Ll)
   (Yh0 : 2147483648 ≤ Yh) (Yh1 : Yh ≤ 4294967295) (Yl0 : 0 ≤ Yl) (Yl1 : Yl ≤ 4294967295) (Lh0 : 0 ≤ Lh) (Lh1 : Lh ≤ 4294967295) (Ll0 : 0 ≤ Ll) (Ll1 : Ll ≤ 4294967295)
   (eq0 : U / Yh = q0) (er0 : IntKind.u64.wrap (U - IntKind.u64.wrap (q0 * Yh)) = r0)
   (eR : IntKind.u64.wrap (IntKind.u64.wrap (IntKind.u64.wrap (U * 4294967296) + Lh) - IntKind.u64.wrap (T * Y)) = R) (R0 : 0 ≤ R) (R1 : R ≤ 18446744073709551615)
   (eq0' : R / Yh = q0') (er0' : IntKind.u64.wrap (R - IntKind.u64.wrap (q0' * Yh)) = r0')
   (Ta : 0 ≤ T) (Tb : T ≤ 4294967295) (Ta' : 0 ≤ T') (Tb' : T' ≤ 4294967295)
   (eR' : IntKind.u64.wrap (IntKind.u64.wrap (IntKind.u64.wrap (R * 4294967296) + Ll) - IntKind.u64.wrap (T' * Y)) = R') (R0' : 0 ≤ R') (R1' : R' ≤ 18446744073709551615)
   (eB : R' / 2 ^ s.toNat = B)
   (I : Int → Int → Prop) (I' : Int → Int → Prop)
   (Ist : Hid (I q0 r0)) (Ist' : Hid (I' q0' r0'))
   (Ib : Hid (∀ q r, I q r → 0 ≤ q ∧ q ≤ 4294967297 ∧ 0 ≤ r ∧ r ≤ 4294967295 ∧ (q < 4294967296 → 0 ≤ q * Yl ∧ q * Yl ≤ 18446744073709551615)))
   (Ib' : Hid (∀ q r, I' q r → 0 ≤ q ∧ q ≤ 4294967297 ∧ 0 ≤ r ∧ r ≤ 4294967295 ∧ (q < 4294967296 → 0 ≤ q * Yl ∧ q * Yl ≤ 18446744073709551615)))
   (Iok : Hid (∀ q r, I q r → q < 4294967296 → q * Yl ≤ 4294967296 * r + Lh → q = T))
   (Iok' : Hid (∀ q r, I' q r → q < 4294967296 → q * Yl ≤ 4294967296 * r + Ll → q = T'))
   (Ino : Hid (∀ q r, I q r → (4294967296 ≤ q ∨ 4294967296 * r + Lh < q * Yl) → 1 ≤ q ∧ (r + Yh ≤ 4294967295 → I (q - 1) (r + Yh)) ∧ (4294967296 ≤ r + Yh → q - 1 = T)))
   (Ino' : Hid (∀ q r, I' q r → (4294967296 ≤ q ∨ 4294967296 * r + Ll < q * Yl) → 1 ≤ q ∧ (r + Yh ≤ 4294967295 → I' (q - 1) (r + Yh)) ∧ (4294967296 ≤ r + Yh → q - 1 = T')))
   (w : World) :
    Calls Try.prog 148 #[.int .u64 hi, .int .u64 lo, .int .u64 y] w fun e w' => e = .returned (.tuple #[.int .u64 (T * 4294967296 + T'), .int .u64 B]) ∧ w = w' := by
  have y0 : 0 ≤ y := by omega
  have t1 : (y == 0) = false := by simp; omega
  have t2 : decide (y ≤ hi) = false := by simp; omega
  have t3 : (hi == 0) = false := by simp; omega
  have hi0 : 0 ≤ hi := by omega
  go_enter Try.func148, Try.ntmps148
  go_wp2_with (go_at_call 152; refine (C.out _).mono ?_; rintro e w' ⟨rfl, rfl⟩)
  go_loop [15, 16] (fun a b => ∃ q r : Int, I q r ∧ a = .int .u64 q ∧ b = .int .u64 r) (fun a _ => (intOf a).toNat)
  case atStart => exact ⟨_, _, Ist.out, by first | rfl | rw [eq0], rfl⟩
  case round =>
    obtain ⟨q, r, hI, rfl, rfl⟩ := hrel
    obtain ⟨b1, b2, b3, b4, b5⟩ := Ib.out q r hI
    have HI := Lib.hid hI
    clear hI
    by_cases hyes : 4294967296 ≤ q ∨ 4294967296 * r + Lh < q * Yl
    · obtain ⟨n1, n2, n3⟩ := Ino.out q r HI.out hyes
      have N2 := Lib.hid n2
      have N3 := Lib.hid n3
      clear n2 n3
      by_cases hq : 4294967296 ≤ q
      · have hq' : decide (4294967296 ≤ q) = true := by simpa using hq
        clear b5 hyes
        by_cases hr : r + Yh ≤ 4294967295
        · have N4 := Lib.hid (N2.out hr)
          go_wp2
          go_round
          case rel => exact ⟨_, _, N4.out, rfl, rfl⟩
          case measure => simp [intOf]; omega
        · have e := N3.out (by omega)
          go_wp2
          go_loop [18, 16] (fun a b => ∃ q r : Int, I' q r ∧ a = .int .u64 q ∧ b = .int .u64 r) (fun a _ => (intOf a).toNat)
          case atStart => exact ⟨_, _, Ist'.out, by first | rfl | rw [eq0'], rfl⟩
          case round =>
            obtain ⟨q', r', hI', rfl, rfl⟩ := hrel
            obtain ⟨b1', b2', b3', b4', b5'⟩ := Ib'.out q' r' hI'
            have HI' := Lib.hid hI'
            clear hI'
            by_cases hyes : 4294967296 ≤ q' ∨ 4294967296 * r' + Ll < q' * Yl
            · obtain ⟨n1, n2, n3⟩ := Ino'.out q' r' HI'.out hyes
              have N2' := Lib.hid n2
              have N3' := Lib.hid n3
              clear n2 n3
              by_cases hq' : 4294967296 ≤ q'
              · have hq2 : decide (4294967296 ≤ q') = true := by simpa using hq'
                clear b5' hyes
                by_cases hr' : r' + Yh ≤ 4294967295
                · have N4' := Lib.hid (N2'.out hr')
                  go_wp2
                  go_round
                  case rel => exact ⟨_, _, N4'.out, rfl, rfl⟩
                  case measure => simp [intOf]; omega
                · have e' := N3'.out (by omega)
                  go_wp2
                  go_ret2
                  exact ⟨rfl, rfl⟩
              · have hq2 : decide (4294967296 ≤ q') = false := by simpa using hq'
                have hlt' : 4294967296 * r' + Ll < q' * Yl := by omega
                obtain ⟨b6', b7'⟩ := b5' (by omega)
                clear b5' hyes
                by_cases hr' : r' + Yh ≤ 4294967295
                · have N4' := Lib.hid (N2'.out hr')
                  go_wp2
                  go_round
                  case rel => exact ⟨_, _, N4'.out, rfl, rfl⟩
                  case measure => simp [intOf]; omega
                · have e' := N3'.out (by omega)
                  go_wp2
                  go_ret2
                  exact ⟨rfl, rfl⟩
            · have hq' : q' < 4294967296 := by omega
              have hq2 : decide (4294967296 ≤ q') = false := by simp; omega
              have hle' : q' * Yl ≤ 4294967296 * r' + Ll := by omega
              obtain ⟨b6', b7'⟩ := b5' hq'
              obtain rfl := Iok'.out q' r' HI'.out hq' hle'
              clear b5' hyes
              go_wp2
              go_ret2
              exact ⟨rfl, rfl⟩
      · have hq' : decide (4294967296 ≤ q) = false := by simpa using hq
        have hlt : 4294967296 * r + Lh < q * Yl := by omega
        obtain ⟨b6, b7⟩ := b5 (by omega)
        clear b5 hyes
        by_cases hr : r + Yh ≤ 4294967295
        · have N4 := Lib.hid (N2.out hr)
          go_wp2
          go_round
          case rel => exact ⟨_, _, N4.out, rfl, rfl⟩
          case measure => simp [intOf]; omega
        · have e := N3.out (by omega)
          go_wp2
          go_loop [18, 16] (fun a b => ∃ q r : Int, I' q r ∧ a = .int .u64 q ∧ b = .int .u64 r) (fun a _ => (intOf a).toNat)
          case atStart => exact ⟨_, _, Ist'.out, by first | rfl | rw [eq0'], rfl⟩
          case round =>
            obtain ⟨q', r', hI', rfl, rfl⟩ := hrel
            obtain ⟨b1', b2', b3', b4', b5'⟩ := Ib'.out q' r' hI'
            have HI' := Lib.hid hI'
            clear hI'
            by_cases hyes : 4294967296 ≤ q' ∨ 4294967296 * r' + Ll < q' * Yl
            · obtain ⟨n1, n2, n3⟩ := Ino'.out q' r' HI'.out hyes
              have N2' := Lib.hid n2
              have N3' := Lib.hid n3
              clear n2 n3
              by_cases hq' : 4294967296 ≤ q'
              · have hq2 : decide (4294967296 ≤ q') = true := by simpa using hq'
                clear b5' hyes
                by_cases hr' : r' + Yh ≤ 4294967295
                · have N4' := Lib.hid (N2'.out hr')
                  go_wp2
                  go_round
                  case rel => exact ⟨_, _, N4'.out, rfl, rfl⟩
                  case measure => simp [intOf]; omega
                · have e' := N3'.out (by omega)
                  go_wp2
                  go_ret2
                  exact ⟨rfl, rfl⟩
              · have hq2 : decide (4294967296 ≤ q') = false := by simpa using hq'
                have hlt' : 4294967296 * r' + Ll < q' * Yl := by omega
                obtain ⟨b6', b7'⟩ := b5' (by omega)
                clear b5' hyes
                by_cases hr' : r' + Yh ≤ 4294967295
                · have N4' := Lib.hid (N2'.out hr')
                  go_wp2
                  go_round
                  case rel => exact ⟨_, _, N4'.out, rfl, rfl⟩
                  case measure => simp [intOf]; omega
                · have e' := N3'.out (by omega)
                  go_wp2
                  go_ret2
                  exact ⟨rfl, rfl⟩
            · have hq' : q' < 4294967296 := by omega
              have hq2 : decide (4294967296 ≤ q') = false := by simp; omega
              have hle' : q' * Yl ≤ 4294967296 * r' + Ll := by omega
              obtain ⟨b6', b7'⟩ := b5' hq'
              obtain rfl := Iok'.out q' r' HI'.out hq' hle'
              clear b5' hyes
              go_wp2
              go_ret2
              exact ⟨rfl, rfl⟩
    · have hq : q < 4294967296 := by omega
      have hq' : decide (4294967296 ≤ q) = false := by simp; omega
      have hle : q * Yl ≤ 4294967296 * r + Lh := by omega
      obtain ⟨b6, b7⟩ := b5 hq
      obtain rfl := Iok.out q r HI.out hq hle
      clear b5 hyes
      go_wp2
      go_loop [18, 16] (fun a b => ∃ q r : Int, I' q r ∧ a = .int .u64 q ∧ b = .int .u64 r) (fun a _ => (intOf a).toNat)
      case atStart => exact ⟨_, _, Ist'.out, by first | rfl | rw [eq0'], rfl⟩
      case round =>
        obtain ⟨q', r', hI', rfl, rfl⟩ := hrel
        obtain ⟨b1', b2', b3', b4', b5'⟩ := Ib'.out q' r' hI'
        have HI' := Lib.hid hI'
        clear hI'
        by_cases hyes : 4294967296 ≤ q' ∨ 4294967296 * r' + Ll < q' * Yl
        · obtain ⟨n1, n2, n3⟩ := Ino'.out q' r' HI'.out hyes
          have N2' := Lib.hid n2
          have N3' := Lib.hid n3
          clear n2 n3
          by_cases hq' : 4294967296 ≤ q'
          · have hq2 : decide (4294967296 ≤ q') = true := by simpa using hq'
            clear b5' hyes
            by_cases hr' : r' + Yh ≤ 4294967295
            · have N4' := Lib.hid (N2'.out hr')
              go_wp2
              go_round
              case rel => exact ⟨_, _, N4'.out, rfl, rfl⟩
              case measure => simp [intOf]; omega
            · have e' := N3'.out (by omega)
              go_wp2
              go_ret2
              exact ⟨rfl, rfl⟩
          · have hq2 : decide (4294967296 ≤ q') = false := by simpa using hq'
            have hlt' : 4294967296 * r' + Ll < q' * Yl := by omega
            obtain ⟨b6', b7'⟩ := b5' (by omega)
            clear b5' hyes
            by_cases hr' : r' + Yh ≤ 4294967295
            · have N4' := Lib.hid (N2'.out hr')
              go_wp2
              go_round
              case rel => exact ⟨_, _, N4'.out, rfl, rfl⟩
              case measure => simp [intOf]; omega
            · have e' := N3'.out (by omega)
              go_wp2
              go_ret2
              exact ⟨rfl, rfl⟩
        · have hq' : q' < 4294967296 := by omega
          have hq2 : decide (4294967296 ≤ q') = false := by simp; omega
          have hle' : q' * Yl ≤ 4294967296 * r' + Ll := by omega
          obtain ⟨b6', b7'⟩ := b5' hq'
          obtain rfl := Iok'.out q' r' HI'.out hq' hle'
          clear b5' hyes
          go_wp2
          go_ret2
          exact ⟨rfl, rfl⟩

/-- math/bits.Div64 for a high word that is not 0. -/
theorem div64_pos (hi lo y : Int) (h1 : 0 < hi) (h2 : hi < y) (h3 : y ≤ 18446744073709551615) (l0 : 0 ≤ lo) (l1 : lo ≤ 18446744073709551615) (w : World) :
    Calls Try.prog 148 #[.int .u64 hi, .int .u64 lo, .int .u64 y] w fun e w' => e = .returned (.tuple #[.int .u64 ((hi * 18446744073709551616 + lo) / y), .int .u64 ((hi * 18446744073709551616 + lo) % y)]) ∧ w = w' := by
  obtain ⟨s, hs⟩ : ∃ s : Int, s = 64 - (Lib.bitLen y.toNat : Int) := ⟨_, rfl⟩
  obtain ⟨s0, s1, n1, n2⟩ := DivPl.norm y (by omega) h3 s hs
  obtain ⟨p, hp'⟩ : ∃ p : Int, p = 2 ^ s.toNat := ⟨_, rfl⟩
  obtain ⟨q, hq'⟩ : ∃ q : Int, q = 2 ^ (64 - s).toNat := ⟨_, rfl⟩
  obtain ⟨U, hU⟩ : ∃ U : Int, U = hi * p + lo / q := ⟨_, rfl⟩
  obtain ⟨L, hL⟩ : ∃ L : Int, L = lo * p % 18446744073709551616 := ⟨_, rfl⟩
  rw [← hp'] at n1 n2
  obtain ⟨hp, eU, eL, hUL, U0, UY, L0, L1⟩ := DivPl.moved hi lo y s h2 (by omega) l0 l1 s0 s1 p q U L hp' hq' n2 hU hL
  obtain ⟨Y, hY⟩ : ∃ Y : Int, Y = y * p := ⟨_, rfl⟩
  rw [← hY] at n1 n2 UY
  have dig : DivPl.Dig U Y (L / 4294967296) := ⟨U0, UY, n1, n2, by omega, by omega⟩
  obtain ⟨T, hT⟩ : ∃ T : Int, T = (U * 4294967296 + L / 4294967296) / Y := ⟨_, rfl⟩
  obtain ⟨eR, R0, R1⟩ := DivPl.left dig hT
  obtain ⟨R, hR⟩ : ∃ R : Int, R = (U * 4294967296 + L / 4294967296) % Y := ⟨_, rfl⟩
  rw [← hR] at eR R0 R1
  have dig' : DivPl.Dig R Y (L % 4294967296) := ⟨R0, R1, n1, n2, by omega, by omega⟩
  obtain ⟨T', hT'⟩ : ∃ T' : Int, T' = (R * 4294967296 + L % 4294967296) / Y := ⟨_, rfl⟩
  obtain ⟨eR', R0', R1'⟩ := DivPl.left dig' hT'
  obtain ⟨bo1, bo2⟩ := DivPl.both hp hY (by omega) hUL hR hT hT'
  have tb := DivPl.tlt dig
  have tb' := DivPl.tlt dig'
  rw [← hT] at tb
  rw [← hT'] at tb'
  have st := DivPl.start dig
  have st' := DivPl.start dig'
  have hlz : Hid (∀ w, Calls Try.prog 152 #[.int .u64 y] w fun e w' => e = .returned (.int .i64 s) ∧ w = w') := by
    have c := lz64_any y (by omega) h3
    rw [← hs] at c
    exact c
  have ey : Y % 4294967296 = Y - Y / 4294967296 * 4294967296 := by omega
  refine (div64_walk hi lo y s Y U L (Y / 4294967296) (Y % 4294967296) (L / 4294967296) (L % 4294967296) (U / (Y / 4294967296)) (U - U / (Y / 4294967296) * (Y / 4294967296)) T R
    (R / (Y / 4294967296)) (R - R / (Y / 4294967296) * (Y / 4294967296)) T' ((R * 4294967296 + L % 4294967296) % Y) ((R * 4294967296 + L % 4294967296) % Y / p) h1 h2 h3 l0 l1 hlz s0 s1
    (by rw [← hp', IntKind.wrap_u64, hY]; omega) n1 n2 (by rw [← hp', ← hq']; exact eU) U0 (by omega) (by rw [← hp']; exact eL) L0 L1
    rfl (mask32 Y (by omega) n2) rfl (mask32 L L0 L1) (by omega) (by omega) (by omega) (by omega) (by omega) (by omega) (by omega) (by omega)
    rfl ?_ eR R0 (by omega) rfl ?_ tb.1 tb.2 tb'.1 tb'.2 eR' R0' (by omega) (by rw [← hp'])
    (DivPl.Inv U Y (L / 4294967296)) (DivPl.Inv R Y (L % 4294967296)) st st'
    (fun q r h => ?_) (fun q r h => ?_) (fun q r h hq ht => (DivPl.right dig h ht).trans hT.symm) (fun q r h hq ht => (DivPl.right dig' h ht).trans hT'.symm)
    (fun q r h ht => ⟨(DivPl.less dig h ht).2.2, fun hr => DivPl.again dig h ht hr, fun hr => (DivPl.stop dig h ht hr).trans hT.symm⟩)
    (fun q r h ht => ⟨(DivPl.less dig' h ht).2.2, fun hr => DivPl.again dig' h ht hr, fun hr => (DivPl.stop dig' h ht hr).trans hT'.symm⟩) w).mono fun e w' ⟨he, hw⟩ => ⟨?_, hw⟩
  · have := st.r0; have := st.r1; have := st.q1; have := st.eq
    simp only [IntKind.wrap_u64]
    generalize U / (Y / 4294967296) * (Y / 4294967296) = z at *
    omega
  · have := st'.r0; have := st'.r1; have := st'.q1; have := st'.eq
    simp only [IntKind.wrap_u64]
    generalize R / (Y / 4294967296) * (Y / 4294967296) = z at *
    omega
  · have := DivPl.tlt dig
    exact ⟨by have := h.ge; omega, h.q1, h.r0, h.r1, fun hq => (DivPl.test_in dig h hq).2⟩
  · have := DivPl.tlt dig'
    exact ⟨by have := h.ge; omega, h.q1, h.r0, h.r1, fun hq => (DivPl.test_in dig' h hq).2⟩
  · rw [he, bo1, bo2]

theorem div64_zero (lo y : Int) (h2 : 0 < y) (h3 : y ≤ 18446744073709551615) (l0 : 0 ≤ lo) (l1 : lo ≤ 18446744073709551615) (w : World) :
    Calls Try.prog 148 #[.int .u64 0, .int .u64 lo, .int .u64 y] w fun e w' => e = .returned (.tuple #[.int .u64 (lo / y), .int .u64 (lo % y)]) ∧ Below w.heap.size w w' := by
  have t1 : (y == 0) = false := by simp; omega
  have t2 : decide (y ≤ 0) = false := by simp; omega
  have y1 : y ≠ 0 := by omega
  go_enter Try.func148, Try.ntmps148
  go_wp2
  go_quiet (fail)
  go_wp2
  go_ret2
  exact ⟨rfl, below_drewN (Below.refl _ _) _⟩

/-- math/bits.Div64. -/
theorem div64_any (hi lo y : Int) (h1 : 0 ≤ hi) (h2 : hi < y) (h3 : y ≤ 18446744073709551615) (l0 : 0 ≤ lo) (l1 : lo ≤ 18446744073709551615) (w : World) :
    Calls Try.prog 148 #[.int .u64 hi, .int .u64 lo, .int .u64 y] w fun e w' => e = .returned (.tuple #[.int .u64 ((hi * 18446744073709551616 + lo) / y), .int .u64 ((hi * 18446744073709551616 + lo) % y)]) ∧ Below w.heap.size w w' := by
  by_cases h : hi = 0
  · subst h
    refine (div64_zero lo y (by omega) h3 l0 l1 w).mono fun e w' ⟨he, hw⟩ => ⟨?_, hw⟩
    rw [he]; simp
  · refine (div64_pos hi lo y (by omega) h2 h3 l0 l1 w).mono fun e w' ⟨he, hw⟩ => ⟨he, ?_⟩
    subst hw; exact Below.refl _ _
end Go.Proofs.Ytpbbbfglecbceaa
/- Blocks of the call's own that are known whole; what a call leaves of them. -/
namespace Go.Proofs.Ytpbbbfglecbceaa
set_option linter.all false
open Go.RowKit

/-- Block g is a row of cells, none of them shared with a string. -/
def Hd (w : World) (g : Nat) (t : TypeId) (cs : Array Value) : Prop := w.heap[g]? = some (.cells cs t (0, 0))

section
variable {w w' : World} {g : Nat} {t : TypeId} {cs : Array Value}
theorem Hd.lt (h : Hd w g t cs) : g < w.heap.size := by
  rcases Nat.lt_or_ge g w.heap.size with hlt | hge
  · exact hlt
  · unfold Hd at h; rw [Array.getElem?_eq_none hge] at h; cases h
theorem Hd.cell (h : Hd w g t cs) (i : Nat) : w.cell? ⟨g, i, none⟩ = cs[i]? := cell_of_row w g i cs t (0, 0) h
theorem Hd.free (h : Hd w g t cs) (i : Nat) : w.frozen? ⟨g, i, none⟩ = false := by
  unfold Hd at h
  simp [World.frozen?, h]
theorem Hd.facts (h : Hd w g t cs) : (∀ i, w.cell? ⟨g, i, none⟩ = cs[i]?) ∧ (∀ i, w.frozen? ⟨g, i, none⟩ = false) := ⟨h.cell, h.free⟩
theorem Hd.new {g : Nat} (hg : g = w.heap.size) : Hd (w.alloc (.cells cs t)) g t cs := by subst hg; exact heap_alloc_new w _
theorem Hd.drew (h : Hd w g t cs) : Hd w.drew g t cs := h
theorem Hd.drewN (h : Hd w g t cs) (n : Nat) : Hd (w.drewN n) g t cs := h
theorem Hd.alloc (h : Hd w g t cs) (o : Obj) : Hd (w.alloc o) g t cs := (Below.heap_alloc w o g h.lt).trans h
theorem Hd.set (h : Hd w g t cs) (i : Nat) (u : Value) : Hd (w.setCell ⟨g, i, none⟩ u) g t (cs.setIfInBounds i u) := by
  unfold Hd at h ⊢
  simp [World.setCell, Array.getElem?_modify, h]
theorem Hd.set' {cs' : Array Value} {i : Nat} {u : Value} (h : Hd w g t cs) (e : cs.setIfInBounds i u = cs') : Hd (w.setCell ⟨g, i, none⟩ u) g t cs' := e ▸ h.set i u
theorem Hd.far (h : Hd w g t cs) {p : Addr} (hp : g ≠ p.block) (u : Value) : Hd (w.setCell p u) g t cs := (Below.heap_setCell w p u g hp).trans h
theorem Hd.below {B : Nat} (h : Hd w g t cs) (hb : Below B w w') (hg : g < B) : Hd w' g t cs := (hb.block g hg).trans h
theorem Hd.call (h : Hd w g t cs) (hb : Below w.heap.size w w') : Hd w' g t cs := h.below hb h.lt
theorem Hd.ne {g' : Nat} {t' : TypeId} {cs' : Array Value} (h : Hd w g t cs) (h' : Hd w g' t' cs') (hne : cs ≠ cs') : g ≠ g' := by
  rintro rfl
  unfold Hd at h h'
  rw [h] at h'
  injection h' with h'
  injection h' with h1 _
  exact hne h1
end

section
variable {w w' : World} {g : Nat} {t : TypeId} {cs cs' : Array Value} {o : Obj} {i : Nat} {u : Value} {p : Addr}
theorem hdN (hg : g = w.heap.size) : Hd (w.alloc (.cells cs t)) g t cs := Hd.new hg
theorem hdA (h : Hd w g t cs) : Hd (w.alloc o) g t cs := h.alloc o
theorem hdD (h : Hd w g t cs) : Hd w.drew g t cs := h
theorem hdS (h : Hd w g t cs) (e : cs.setIfInBounds i u = cs') : Hd (w.setCell ⟨g, i, none⟩ u) g t cs' := h.set' e
theorem hdF (h : Hd w g t cs) (hp : g ≠ p.block) : Hd (w.setCell p u) g t cs := h.far hp u
end
theorem sA (w : World) (o : Obj) : (w.alloc o).heap.size = w.heap.size + 1 := World.size_alloc w o
theorem sS (w : World) (a : Addr) (u : Value) : (w.setCell a u).heap.size = w.heap.size := World.size_setCell w a u
theorem sD (w : World) : w.drew.heap.size = w.heap.size := World.size_drew w

/-- A type whose values are rows of cells. -/
def isRow : TypeDesc → Bool
  | .struct _ => true
  | .array _ _ => true
  | _ => false

section
variable {P : Program} {w : World}
theorem run_load_hd {g t ty : Nat} {cs : Array Value} {d : TypeDesc} (hg : Hd w g t cs) (hu : P.underlying ty = some d) (hr : isRow d = true)
    (hs : (P.info? ty).map (·.size) = some cs.size) : (loadVar ty ⟨g, 0, none⟩).run P w = .ok (.agg cs) w := by
  refine run_loadVar_row w g t ty cs (0, 0) d hg hu ?_ hs
  cases d <;> first | rfl | cases hr

theorem run_results1 {fn : Func} {k ty : Nat} {tmps : Array Value} {g t : Nat} {cs : Array Value} {d : TypeDesc} (hres : fn.results = #[.cell k ty])
    (hk : tmps.getD k undef = .pointer (some ⟨g, 0, none⟩)) (hg : Hd w g t cs) (hu : P.underlying ty = some d) (hr : isRow d = true)
    (hs : (P.info? ty).map (·.size) = some cs.size) : (results fn tmps).run P w = .ok (.agg cs) w := by
  have := run_load_hd hg hu hr hs
  have hk0 : tmps[k]?.getD undef = .pointer (some ⟨g, 0, none⟩) := by simpa using hk
  simp [results, hres, hk0, asAddr, this]

theorem run_results2 {fn : Func} {k ty u : Nat} {tmps : Array Value} {g t : Nat} {cs : Array Value} {d : TypeDesc} (hres : fn.results = #[.cell k ty, .tmp u])
    (hk : tmps.getD k undef = .pointer (some ⟨g, 0, none⟩)) (hg : Hd w g t cs) (hu : P.underlying ty = some d) (hr : isRow d = true)
    (hs : (P.info? ty).map (·.size) = some cs.size) : (results fn tmps).run P w = .ok (.tuple #[.agg cs, tmps.getD u undef]) w := by
  have := run_load_hd hg hu hr hs
  have hk0 : tmps[k]?.getD undef = .pointer (some ⟨g, 0, none⟩) := by simpa using hk
  simp [results, hres, hk0, asAddr, this]

theorem run_results3 {fn : Func} {k ty u v : Nat} {tmps : Array Value} {g t : Nat} {cs : Array Value} {d : TypeDesc} (hres : fn.results = #[.cell k ty, .tmp u, .tmp v])
    (hk : tmps.getD k undef = .pointer (some ⟨g, 0, none⟩)) (hg : Hd w g t cs) (hu : P.underlying ty = some d) (hr : isRow d = true)
    (hs : (P.info? ty).map (·.size) = some cs.size) : (results fn tmps).run P w = .ok (.tuple #[.agg cs, tmps.getD u undef, tmps.getD v undef]) w := by
  have := run_load_hd hg hu hr hs
  have hk0 : tmps[k]?.getD undef = .pointer (some ⟨g, 0, none⟩) := by simpa using hk
  simp [results, hres, hk0, asAddr, this]

theorem run_results_cc {fn : Func} {k k' ty ty' u : Nat} {tmps : Array Value} {g t g' t' : Nat} {cs cs' : Array Value} {d d' : TypeDesc} (hres : fn.results = #[.cell k ty, .cell k' ty', .tmp u])
    (hk : tmps.getD k undef = .pointer (some ⟨g, 0, none⟩)) (hg : Hd w g t cs) (hu : P.underlying ty = some d) (hr : isRow d = true)
    (hs : (P.info? ty).map (·.size) = some cs.size) (hk' : tmps.getD k' undef = .pointer (some ⟨g', 0, none⟩)) (hg' : Hd w g' t' cs') (hu' : P.underlying ty' = some d') (hr' : isRow d' = true)
    (hs' : (P.info? ty').map (·.size) = some cs'.size) : (results fn tmps).run P w = .ok (.tuple #[.agg cs, .agg cs', tmps.getD u undef]) w := by
  have := run_load_hd hg hu hr hs
  have := run_load_hd hg' hu' hr' hs'
  have hk0 : tmps[k]?.getD undef = .pointer (some ⟨g, 0, none⟩) := by simpa using hk
  have hk0' : tmps[k']?.getD undef = .pointer (some ⟨g', 0, none⟩) := by simpa using hk'
  simp [results, hres, hk0, hk0', asAddr, *]
end

/-- What a call leaves of what was there before. -/
theorem below_next {a W w1 : World} (h : Below a.heap.size a W) (hb : Below W.heap.size W w1) : Below a.heap.size a w1 := h.trans (hb.mono h.size)

/-- What lay there before a call reads as it did. -/
theorem bcell {W w1 : World} (hb : Below W.heap.size W w1) : (∀ b o, b < W.heap.size → w1.cell? ⟨b, o, none⟩ = W.cell? ⟨b, o, none⟩) ∧ (∀ b o, b < W.heap.size → w1.frozen? ⟨b, o, none⟩ = W.frozen? ⟨b, o, none⟩) :=
  ⟨fun b o h => hb.cell (p := ⟨b, o, none⟩) h, fun b o h => hb.frozen (p := ⟨b, o, none⟩) h⟩

theorem hdx {P : Prop} (h : P := by (with_reducible repeat' (first | assumption | (apply hdN; (try simp only [sA, sS, sD]); done) | apply hdA | apply hdD | apply hdS | (apply hdF; case hp => first | (simp; done) | (simp; omega)) | with_unfolding_all rfl))) : P := h
end Go.Proofs.Ytpbbbfglecbceaa
/- What the functions of package enclose compute, in plain words. -/
namespace Go.Proofs.Ytpbbbfglecbceaa.En
set_option linter.all false

structure Sp where
  lo : Int
  hi : Int
deriving DecidableEq, Inhabited
structure Rc where
  re : Sp
  im : Sp
deriving DecidableEq, Inhabited
structure Pt where
  s00 : Rc
  s01 : Rc
  s10 : Rc
  s11 : Rc
deriving DecidableEq, Inhabited
/-- A fraction: its sign, the two words of the numerator, the divisor. -/
structure Fr where
  neg : Bool
  hi : Int
  lo : Int
  c : Int
deriving DecidableEq, Inhabited

def okS (lo hi : Int) : Bool := decide (-1099511627776 ≤ lo) && decide (lo ≤ hi) && decide (hi ≤ 1099511627776)
def Sp.ok (s : Sp) : Bool := okS s.lo s.hi
def Rc.ok (x : Rc) : Bool := x.re.ok && x.im.ok

/-- A result, or the error's number. -/
abbrev R (α : Type) := Except Int α

def span (lo hi : Int) : R Sp := if okS lo hi then .ok ⟨lo, hi⟩ else .error 4

def Fr.q (f : Fr) : Int := if f.c ≤ f.hi then 4611686018427387904 else min ((f.hi * 18446744073709551616 + f.lo) / f.c) 4611686018427387904
def Fr.exact (f : Fr) : Bool := if f.c ≤ f.hi then true else decide ((f.hi * 18446744073709551616 + f.lo) % f.c = 0)
def Fr.floor (f : Fr) : Int := if f.neg then (if f.exact then -f.q else -f.q - 1) else f.q
def Fr.ceil (f : Fr) : Int := -({ f with neg := !f.neg } : Fr).floor

def abs (n : Int) : Int := if n < 0 then -n else n
def over (a b c : Int) : Fr :=
  { neg := ((decide (a < 0) != decide (b < 0)) != decide (c < 0)) && decide (abs a * abs b ≠ 0)
    hi := abs a * abs b / 18446744073709551616
    lo := abs a * abs b % 18446744073709551616
    c := abs c }

theorem abs_pos (n : Int) (h : n ≠ 0) : 0 < abs n := by unfold abs; split <;> omega
theorem abs_nonneg (n : Int) : 0 ≤ abs n := by unfold abs; split <;> omega

structure Fr.wf (f : Fr) : Prop where
  h0 : 0 ≤ f.hi
  h1 : f.hi ≤ 18446744073709551615
  l0 : 0 ≤ f.lo
  l1 : f.lo ≤ 18446744073709551615
  c0 : 0 < f.c
  c1 : f.c ≤ 18446744073709551615

theorem Fr.q_range {f : Fr} (h : f.wf) : 0 ≤ f.q ∧ f.q ≤ 4611686018427387904 := by
  unfold Fr.q
  have := h.h0; have := h.l0; have := h.c0
  split
  · omega
  · have : 0 ≤ (f.hi * 18446744073709551616 + f.lo) / f.c := Int.ediv_nonneg (by omega) (by omega)
    omega

theorem Fr.floor_range {f : Fr} (h : f.wf) : -4611686018427387905 ≤ f.floor ∧ f.floor ≤ 4611686018427387904 := by
  have := Fr.q_range h
  unfold Fr.floor
  split
  · split <;> omega
  · omega

theorem Fr.ceil_range {f : Fr} (h : f.wf) : -4611686018427387904 ≤ f.ceil ∧ f.ceil ≤ 4611686018427387905 := by
  have := Fr.floor_range (f := { f with neg := !f.neg }) ⟨h.h0, h.h1, h.l0, h.l1, h.c0, h.c1⟩
  unfold Fr.ceil
  omega

theorem over_wf (a b c : Int) (ha : -9223372036854775807 ≤ a) (ha' : a ≤ 9223372036854775807) (hb : -9223372036854775807 ≤ b) (hb' : b ≤ 9223372036854775807)
    (hc : c ≠ 0) (hc1 : -9223372036854775807 ≤ c) (hc2 : c ≤ 9223372036854775807) : (over a b c).wf := by
  have h1 : abs a ≤ 9223372036854775807 := by unfold abs; split <;> omega
  have h2 : abs b ≤ 9223372036854775807 := by unfold abs; split <;> omega
  have h3 := abs_nonneg a
  have h4 := abs_nonneg b
  have h5 : abs a * abs b ≤ 9223372036854775807 * 9223372036854775807 := Int.mul_le_mul h1 h2 h4 (by omega)
  have h6 : 0 ≤ abs a * abs b := Int.mul_nonneg h3 h4
  have h7 := abs_pos c hc
  have h8 : abs c ≤ 9223372036854775807 := by unfold abs; split <;> omega
  unfold over
  constructor <;> dsimp only <;> omega

/-- The least floor of f 0 .. f k, the greatest ceiling. -/
def lowF (f : Nat → Fr) : Nat → Int
  | 0 => (f 0).floor
  | k + 1 => min (lowF f k) (f (k + 1)).floor
def highF (f : Nat → Fr) : Nat → Int
  | 0 => (f 0).ceil
  | k + 1 => max (highF f k) (f (k + 1)).ceil

def fr4 (a b c d : Fr) : Nat → Fr
  | 0 => a
  | 1 => b
  | 2 => c
  | _ => d
def fr2 (a b : Fr) : Nat → Fr
  | 0 => a
  | _ => b

def One : Int := 1073741824
def add (s t : Sp) : R Sp := span (s.lo + t.lo) (s.hi + t.hi)
def sub (s t : Sp) : R Sp := span (s.lo - t.hi) (s.hi - t.lo)
def around4 (a b c d : Fr) : R Sp := span (lowF (fr4 a b c d) 3) (highF (fr4 a b c d) 3)
def mul (s t : Sp) : R Sp := around4 (over s.lo t.lo 1073741824) (over s.lo t.hi 1073741824) (over s.hi t.lo 1073741824) (over s.hi t.hi 1073741824)
def squareOut (s : Sp) : R Sp := span (lowF (fr2 (over s.lo s.lo 1073741824) (over s.hi s.hi 1073741824)) 1) (highF (fr2 (over s.lo s.lo 1073741824) (over s.hi s.hi 1073741824)) 1)
def square (s : Sp) : R Sp := do
  let out ← squareOut s
  pure (if s.lo ≤ 0 ∧ 0 ≤ s.hi then ⟨0, out.hi⟩ else out)
def div (s t : Sp) : R Sp :=
  if t.lo ≤ 0 ∧ 0 ≤ t.hi then .error 51
  else around4 (over s.lo 1073741824 t.lo) (over s.lo 1073741824 t.hi) (over s.hi 1073741824 t.lo) (over s.hi 1073741824 t.hi)
def half (s : Sp) : R Sp := span (s.lo / 2) (-(-s.hi / 2))

/-- Bounds of at most 2^40. -/
structure Sp.fit (s : Sp) : Prop where
  a : -1099511627776 ≤ s.lo
  b : s.lo ≤ 1099511627776
  c : -1099511627776 ≤ s.hi
  d : s.hi ≤ 1099511627776

theorem Sp.fit_of_ok {s : Sp} (h : s.ok = true) : s.fit := by
  simp only [Sp.ok, okS, Bool.and_eq_true, decide_eq_true_eq] at h
  obtain ⟨⟨h1, h2⟩, h3⟩ := h
  exact ⟨by omega, by omega, by omega, by omega⟩
theorem Sp.le_of_ok {s : Sp} (h : s.ok = true) : s.lo ≤ s.hi := by
  simp only [Sp.ok, okS, Bool.and_eq_true, decide_eq_true_eq] at h
  omega
theorem span_eq {lo hi : Int} {s : Sp} (h : span lo hi = .ok s) : s = ⟨lo, hi⟩ ∧ s.ok = true := by
  unfold span at h
  split at h
  · injection h with h
    subst h
    exact ⟨rfl, by assumption⟩
  · cases h

theorem add_ok {s t u : Sp} (h : add s t = .ok u) : u.ok = true := (span_eq h).2
theorem sub_ok {s t u : Sp} (h : sub s t = .ok u) : u.ok = true := (span_eq h).2
theorem half_ok {s u : Sp} (h : half s = .ok u) : u.ok = true := (span_eq h).2
theorem mul_ok {s t u : Sp} (h : mul s t = .ok u) : u.ok = true := (span_eq h).2
theorem div_ok {s t u : Sp} (h : div s t = .ok u) : u.ok = true := by
  unfold div at h
  split at h
  · cases h
  · exact (span_eq h).2
theorem over_self_floor (a : Int) : 0 ≤ (over a a 1073741824).floor := by
  have h1 : (over a a 1073741824).neg = false := by simp [over]
  have h2 := abs_nonneg a
  have h3 : 0 ≤ abs a * abs a := Int.mul_nonneg h2 h2
  unfold Fr.floor
  rw [h1]
  have h5 : 0 ≤ (over a a 1073741824).q := by
    have e : (over a a 1073741824).c = 1073741824 := rfl
    unfold Fr.q
    split
    · omega
    · have h4 : 0 ≤ ((over a a 1073741824).hi * 18446744073709551616 + (over a a 1073741824).lo) / (over a a 1073741824).c := by
        apply Int.ediv_nonneg
        · show 0 ≤ abs a * abs a / 18446744073709551616 * 18446744073709551616 + abs a * abs a % 18446744073709551616
          omega
        · rw [e]; omega
      omega
  simpa using h5
theorem square_ok {s u : Sp} (h : square s = .ok u) : u.ok = true := by
  unfold square at h
  cases ho : squareOut s with
  | error c => rw [ho] at h; cases h
  | ok o =>
    rw [ho] at h
    have h' : (if s.lo ≤ 0 ∧ 0 ≤ s.hi then (⟨0, o.hi⟩ : Sp) else o) = u := by injection h
    have e := span_eq ho
    by_cases hc : s.lo ≤ 0 ∧ 0 ≤ s.hi
    · rw [if_pos hc] at h'
      have h1 := over_self_floor s.lo
      have h2 := over_self_floor s.hi
      have h3 : 0 ≤ o.lo := by
        rw [e.1]
        show 0 ≤ min (over s.lo s.lo 1073741824).floor (over s.hi s.hi 1073741824).floor
        omega
      have h4 := e.2
      subst h'
      simp only [Sp.ok, okS, Bool.and_eq_true, decide_eq_true_eq] at h4 ⊢
      omega
    · rw [if_neg hc] at h'
      exact h' ▸ e.2

/-- Both parts' bounds at most 2^40. -/
structure Rc.fit (x : Rc) : Prop where
  re : x.re.fit
  im : x.im.fit
theorem Rc.fit_of_ok {x : Rc} (h : x.ok = true) : x.fit := by
  simp only [Rc.ok, Bool.and_eq_true] at h
  exact ⟨Sp.fit_of_ok h.1, Sp.fit_of_ok h.2⟩

def plus (x y : Rc) : R Rc := do
  let a ← add x.re y.re
  let b ← add x.im y.im
  pure ⟨a, b⟩
def minus (x y : Rc) : R Rc := do
  let a ← sub x.re y.re
  let b ← sub x.im y.im
  pure ⟨a, b⟩
def times (x y : Rc) : R Rc := do
  let a ← mul x.re y.re
  let b ← mul x.im y.im
  let re ← sub a b
  let c ← mul x.re y.im
  let d ← mul x.im y.re
  let im ← add c d
  pure ⟨re, im⟩
def conj (x : Rc) : Rc := ⟨x.re, ⟨-x.im.hi, -x.im.lo⟩⟩
def power (x : Rc) : R Sp := do
  let a ← square x.re
  let b ← square x.im
  add a b
def quotient (x y : Rc) : R Rc := do
  let p ← power y
  if p.lo ≤ 0 then .error 51
  else do
    let z ← times x (conj y)
    let a ← div z.re p
    let b ← div z.im p
    pure ⟨a, b⟩
def point (re im : Int) : R Rc := do
  let a ← span (re * 1073741824) (re * 1073741824)
  let b ← span (im * 1073741824) (im * 1073741824)
  pure ⟨a, b⟩
def part (n d : Int) : R Sp := span (over n 1073741824 d).floor (over n 1073741824 d).ceil

end Go.Proofs.Ytpbbbfglecbceaa.En
/- Package enclose: fractions and spans. -/
namespace Go.Proofs.Ytpbbbfglecbceaa
set_option linter.all false
open Go.RowKit

abbrev nonev (c : Int) : List PanicEntry := [{ v := .iface 106 (.agg #[.int .i64 c]), recovered := false }]
/-- It returns f of the result, or panics with its error; nothing that was there has changed. -/
def Post {α : Type} (f : α → Value) (r : En.R α) (w : World) (e : Ending) (w' : World) : Prop :=
  Below w.heap.size w w' ∧ match r with
    | .ok s => e = .returned (f s)
    | .error c => e = .panicked (nonev c)
theorem Post.cases {α : Type} {f : α → Value} {r : En.R α} {w w' : World} {e : Ending} (h : Post f r w e w') :
    Below w.heap.size w w' ∧ ((∃ s, r = .ok s ∧ e = .returned (f s)) ∨ (∃ c, r = .error c ∧ e = .panicked (nonev c))) := by
  refine ⟨h.1, ?_⟩
  have h2 := h.2
  cases r with
  | ok s => exact .inl ⟨s, rfl, h2⟩
  | error c => exact .inr ⟨c, rfl, h2⟩
theorem post_ok {α : Type} {f : α → Value} {r : En.R α} {s : α} {w w' : World} (hr : r = .ok s) (hb : Below w.heap.size w w') : Post f r w (.returned (f s)) w' := by
  subst hr; exact ⟨hb, rfl⟩
theorem post_err {α : Type} {f : α → Value} {r : En.R α} {c : Int} {w w' : World} (hr : r = .error c) (hb : Below w.heap.size w w') : Post f r w (.panicked (nonev c)) w' := by
  subst hr; exact ⟨hb, rfl⟩
abbrev spV (s : En.Sp) : Value := .agg #[.int .i64 s.lo, .int .i64 s.hi]
abbrev frV (f : En.Fr) : Value := .agg #[.bool f.neg, .int .u64 f.hi, .int .u64 f.lo, .int .u64 f.c]

theorem valid_true (lo hi : Int) (h : En.okS lo hi = true) (w : World) :
    Calls Try.prog 25 #[.agg #[.int .i64 lo, .int .i64 hi]] w fun e w' => e = .returned (.bool true) ∧ Below w.heap.size w w' := by
  simp only [En.okS, Bool.and_eq_true, decide_eq_true_eq] at h
  obtain ⟨⟨h1, h2⟩, h3⟩ := h
  go_enter Try.func25, Try.ntmps25
  go_wp2
  go_ret
  exact ⟨rfl, by go_grown⟩

theorem valid_false (lo hi : Int) (h : En.okS lo hi = false) (w : World) :
    Calls Try.prog 25 #[.agg #[.int .i64 lo, .int .i64 hi]] w fun e w' => e = .returned (.bool false) ∧ Below w.heap.size w w' := by
  have h' : ¬ -1099511627776 ≤ lo ∨ (-1099511627776 ≤ lo ∧ ¬ lo ≤ hi) ∨ (-1099511627776 ≤ lo ∧ lo ≤ hi ∧ ¬ hi ≤ 1099511627776) := by
    simp only [En.okS, Bool.and_eq_false_iff, decide_eq_false_iff_not] at h
    omega
  clear h
  rcases h' with h | ⟨h1, h⟩ | ⟨h1, h2, h⟩
  all_goals
    go_enter Try.func25, Try.ntmps25
    go_wp2
    go_ret
    exact ⟨rfl, by go_grown⟩

theorem valid_any (lo hi : Int) (w : World) :
    Calls Try.prog 25 #[.agg #[.int .i64 lo, .int .i64 hi]] w fun e w' => e = .returned (.bool (En.okS lo hi)) ∧ Below w.heap.size w w' := by
  cases h : En.okS lo hi with
  | true => exact valid_true lo hi h w
  | false => exact valid_false lo hi h w

theorem span_any (lo hi : Int) (w : World) :
    Calls Try.prog 119 #[.int .i64 lo, .int .i64 hi] w (Post spV (En.span lo hi) w) := by
  cases h : En.okS lo hi with
  | true =>
    have hs : En.span lo hi = .ok ⟨lo, hi⟩ := by simp [En.span, h]
    rw [hs]
    go_enter Try.func119, Try.ntmps119
    go_wp2_with (go_at_call 25; refine (valid_true lo hi h _).mono ?_; rintro e w1 ⟨rfl, hb⟩; obtain ⟨hc, hf⟩ := bcell hb; have bw1 : Below w.heap.size w w1 := below_next (by go_grown) hb)
    have B1 : Hd w1 w.heap.size 23 #[.int .i64 0, .int .i64 0] := Hd.call (by (repeat' (first | (with_reducible assumption) | (with_reducible refine Hd.new ?_; (try simp only [World.size_alloc, World.size_setCell, World.size_drew]); done) | with_reducible refine Hd.alloc ?_ _ | with_reducible refine Hd.drew ?_ | with_reducible refine Hd.drewN ?_ _ | with_reducible apply Hd.set' | (with_reducible refine Hd.far ?_ ?_ _; rotate_left; (simp; try omega; done)) | exact (rfl : Array.setIfInBounds _ _ _ = _)))) hb
    refine bodyPost_ret (run_results1 rfl rfl (by (show Hd _ (w.heap.size) 23 #[.int .i64 lo, .int .i64 hi]); (repeat' (first | (with_reducible assumption) | (with_reducible refine Hd.new ?_; (try simp only [World.size_alloc, World.size_setCell, World.size_drew]); done) | with_reducible refine Hd.alloc ?_ _ | with_reducible refine Hd.drew ?_ | with_reducible refine Hd.drewN ?_ _ | with_reducible apply Hd.set' | (with_reducible refine Hd.far ?_ ?_ _; rotate_left; (simp; try omega; done)) | exact (rfl : Array.setIfInBounds _ _ _ = _)))) Try.underlying23 rfl (by kernel_rfl)) rfl (post_ok rfl (by go_grown))
  | false =>
    have hs : En.span lo hi = .error 4 := by simp [En.span, h]
    rw [hs]
    go_enter Try.func119, Try.ntmps119
    go_wp2_with (go_at_call 25; refine (valid_false lo hi h _).mono ?_; rintro e w1 ⟨rfl, hb⟩; obtain ⟨hc, hf⟩ := bcell hb; have bw1 : Below w.heap.size w w1 := below_next (by go_grown) hb)
    exact ⟨rfl, post_err rfl (by go_grown)⟩

end Go.Proofs.Ytpbbbfglecbceaa
/- Package enclose: fractions. -/
namespace Go.Proofs.Ytpbbbfglecbceaa
set_option linter.all false
open Go.RowKit

theorem size_abs (n : Int) (h1 : -9223372036854775807 ≤ n) (h2 : n ≤ 9223372036854775807) (w : World) :
    Calls Try.prog 136 #[.int .i64 n] w fun e w' => e = .returned (.int .u64 (En.abs n)) ∧ w = w' := size_any n h1 h2 w

theorem or_zero (x : Int) (h0 : 0 ≤ x) (h1 : x < 340282366920938463463374607431768211456) :
    (bits .or .u64 (x / 18446744073709551616) (x % 18446744073709551616) == 0) = decide (x = 0) := by
  obtain ⟨n, rfl⟩ := Int.eq_ofNat_of_zero_le h0
  have e1 : (n : Int) / 18446744073709551616 = ((n / 18446744073709551616 : Nat) : Int) := by omega
  have e2 : (n : Int) % 18446744073709551616 = ((n % 18446744073709551616 : Nat) : Int) := by omega
  rw [e1, e2, bits_or_u64_nat _ _ (by omega) (by omega)]
  by_cases hz : n = 0
  · subst hz; decide
  · have hne : n / 18446744073709551616 ||| n % 18446744073709551616 ≠ 0 := by
      intro h
      have h2 := Nat.or_eq_zero_iff.1 h
      omega
    have : ((n / 18446744073709551616 ||| n % 18446744073709551616 : Nat) : Int) ≠ 0 := by omega
    rw [beq_eq_false_iff_ne.2 this]
    symm
    simp; omega

set_option maxHeartbeats 1000000 in
theorem over_any (a b c : Int) (ha : -9223372036854775807 ≤ a) (ha' : a ≤ 9223372036854775807) (hb : -9223372036854775807 ≤ b) (hb' : b ≤ 9223372036854775807)
    (hc1 : -9223372036854775807 ≤ c) (hc2 : c ≤ 9223372036854775807) (w : World) :
    Calls Try.prog 115 #[.int .i64 a, .int .i64 b, .int .i64 c] w fun e w' => e = .returned (frV (En.over a b c)) ∧ Below w.heap.size w w' := by
  have a0 := En.abs_nonneg a
  have b0 := En.abs_nonneg b
  have c0 := En.abs_nonneg c
  have a1 : En.abs a ≤ 9223372036854775807 := by unfold En.abs; split <;> omega
  have b1 : En.abs b ≤ 9223372036854775807 := by unfold En.abs; split <;> omega
  have x1 : En.abs a * En.abs b ≤ 9223372036854775807 * 9223372036854775807 := Int.mul_le_mul a1 b1 b0 (by omega)
  have x0 : 0 ≤ En.abs a * En.abs b := Int.mul_nonneg a0 b0
  have HO := or_zero (En.abs a * En.abs b) x0 (by omega)
  have ho : Hid (En.over a b c = { neg := ((decide (a < 0) != decide (b < 0)) != decide (c < 0)) && decide (En.abs a * En.abs b ≠ 0), hi := En.abs a * En.abs b / 18446744073709551616, lo := En.abs a * En.abs b % 18446744073709551616, c := En.abs c }) := rfl
  have ca := size_abs a ha ha'
  have cb := size_abs b hb hb'
  have cc := size_abs c hc1 hc2
  generalize hA : En.abs a = A at *
  generalize hB : En.abs b = B at *
  generalize hC : En.abs c = C at *
  have cm := mul64_any A B a0 (by omega) b0 (by omega)
  have CA := Lib.hid ca
  have CB := Lib.hid cb
  have CC := Lib.hid cc
  have CM := Lib.hid cm
  generalize A * B = X at *
  clear ca cb cc cm hA hB hC
  have hx0 : 0 ≤ X / 18446744073709551616 := by omega
  have hx1 : X / 18446744073709551616 ≤ 18446744073709551615 := by omega
  have hor0 : bits .or .u64 0 0 = 0 := by decide
  have HOR : X ≠ 0 → ¬ bits .or .u64 (X / 18446744073709551616) (X % 18446744073709551616) = 0 := fun hz h => by
    rw [h] at HO
    simp [hz] at HO
  have HOR' := Lib.hid HOR
  clear HOR
  obtain ⟨sa, hsa⟩ : ∃ s, decide (a < 0) = s := ⟨_, rfl⟩
  obtain ⟨sb, hsb⟩ : ∃ s, decide (b < 0) = s := ⟨_, rfl⟩
  obtain ⟨sc, hsc⟩ : ∃ s, decide (c < 0) = s := ⟨_, rfl⟩
  by_cases hz : X = 0
  case' pos => have hor1 : (bits .or .u64 0 0 == 0) = true := by decide
  case' neg => have hor1 : (bits .or .u64 (X / 18446744073709551616) (X % 18446744073709551616) == 0) = false := by rw [HO]; simpa using hz
  case' neg => have hor2 := HOR'.out hz
  all_goals
    rw [hsa, hsb, hsc] at ho
    clear HO HOR'
    cases sa <;> cases sb <;> cases sc
    all_goals
      go_enter Try.func115, Try.ntmps115
      go_wp2_with (first | (go_at_call_of 136 a; refine (CA.out _).mono ?_; rintro e w' ⟨rfl, rfl⟩) | (go_at_call_of 136 b; refine (CB.out _).mono ?_; rintro e w' ⟨rfl, rfl⟩) | (go_at_call_of 136 c; refine (CC.out _).mono ?_; rintro e w' ⟨rfl, rfl⟩) | (go_at_call 126; refine (CM.out _).mono ?_; rintro e w' ⟨rfl, rfl⟩))
      refine bodyPost_ret (run_results1 rfl rfl (by (show Hd _ (w.heap.size) 111 _); (repeat' (first | (with_reducible assumption) | (with_reducible refine Hd.new ?_; (try simp only [World.size_alloc, World.size_setCell, World.size_drew]); done) | with_reducible refine Hd.alloc ?_ _ | with_reducible refine Hd.drew ?_ | with_reducible refine Hd.drewN ?_ _ | with_reducible apply Hd.set' | (with_reducible refine Hd.far ?_ ?_ _; rotate_left; (simp; try omega; done)) | exact (rfl : Array.setIfInBounds _ _ _ = _)))) Try.underlying111 rfl (by kernel_rfl)) rfl ⟨by rw [ho.out]; simp [frV, *], by go_grown⟩

theorem whole_any (n : Bool) (h l c : Int) (h0 : 0 ≤ h) (h1 : h ≤ 18446744073709551615) (l0 : 0 ≤ l) (l1 : l ≤ 18446744073709551615) (c0 : 0 < c) (c1 : c ≤ 18446744073709551615) (w : World) :
    Calls Try.prog 145 #[.agg #[.bool n, .int .u64 h, .int .u64 l, .int .u64 c]] w fun e w' =>
      e = .returned (.tuple #[.int .i64 (⟨n, h, l, c⟩ : En.Fr).q, .bool (⟨n, h, l, c⟩ : En.Fr).exact]) ∧ Below w.heap.size w w' := by
  by_cases hc : c ≤ h
  · have hq : (⟨n, h, l, c⟩ : En.Fr).q = 4611686018427387904 := by simp [En.Fr.q, hc]
    have hx : (⟨n, h, l, c⟩ : En.Fr).exact = true := by simp [En.Fr.exact, hc]
    rw [hq, hx]
    clear hq hx
    go_enter Try.func145, Try.ntmps145
    go_wp2
    go_ret2
    exact ⟨rfl, by go_grown⟩
  · have hq : (⟨n, h, l, c⟩ : En.Fr).q = min ((h * 18446744073709551616 + l) / c) 4611686018427387904 := by simp [En.Fr.q, hc]
    have hx : (⟨n, h, l, c⟩ : En.Fr).exact = decide ((h * 18446744073709551616 + l) % c = 0) := by simp [En.Fr.exact, hc]
    rw [hq, hx]
    clear hq hx
    have D := Lib.hid (div64_any h l c h0 (by omega) c1 l0 l1)
    have q0 : 0 ≤ (h * 18446744073709551616 + l) / c := Int.ediv_nonneg (by omega) (by omega)
    have q1 : (h * 18446744073709551616 + l) / c ≤ 18446744073709551615 := by
      have : (h * 18446744073709551616 + l) / c < 18446744073709551616 := by
        rw [Int.ediv_lt_iff_lt_mul c0]
        have : (h + 1) * 18446744073709551616 ≤ c * 18446744073709551616 := Int.mul_le_mul_of_nonneg_right (by omega) (by omega)
        omega
      omega
    have r0 : 0 ≤ (h * 18446744073709551616 + l) % c := Int.emod_nonneg _ (by omega)
    have r1 : (h * 18446744073709551616 + l) % c < c := Int.emod_lt_of_pos _ c0
    generalize (h * 18446744073709551616 + l) / c = q at *
    generalize (h * 18446744073709551616 + l) % c = r at *
    go_enter Try.func145, Try.ntmps145
    go_wp2_with (go_at_call 148; refine (D.out _).mono ?_; rintro e w1 ⟨rfl, hb⟩; have bw1 : Below w.heap.size w w1 := below_next (by go_grown) hb)
    go_ret2
    exact ⟨rfl, bw1⟩

theorem floor_any (n : Bool) (h l c : Int) (h0 : 0 ≤ h) (h1 : h ≤ 18446744073709551615) (l0 : 0 ≤ l) (l1 : l ≤ 18446744073709551615) (c0 : 0 < c) (c1 : c ≤ 18446744073709551615) (w : World) :
    Calls Try.prog 134 #[.agg #[.bool n, .int .u64 h, .int .u64 l, .int .u64 c]] w fun e w' =>
      e = .returned (.int .i64 (⟨n, h, l, c⟩ : En.Fr).floor) ∧ Below w.heap.size w w' := by
  have W := Lib.hid (whole_any n h l c h0 h1 l0 l1 c0 c1)
  have hq := En.Fr.q_range (f := ⟨n, h, l, c⟩) ⟨h0, h1, l0, l1, c0, c1⟩
  have hf : Hid ((⟨n, h, l, c⟩ : En.Fr).floor = if n then (if (⟨n, h, l, c⟩ : En.Fr).exact then -(⟨n, h, l, c⟩ : En.Fr).q else -(⟨n, h, l, c⟩ : En.Fr).q - 1) else (⟨n, h, l, c⟩ : En.Fr).q) := rfl
  generalize (⟨n, h, l, c⟩ : En.Fr).floor = f at *
  generalize (⟨n, h, l, c⟩ : En.Fr).q = q at *
  generalize (⟨n, h, l, c⟩ : En.Fr).exact = x at *
  cases n <;> cases x
  all_goals
    go_enter Try.func134, Try.ntmps134
    go_wp2_with (go_at_call 145; refine (W.out _).mono ?_; rintro e w1 ⟨rfl, hb⟩; obtain ⟨hc, hf'⟩ := bcell hb; have bw1 : Below w.heap.size w w1 := below_next (by go_grown) hb)
    go_ret
    exact ⟨by rw [hf.out]; simp, bw1⟩

theorem ceil_any (n : Bool) (h l c : Int) (h0 : 0 ≤ h) (h1 : h ≤ 18446744073709551615) (l0 : 0 ≤ l) (l1 : l ≤ 18446744073709551615) (c0 : 0 < c) (c1 : c ≤ 18446744073709551615) (w : World) :
    Calls Try.prog 135 #[.agg #[.bool n, .int .u64 h, .int .u64 l, .int .u64 c]] w fun e w' =>
      e = .returned (.int .i64 (⟨n, h, l, c⟩ : En.Fr).ceil) ∧ Below w.heap.size w w' := by
  have W := Lib.hid (floor_any (!n) h l c h0 h1 l0 l1 c0 c1)
  have hq := En.Fr.floor_range (f := ⟨!n, h, l, c⟩) ⟨h0, h1, l0, l1, c0, c1⟩
  have hf : Hid ((⟨n, h, l, c⟩ : En.Fr).ceil = -(⟨!n, h, l, c⟩ : En.Fr).floor) := rfl
  generalize (⟨n, h, l, c⟩ : En.Fr).ceil = f at *
  generalize (⟨!n, h, l, c⟩ : En.Fr).floor = q at *
  go_enter Try.func135, Try.ntmps135
  go_wp2_with (go_at_call 134; refine (W.out _).mono ?_; rintro e w1 ⟨rfl, hb⟩; have bw1 : Below w.heap.size w w1 := below_next (by go_grown) hb)
  go_ret
  exact ⟨by rw [hf.out]; rfl, bw1⟩
end Go.Proofs.Ytpbbbfglecbceaa
/- Package enclose: the span of some fractions. -/
namespace Go.Proofs.Ytpbbbfglecbceaa
set_option linter.all false
open Go.RowKit

/-- A row of fractions at the head of block b. -/
structure FrRow (w : World) (b n : Nat) (f : Nat → En.Fr) : Prop where
  neg : ∀ i, i < n → w.cell? ⟨b, i * 4, none⟩ = some (.bool (f i).neg)
  hi : ∀ i, i < n → w.cell? ⟨b, i * 4 + 1, none⟩ = some (.int .u64 (f i).hi)
  lo : ∀ i, i < n → w.cell? ⟨b, i * 4 + 2, none⟩ = some (.int .u64 (f i).lo)
  c : ∀ i, i < n → w.cell? ⟨b, i * 4 + 3, none⟩ = some (.int .u64 (f i).c)

theorem around_go (b m : Nat) (f : Nat → En.Fr) (hm : m ≤ 8) (hwf : ∀ i, i < m + 2 → (f i).wf) (w : World) (hb : b < w.heap.size) (hr : FrRow w b (m + 2) f) :
    Calls Try.prog 114 #[.slice (some ⟨b, 0, none⟩) (m + 2) (m + 2)] w (Post spV (En.span (En.lowF f (m + 1)) (En.highF f (m + 1))) w) := by
  have n0 := hr.neg 0 (by omega)
  have hi0 := hr.hi 0 (by omega)
  have lo0 := hr.lo 0 (by omega)
  have c0 := hr.c 0 (by omega)
  simp only [Nat.zero_mul, Nat.zero_add] at n0 hi0 lo0 c0
  have hm0 : (0 : Int) < (m : Int) + 2 := by omega
  have HR := Lib.hid hr
  have wf0 := hwf 0 (by omega)
  have F := Lib.hid (floor_any (f 0).neg (f 0).hi (f 0).lo (f 0).c wf0.h0 wf0.h1 wf0.l0 wf0.l1 wf0.c0 wf0.c1)
  have G := Lib.hid (ceil_any (f 0).neg (f 0).hi (f 0).lo (f 0).c wf0.h0 wf0.h1 wf0.l0 wf0.l1 wf0.c0 wf0.c1)
  clear wf0
  have HW := Lib.hid hwf
  clear hr hwf
  go_enter Try.func114, Try.ntmps114
  go_wp2
  have HB0 : Hd (w.alloc (.cells #[.int .i64 0, .int .i64 0] 23)).drew w.heap.size 23 #[.int .i64 0, .int .i64 0] := by (repeat' (first | (with_reducible assumption) | (with_reducible refine Hd.new ?_; (try simp only [World.size_alloc, World.size_setCell, World.size_drew]); done) | with_reducible refine Hd.alloc ?_ _ | with_reducible refine Hd.drew ?_ | with_reducible refine Hd.drewN ?_ _ | with_reducible apply Hd.set' | (with_reducible refine Hd.far ?_ ?_ _; rotate_left; (simp; try omega; done)) | exact (rfl : Array.setIfInBounds _ _ _ = _)))
  (refine wp_region_eag (fun w' => Hd w' w.heap.size 23 #[.int .i64 0, .int .i64 0] ∧ Below w.heap.size w w') [(0, true), (1, true), (2, true), (4, true), (5, true), (6, true), (3, false), (7, false), (8, true), (9, true)] (by kernel_rfl) (by kernel_rfl) (fun c d v a w h => by cases d <;> exact h) ⟨HB0, by go_grown⟩ ?_; simp only [List.map_cons, List.map_nil, List.getD_cons_zero, List.getD_cons_succ, flMark, Nat.reduceEqDiff, ↓reduceIte])
  repeat ((first | with_reducible apply eag_move | with_reducible apply eag_assign | ((with_reducible refine eag_soft (v := ?_) (fun w' hw' => ?_) ?_); rotate_left 1; (focus (obtain ⟨hH, hBw⟩ := hw'; obtain ⟨hc, hf⟩ := bcell hBw; go_simp; (try with_reducible rfl); done)))); simp only [Act.put, Act.eval, qs])
  refine eag_hard ?_
  go_wp2_with (go_at_call 134; refine (F.out _).mono ?_; rintro e w1 ⟨rfl, hb1⟩; have bw1 : Below w.heap.size w w1 := below_next (by go_grown) hb1)
  refine ⟨⟨HB0.call hb1, bw1⟩, ?_⟩
  repeat ((first | with_reducible apply eag_move | with_reducible apply eag_assign | ((with_reducible refine eag_soft (v := ?_) (fun w' hw' => ?_) ?_); rotate_left 1; (focus (obtain ⟨hH, hBw⟩ := hw'; obtain ⟨hc, hf⟩ := bcell hBw; go_simp; (try with_reducible rfl); done)))); simp only [Act.put, Act.eval, qs])
  refine eag_hard ?_
  go_wp2_with (go_at_call 135; refine (G.out _).mono ?_; rintro e w2 ⟨rfl, hb2⟩; have bw2 : Below w.heap.size w w2 := below_next (by go_grown) hb2)
  refine ⟨⟨(HB0.call hb1).call hb2, bw2⟩, ?_⟩
  have HB2 := (HB0.call hb1).call hb2
  clear HB0 hb1 hb2 bw1 F G
  repeat ((first | with_reducible apply eag_move | with_reducible apply eag_assign | ((with_reducible refine eag_soft (v := ?_) (fun w' hw' => ?_) ?_); rotate_left 1; (focus (obtain ⟨hH, hBw⟩ := hw'; obtain ⟨hc, hf⟩ := bcell hBw; go_simp; (try with_reducible rfl); done)))); simp only [Act.put, Act.eval, qs])
  refine eag_nil ?_
  go_wp2
  go_loopw [3, 4, 18] (fun lo hi k wr => ∃ i : Nat, i ≤ m + 1 ∧ k = .int .i64 i ∧ lo = .int .i64 (En.lowF f i) ∧ hi = .int .i64 (En.highF f i) ∧ Below w.heap.size w wr ∧ Hd wr w.heap.size 23 #[.int .i64 0, .int .i64 0])
    (fun _ _ k _ => m + 1 - (intOf k).toNat)
  case atStart => exact ⟨0, by omega, rfl, rfl, rfl, bw2, HB2⟩
  case round =>
    obtain ⟨i, hi, rfl, rfl, rfl, hbr, hdr⟩ := hrel
    clear HB2 bw2
    by_cases hlt : i < m + 1
    · have hlt' : (i : Int) < (m : Int) + 1 := by omega
      have e4 : (i + 1) * 4 = 4 + i * 4 := by omega
      have r0 := HR.out.neg (i + 1) (by omega)
      have r1 := HR.out.hi (i + 1) (by omega)
      have r2 := HR.out.lo (i + 1) (by omega)
      have r3 := HR.out.c (i + 1) (by omega)
      rw [e4, ← hbr.cell hb] at r0 r1 r2 r3
      have wfi := HW.out (i + 1) (by omega)
      have hlo : Hid (En.lowF f (i + 1) = min (En.lowF f i) (f (i + 1)).floor) := rfl
      have hhi : Hid (En.highF f (i + 1) = max (En.highF f i) (f (i + 1)).ceil) := rfl
      have F := Lib.hid (floor_any (f (i + 1)).neg (f (i + 1)).hi (f (i + 1)).lo (f (i + 1)).c wfi.h0 wfi.h1 wfi.l0 wfi.l1 wfi.c0 wfi.c1)
      have G := Lib.hid (ceil_any (f (i + 1)).neg (f (i + 1)).hi (f (i + 1)).lo (f (i + 1)).c wfi.h0 wfi.h1 wfi.l0 wfi.l1 wfi.c0 wfi.c1)
      clear wfi e4
      have lw : w.heap.size < wr.heap.size := hdr.lt
      go_wp2
      have HB0 : Hd (wr.alloc (.cells #[.bool (f (i + 1)).neg, .int .u64 (f (i + 1)).hi, .int .u64 (f (i + 1)).lo, .int .u64 (f (i + 1)).c] 111)).drew w.heap.size 23 #[.int .i64 0, .int .i64 0] := by (repeat' (first | (with_reducible assumption) | (with_reducible refine Hd.new ?_; (try simp only [World.size_alloc, World.size_setCell, World.size_drew]); done) | with_reducible refine Hd.alloc ?_ _ | with_reducible refine Hd.drew ?_ | with_reducible refine Hd.drewN ?_ _ | with_reducible apply Hd.set' | (with_reducible refine Hd.far ?_ ?_ _; rotate_left; (simp; try omega; done)) | exact (rfl : Array.setIfInBounds _ _ _ = _)))
      have HC0 : Hd (wr.alloc (.cells #[.bool (f (i + 1)).neg, .int .u64 (f (i + 1)).hi, .int .u64 (f (i + 1)).lo, .int .u64 (f (i + 1)).c] 111)).drew wr.heap.size 111 #[.bool (f (i + 1)).neg, .int .u64 (f (i + 1)).hi, .int .u64 (f (i + 1)).lo, .int .u64 (f (i + 1)).c] := by (repeat' (first | (with_reducible assumption) | (with_reducible refine Hd.new ?_; (try simp only [World.size_alloc, World.size_setCell, World.size_drew]); done) | with_reducible refine Hd.alloc ?_ _ | with_reducible refine Hd.drew ?_ | with_reducible refine Hd.drewN ?_ _ | with_reducible apply Hd.set' | (with_reducible refine Hd.far ?_ ?_ _; rotate_left; (simp; try omega; done)) | exact (rfl : Array.setIfInBounds _ _ _ = _)))
      clear r0 r1 r2 r3
      have bwr : Below w.heap.size w wr := hbr
      have lwr : w.heap.size ≤ wr.heap.size := hbr.size
      (refine wp_region_eag (fun w' => Hd w' w.heap.size 23 #[.int .i64 0, .int .i64 0] ∧ Hd w' wr.heap.size 111 #[.bool (f (i + 1)).neg, .int .u64 (f (i + 1)).hi, .int .u64 (f (i + 1)).lo, .int .u64 (f (i + 1)).c] ∧ Below w.heap.size w w') [(0, true), (1, true), (4, true), (5, true), (2, false), (3, true), (6, false), (7, true), (8, true), (9, true)] (by kernel_rfl) (by kernel_rfl) (fun c d v a w h => by cases d <;> exact h) ⟨HB0, HC0, by go_grown⟩ ?_; simp only [List.map_cons, List.map_nil, List.getD_cons_zero, List.getD_cons_succ, flMark, Nat.reduceEqDiff, ↓reduceIte])
      repeat ((first | with_reducible apply eag_move | with_reducible apply eag_assign | ((with_reducible refine eag_soft (v := ?_) (fun w' hw' => ?_) ?_); rotate_left 1; (focus (obtain ⟨hH, hC, hBw⟩ := hw'; obtain ⟨hc, hf⟩ := hC.facts; go_simp; (try with_reducible rfl); done)))); simp only [Act.put, Act.eval, qs])
      refine eag_hard ?_
      go_wp2_with (go_at_call 134; refine (F.out _).mono ?_; rintro e w3 ⟨rfl, hb3⟩; have bw3 : Below w.heap.size w w3 := below_next (by go_grown) hb3)
      refine ⟨⟨HB0.call hb3, HC0.call hb3, bw3⟩, ?_⟩
      repeat ((first | with_reducible apply eag_move | with_reducible apply eag_assign | ((with_reducible refine eag_soft (v := ?_) (fun w' hw' => ?_) ?_); rotate_left 1; (focus (obtain ⟨hH, hC, hBw⟩ := hw'; obtain ⟨hc, hf⟩ := hC.facts; go_simp; (try with_reducible rfl); done)))); simp only [Act.put, Act.eval, qs])
      refine eag_hard ?_
      go_wp2_with (go_at_call 135; refine (G.out _).mono ?_; rintro e w4 ⟨rfl, hb4⟩; have bw4 : Below w.heap.size w w4 := below_next (by go_grown) hb4)
      refine ⟨⟨(HB0.call hb3).call hb4, (HC0.call hb3).call hb4, bw4⟩, ?_⟩
      have HB4 := (HB0.call hb3).call hb4
      clear HB0 HC0 hb3 hb4 bw3 F G
      repeat ((first | with_reducible apply eag_move | with_reducible apply eag_assign | ((with_reducible refine eag_soft (v := ?_) (fun w' hw' => ?_) ?_); rotate_left 1; (focus (obtain ⟨hH, hC, hBw⟩ := hw'; obtain ⟨hc, hf⟩ := hC.facts; go_simp; (try with_reducible rfl); done)))); simp only [Act.put, Act.eval, qs])
      refine eag_nil ?_
      go_wp2
      go_roundw
      case rel => exact ⟨i + 1, by omega, by go_num, by rw [hlo.out], by rw [hhi.out], bw4, HB4⟩
      case measure => simp [intOf]; omega
    · have hlt' : ¬ (i : Int) < (m : Int) + 1 := by omega
      obtain rfl : i = m + 1 := by omega
      go_wp2_with fail
      refine (span_any _ _ _).mono ?_
      intro e w3 hp
      obtain ⟨hb3, hcase⟩ := hp.cases
      have bw3 : Below w.heap.size w w3 := below_next hbr hb3
      have HB3 := hdr.call hb3
      rcases hcase with ⟨s, hs, rfl⟩ | ⟨c, hs, rfl⟩
      · obtain ⟨hc3, hf3⟩ := HB3.facts
        go_wp2
        refine bodyPost_ret (run_results1 rfl rfl (by (show Hd _ (w.heap.size) 23 #[.int .i64 s.lo, .int .i64 s.hi]); (repeat' (first | (with_reducible assumption) | (with_reducible refine Hd.new ?_; (try simp only [World.size_alloc, World.size_setCell, World.size_drew]); done) | with_reducible refine Hd.alloc ?_ _ | with_reducible refine Hd.drew ?_ | with_reducible refine Hd.drewN ?_ _ | with_reducible apply Hd.set' | (with_reducible refine Hd.far ?_ ?_ _; rotate_left; (simp; try omega; done)) | exact (rfl : Array.setIfInBounds _ _ _ = _)))) Try.underlying23 rfl (by kernel_rfl)) rfl (post_ok hs (by go_grown))
      · exact ⟨rfl, post_err hs (by go_grown)⟩
end Go.Proofs.Ytpbbbfglecbceaa
/- Package enclose: the operations on spans. -/
namespace Go.Proofs.Ytpbbbfglecbceaa
set_option linter.all false
open Go.RowKit

theorem frRow4 {w : World} {b t : Nat} {A B C D : En.Fr} (h : Hd w b t #[.bool A.neg, .int .u64 A.hi, .int .u64 A.lo, .int .u64 A.c, .bool B.neg, .int .u64 B.hi, .int .u64 B.lo, .int .u64 B.c,
    .bool C.neg, .int .u64 C.hi, .int .u64 C.lo, .int .u64 C.c, .bool D.neg, .int .u64 D.hi, .int .u64 D.lo, .int .u64 D.c]) : FrRow w b 4 (En.fr4 A B C D) := by
  constructor <;> intro i hi <;> rw [h.cell] <;> (have hi' : i = 0 ∨ i = 1 ∨ i = 2 ∨ i = 3 := by omega) <;> rcases hi' with rfl | rfl | rfl | rfl <;> rfl
theorem frRow2 {w : World} {b t : Nat} {A B : En.Fr} (h : Hd w b t #[.bool A.neg, .int .u64 A.hi, .int .u64 A.lo, .int .u64 A.c, .bool B.neg, .int .u64 B.hi, .int .u64 B.lo, .int .u64 B.c]) :
    FrRow w b 2 (En.fr2 A B) := by
  constructor <;> intro i hi <;> rw [h.cell] <;> (have hi' : i = 0 ∨ i = 1 := by omega) <;> rcases hi' with rfl | rfl <;> rfl
theorem wf4 {A B C D : En.Fr} (a : A.wf) (b : B.wf) (c : C.wf) (d : D.wf) : ∀ i, i < 2 + 2 → (En.fr4 A B C D i).wf := by
  intro i hi
  have hi' : i = 0 ∨ i = 1 ∨ i = 2 ∨ i = 3 := by omega
  rcases hi' with rfl | rfl | rfl | rfl <;> assumption
theorem wf2 {A B : En.Fr} (a : A.wf) (b : B.wf) : ∀ i, i < 0 + 2 → (En.fr2 A B i).wf := by
  intro i hi
  have hi' : i = 0 ∨ i = 1 := by omega
  rcases hi' with rfl | rfl <;> assumption
theorem around4_any (A B C D : En.Fr) (a : A.wf) (b : B.wf) (c : C.wf) (d : D.wf) (g t : Nat) (w : World) (h : Hd w g t #[.bool A.neg, .int .u64 A.hi, .int .u64 A.lo, .int .u64 A.c, .bool B.neg, .int .u64 B.hi, .int .u64 B.lo, .int .u64 B.c,
    .bool C.neg, .int .u64 C.hi, .int .u64 C.lo, .int .u64 C.c, .bool D.neg, .int .u64 D.hi, .int .u64 D.lo, .int .u64 D.c]) :
    Calls Try.prog 114 #[.slice (some ⟨g, 0, none⟩) 4 4] w (Post spV (En.around4 A B C D) w) :=
  around_go g 2 (En.fr4 A B C D) (by omega) (wf4 a b c d) w h.lt (frRow4 h)
theorem around2_any (A B : En.Fr) (a : A.wf) (b : B.wf) (g t : Nat) (w : World) (h : Hd w g t #[.bool A.neg, .int .u64 A.hi, .int .u64 A.lo, .int .u64 A.c, .bool B.neg, .int .u64 B.hi, .int .u64 B.lo, .int .u64 B.c]) :
    Calls Try.prog 114 #[.slice (some ⟨g, 0, none⟩) 2 2] w (Post spV (En.span (En.lowF (En.fr2 A B) 1) (En.highF (En.fr2 A B) 1)) w) :=
  around_go g 0 (En.fr2 A B) (by omega) (wf2 a b) w h.lt (frRow2 h)

theorem add_any (s t : En.Sp) (hs : s.fit) (ht : t.fit) (w : World) : Calls Try.prog 92 #[spV s, spV t] w (Post spV (En.add s t) w) := by
  obtain ⟨a, b⟩ := s
  obtain ⟨c, d⟩ := t
  obtain ⟨a1, a2, b1, b2⟩ := hs
  obtain ⟨c1, c2, d1, d2⟩ := ht
  dsimp only at a1 a2 b1 b2 c1 c2 d1 d2
  go_enter Try.func92, Try.ntmps92
  go_wp2_with fail
  refine (span_any _ _ _).mono ?_
  intro e w1 hp
  obtain ⟨hb1, hcase⟩ := hp.cases
  have bw1 : Below w.heap.size w w1 := below_next (by go_grown) hb1
  have HB1 : Hd w1 (w.heap.size + 2) 23 #[.int .i64 0, .int .i64 0] := Hd.call (by exact hdx) hb1
  rcases hcase with ⟨s, hs, rfl⟩ | ⟨c, hs, rfl⟩
  · obtain ⟨hc1, hf1⟩ := HB1.facts
    go_wp2
    refine bodyPost_ret (run_results1 rfl rfl (by (show Hd _ (w.heap.size + 2) 23 #[.int .i64 s.lo, .int .i64 s.hi]); exact hdx) Try.underlying23 rfl (by kernel_rfl)) rfl (post_ok hs (by go_grown))
  · exact ⟨rfl, post_err hs (by go_grown)⟩

theorem sub_any (s t : En.Sp) (hs : s.fit) (ht : t.fit) (w : World) : Calls Try.prog 110 #[spV s, spV t] w (Post spV (En.sub s t) w) := by
  obtain ⟨a, b⟩ := s
  obtain ⟨c, d⟩ := t
  obtain ⟨a1, a2, b1, b2⟩ := hs
  obtain ⟨c1, c2, d1, d2⟩ := ht
  dsimp only at a1 a2 b1 b2 c1 c2 d1 d2
  go_enter Try.func110, Try.ntmps110
  go_wp2_with fail
  refine (span_any _ _ _).mono ?_
  intro e w1 hp
  obtain ⟨hb1, hcase⟩ := hp.cases
  have bw1 : Below w.heap.size w w1 := below_next (by go_grown) hb1
  have HB1 : Hd w1 (w.heap.size + 2) 23 #[.int .i64 0, .int .i64 0] := Hd.call (by exact hdx) hb1
  rcases hcase with ⟨s, hs, rfl⟩ | ⟨c, hs, rfl⟩
  · obtain ⟨hc1, hf1⟩ := HB1.facts
    go_wp2
    refine bodyPost_ret (run_results1 rfl rfl (by (show Hd _ (w.heap.size + 2) 23 #[.int .i64 s.lo, .int .i64 s.hi]); exact hdx) Try.underlying23 rfl (by kernel_rfl)) rfl (post_ok hs (by go_grown))
  · exact ⟨rfl, post_err hs (by go_grown)⟩

theorem half_any (s : En.Sp) (hs : s.fit) (w : World) : Calls Try.prog 109 #[spV s] w (Post spV (En.half s) w) := by
  obtain ⟨a, b⟩ := s
  obtain ⟨a1, a2, b1, b2⟩ := hs
  dsimp only at a1 a2 b1 b2
  go_enter Try.func109, Try.ntmps109
  go_wp2_with fail
  refine (span_any _ _ _).mono ?_
  intro e w1 hp
  obtain ⟨hb1, hcase⟩ := hp.cases
  have bw1 : Below w.heap.size w w1 := below_next (by go_grown) hb1
  have HB1 : Hd w1 (w.heap.size + 1) 23 #[.int .i64 0, .int .i64 0] := Hd.call (by exact hdx) hb1
  rcases hcase with ⟨s, hs, rfl⟩ | ⟨c, hs, rfl⟩
  · obtain ⟨hc1, hf1⟩ := HB1.facts
    go_wp2
    refine bodyPost_ret (run_results1 rfl rfl (by (show Hd _ (w.heap.size + 1) 23 #[.int .i64 s.lo, .int .i64 s.hi]); exact hdx) Try.underlying23 rfl (by kernel_rfl)) rfl (post_ok hs (by go_grown))
  · exact ⟨rfl, post_err hs (by go_grown)⟩

theorem mul_any (s t : En.Sp) (hs : s.fit) (ht : t.fit) (w : World) : Calls Try.prog 116 #[spV s, spV t] w (Post spV (En.mul s t) w) := by
  obtain ⟨a, b⟩ := s
  obtain ⟨c, d⟩ := t
  obtain ⟨a1, a2, b1, b2⟩ := hs
  obtain ⟨c1, c2, d1, d2⟩ := ht
  dsimp only at a1 a2 b1 b2 c1 c2 d1 d2
  go_enter Try.func116, Try.ntmps116
  go_wp2
  have K0 : Hd ((((w.alloc (.cells #[.int .i64 a, .int .i64 b] 23)).alloc (.cells #[.int .i64 c, .int .i64 d] 23)).alloc (.cells #[.int .i64 0, .int .i64 0] 23)).drew) w.heap.size 23 #[.int .i64 a, .int .i64 b] ∧ Hd ((((w.alloc (.cells #[.int .i64 a, .int .i64 b] 23)).alloc (.cells #[.int .i64 c, .int .i64 d] 23)).alloc (.cells #[.int .i64 0, .int .i64 0] 23)).drew) (w.heap.size + 1) 23 #[.int .i64 c, .int .i64 d] ∧
    Hd ((((w.alloc (.cells #[.int .i64 a, .int .i64 b] 23)).alloc (.cells #[.int .i64 c, .int .i64 d] 23)).alloc (.cells #[.int .i64 0, .int .i64 0] 23)).drew) (w.heap.size + 2) 23 #[.int .i64 0, .int .i64 0] ∧ Below w.heap.size w ((((w.alloc (.cells #[.int .i64 a, .int .i64 b] 23)).alloc (.cells #[.int .i64 c, .int .i64 d] 23)).alloc (.cells #[.int .i64 0, .int .i64 0] 23)).drew) := ⟨by exact hdx, by exact hdx, by exact hdx, by go_grown⟩
  (refine wp_region_eag (fun w' => Hd w' w.heap.size 23 #[.int .i64 a, .int .i64 b] ∧ Hd w' (w.heap.size + 1) 23 #[.int .i64 c, .int .i64 d] ∧ Below w.heap.size w w') [(0, true), (1, true), (2, true), (3, true), (5, true), (6, true), (7, true), (8, true), (10, true), (11, true), (12, true), (13, true), (15, true), (16, true), (17, true), (18, true), (4, false), (9, false), (14, false), (19, false), (20, false), (21, false), (22, false)] (by kernel_rfl) (by kernel_rfl) (fun c d v a w h => by cases d <;> exact h) ⟨K0.1, K0.2.1, K0.2.2.2⟩ ?_; simp only [List.map_cons, List.map_nil, List.getD_cons_zero, List.getD_cons_succ, flMark, Nat.reduceEqDiff, ↓reduceIte])
  repeat ((first | with_reducible apply eag_move | with_reducible apply eag_assign | ((with_reducible refine eag_soft (v := ?_) (fun w' hw' => ?_) ?_); rotate_left 1; (focus (obtain ⟨hA, hB, hBw⟩ := hw'; obtain ⟨hc1, hf1⟩ := hA.facts; obtain ⟨hc2, hf2⟩ := hB.facts; go_simp; (try with_reducible rfl); done)))); simp only [Act.put, Act.eval, qs])
  have bw0 := K0.2.2.2
  refine eag_hard ?_
  go_wp2_with (go_at_call 115; refine (over_any a c 1073741824 (by omega) (by omega) (by omega) (by omega) (by omega) (by omega) _).mono ?_; rintro e w1 ⟨rfl, hb1⟩; have bw1 : Below w.heap.size w w1 := below_next (by go_grown) hb1)
  have K1 := And.intro (K0.1.call hb1) (And.intro (K0.2.1.call hb1) (And.intro (K0.2.2.1.call hb1) bw1))
  refine ⟨⟨K1.1, K1.2.1, K1.2.2.2⟩, ?_⟩
  clear K0 hb1 bw0
  refine eag_hard ?_
  go_wp2_with (go_at_call 115; refine (over_any a d 1073741824 (by omega) (by omega) (by omega) (by omega) (by omega) (by omega) _).mono ?_; rintro e w2 ⟨rfl, hb2⟩; have bw2 : Below w.heap.size w w2 := below_next (by go_grown) hb2)
  have K2 := And.intro (K1.1.call hb2) (And.intro (K1.2.1.call hb2) (And.intro (K1.2.2.1.call hb2) bw2))
  refine ⟨⟨K2.1, K2.2.1, K2.2.2.2⟩, ?_⟩
  clear K1 hb2 bw1
  refine eag_hard ?_
  go_wp2_with (go_at_call 115; refine (over_any b c 1073741824 (by omega) (by omega) (by omega) (by omega) (by omega) (by omega) _).mono ?_; rintro e w3 ⟨rfl, hb3⟩; have bw3 : Below w.heap.size w w3 := below_next (by go_grown) hb3)
  have K3 := And.intro (K2.1.call hb3) (And.intro (K2.2.1.call hb3) (And.intro (K2.2.2.1.call hb3) bw3))
  refine ⟨⟨K3.1, K3.2.1, K3.2.2.2⟩, ?_⟩
  clear K2 hb3 bw2
  refine eag_hard ?_
  go_wp2_with (go_at_call 115; refine (over_any b d 1073741824 (by omega) (by omega) (by omega) (by omega) (by omega) (by omega) _).mono ?_; rintro e w4 ⟨rfl, hb4⟩; have bw4 : Below w.heap.size w w4 := below_next (by go_grown) hb4)
  have K4 := And.intro (K3.1.call hb4) (And.intro (K3.2.1.call hb4) (And.intro (K3.2.2.1.call hb4) bw4))
  refine ⟨⟨K4.1, K4.2.1, K4.2.2.2⟩, ?_⟩
  clear K3 hb4 bw3
  refine eag_hard ?_
  go_wp2_with fail
  obtain ⟨J1, J2, J3, bw4⟩ := K4
  have lw4 : w.heap.size ≤ w4.heap.size := bw4.size
  refine ⟨⟨by exact hdx, by exact hdx, by go_grown⟩, ?_⟩
  have HF : Hd (w4.alloc (.cells #[.bool (En.over a c 1073741824).neg, .int .u64 (En.over a c 1073741824).hi, .int .u64 (En.over a c 1073741824).lo, .int .u64 (En.over a c 1073741824).c, .bool (En.over a d 1073741824).neg, .int .u64 (En.over a d 1073741824).hi, .int .u64 (En.over a d 1073741824).lo, .int .u64 (En.over a d 1073741824).c, .bool (En.over b c 1073741824).neg, .int .u64 (En.over b c 1073741824).hi, .int .u64 (En.over b c 1073741824).lo, .int .u64 (En.over b c 1073741824).c, .bool (En.over b d 1073741824).neg, .int .u64 (En.over b d 1073741824).hi, .int .u64 (En.over b d 1073741824).lo, .int .u64 (En.over b d 1073741824).c] 111)) w4.heap.size 111 #[.bool (En.over a c 1073741824).neg, .int .u64 (En.over a c 1073741824).hi, .int .u64 (En.over a c 1073741824).lo, .int .u64 (En.over a c 1073741824).c, .bool (En.over a d 1073741824).neg, .int .u64 (En.over a d 1073741824).hi, .int .u64 (En.over a d 1073741824).lo, .int .u64 (En.over a d 1073741824).c, .bool (En.over b c 1073741824).neg, .int .u64 (En.over b c 1073741824).hi, .int .u64 (En.over b c 1073741824).lo, .int .u64 (En.over b c 1073741824).c, .bool (En.over b d 1073741824).neg, .int .u64 (En.over b d 1073741824).hi, .int .u64 (En.over b d 1073741824).lo, .int .u64 (En.over b d 1073741824).c] := hdx
  have J1' := J1.alloc (.cells #[.bool (En.over a c 1073741824).neg, .int .u64 (En.over a c 1073741824).hi, .int .u64 (En.over a c 1073741824).lo, .int .u64 (En.over a c 1073741824).c, .bool (En.over a d 1073741824).neg, .int .u64 (En.over a d 1073741824).hi, .int .u64 (En.over a d 1073741824).lo, .int .u64 (En.over a d 1073741824).c, .bool (En.over b c 1073741824).neg, .int .u64 (En.over b c 1073741824).hi, .int .u64 (En.over b c 1073741824).lo, .int .u64 (En.over b c 1073741824).c, .bool (En.over b d 1073741824).neg, .int .u64 (En.over b d 1073741824).hi, .int .u64 (En.over b d 1073741824).lo, .int .u64 (En.over b d 1073741824).c] 111)
  have J2' := J2.alloc (.cells #[.bool (En.over a c 1073741824).neg, .int .u64 (En.over a c 1073741824).hi, .int .u64 (En.over a c 1073741824).lo, .int .u64 (En.over a c 1073741824).c, .bool (En.over a d 1073741824).neg, .int .u64 (En.over a d 1073741824).hi, .int .u64 (En.over a d 1073741824).lo, .int .u64 (En.over a d 1073741824).c, .bool (En.over b c 1073741824).neg, .int .u64 (En.over b c 1073741824).hi, .int .u64 (En.over b c 1073741824).lo, .int .u64 (En.over b c 1073741824).c, .bool (En.over b d 1073741824).neg, .int .u64 (En.over b d 1073741824).hi, .int .u64 (En.over b d 1073741824).lo, .int .u64 (En.over b d 1073741824).c] 111)
  have J3' := J3.alloc (.cells #[.bool (En.over a c 1073741824).neg, .int .u64 (En.over a c 1073741824).hi, .int .u64 (En.over a c 1073741824).lo, .int .u64 (En.over a c 1073741824).c, .bool (En.over a d 1073741824).neg, .int .u64 (En.over a d 1073741824).hi, .int .u64 (En.over a d 1073741824).lo, .int .u64 (En.over a d 1073741824).c, .bool (En.over b c 1073741824).neg, .int .u64 (En.over b c 1073741824).hi, .int .u64 (En.over b c 1073741824).lo, .int .u64 (En.over b c 1073741824).c, .bool (En.over b d 1073741824).neg, .int .u64 (En.over b d 1073741824).hi, .int .u64 (En.over b d 1073741824).lo, .int .u64 (En.over b d 1073741824).c] 111)
  have bw4' : Below w.heap.size w (w4.alloc (.cells #[.bool (En.over a c 1073741824).neg, .int .u64 (En.over a c 1073741824).hi, .int .u64 (En.over a c 1073741824).lo, .int .u64 (En.over a c 1073741824).c, .bool (En.over a d 1073741824).neg, .int .u64 (En.over a d 1073741824).hi, .int .u64 (En.over a d 1073741824).lo, .int .u64 (En.over a d 1073741824).c, .bool (En.over b c 1073741824).neg, .int .u64 (En.over b c 1073741824).hi, .int .u64 (En.over b c 1073741824).lo, .int .u64 (En.over b c 1073741824).c, .bool (En.over b d 1073741824).neg, .int .u64 (En.over b d 1073741824).hi, .int .u64 (En.over b d 1073741824).lo, .int .u64 (En.over b d 1073741824).c] 111)) := by go_grown
  refine eag_hard ?_
  go_wp2_with fail
  refine (around4_any (En.over a c 1073741824) (En.over a d 1073741824) (En.over b c 1073741824) (En.over b d 1073741824) (by apply En.over_wf <;> omega) (by apply En.over_wf <;> omega) (by apply En.over_wf <;> omega) (by apply En.over_wf <;> omega) _ _ _ HF).mono ?_
  intro e w5 hp
  obtain ⟨hb5, hcase⟩ := hp.cases
  have bw5 : Below w.heap.size w w5 := below_next bw4' hb5
  have J5 := J3'.call hb5
  have J15 := J1'.call hb5
  have J25 := J2'.call hb5
  clear J1' J2' J3' hb5 bw4' HF J1 J2 J3 hp
  rcases hcase with ⟨s, hs, rfl⟩ | ⟨c, hs, rfl⟩
  · go_wp2_with fail
    refine ⟨⟨J15, J25, bw5⟩, ?_⟩
    refine eag_hard ?_
    obtain ⟨hc5, hf5⟩ := J5.facts
    go_wp2_with fail
    refine ⟨⟨by exact hdx, by exact hdx, by go_grown⟩, ?_⟩
    refine eag_nil ?_
    go_wp2
    refine bodyPost_ret (run_results1 rfl rfl (by (show Hd _ (w.heap.size + 2) 23 #[.int .i64 s.lo, .int .i64 s.hi]); exact hdx) Try.underlying23 rfl (by kernel_rfl)) rfl (post_ok hs (by go_grown))
  · exact ⟨rfl, post_err hs (by go_grown)⟩

theorem div_any (s t : En.Sp) (hs : s.fit) (ht : t.ok = true) (w : World) : Calls Try.prog 118 #[spV s, spV t] w (Post spV (En.div s t) w) := by
  have htc := En.Sp.le_of_ok ht
  replace ht := En.Sp.fit_of_ok ht
  obtain ⟨a, b⟩ := s
  obtain ⟨c, d⟩ := t
  obtain ⟨a1, a2, b1, b2⟩ := hs
  obtain ⟨c1, c2, d1, d2⟩ := ht
  dsimp only at htc a1 a2 b1 b2 c1 c2 d1 d2
  go_enter Try.func118, Try.ntmps118
  by_cases hz : c ≤ 0
  · by_cases hz' : 0 ≤ d
    · go_wp2_with fail
      exact ⟨rfl, post_err (if_pos ⟨hz, hz'⟩) (by go_grown)⟩
    · have hcd : ¬ (c ≤ 0 ∧ 0 ≤ d) := fun h => hz' h.2
      go_wp2
      have K0 : Hd ((((w.alloc (.cells #[.int .i64 a, .int .i64 b] 23)).alloc (.cells #[.int .i64 c, .int .i64 d] 23)).alloc (.cells #[.int .i64 0, .int .i64 0] 23)).drew) w.heap.size 23 #[.int .i64 a, .int .i64 b] ∧ Hd ((((w.alloc (.cells #[.int .i64 a, .int .i64 b] 23)).alloc (.cells #[.int .i64 c, .int .i64 d] 23)).alloc (.cells #[.int .i64 0, .int .i64 0] 23)).drew) (w.heap.size + 1) 23 #[.int .i64 c, .int .i64 d] ∧
        Hd ((((w.alloc (.cells #[.int .i64 a, .int .i64 b] 23)).alloc (.cells #[.int .i64 c, .int .i64 d] 23)).alloc (.cells #[.int .i64 0, .int .i64 0] 23)).drew) (w.heap.size + 2) 23 #[.int .i64 0, .int .i64 0] ∧ Below w.heap.size w ((((w.alloc (.cells #[.int .i64 a, .int .i64 b] 23)).alloc (.cells #[.int .i64 c, .int .i64 d] 23)).alloc (.cells #[.int .i64 0, .int .i64 0] 23)).drew) := ⟨by exact hdx, by exact hdx, by exact hdx, by go_grown⟩
      (refine wp_region_eag (fun w' => Hd w' w.heap.size 23 #[.int .i64 a, .int .i64 b] ∧ Hd w' (w.heap.size + 1) 23 #[.int .i64 c, .int .i64 d] ∧ Below w.heap.size w w') [(0, true), (1, true), (2, true), (3, true), (5, true), (6, true), (7, true), (8, true), (10, true), (11, true), (12, true), (13, true), (15, true), (16, true), (17, true), (18, true), (4, false), (9, false), (14, false), (19, false), (20, false), (21, false), (22, false)] (by kernel_rfl) (by kernel_rfl) (fun c d v a w h => by cases d <;> exact h) ⟨K0.1, K0.2.1, K0.2.2.2⟩ ?_; simp only [List.map_cons, List.map_nil, List.getD_cons_zero, List.getD_cons_succ, flMark, Nat.reduceEqDiff, ↓reduceIte])
      repeat ((first | with_reducible apply eag_move | with_reducible apply eag_assign | ((with_reducible refine eag_soft (v := ?_) (fun w' hw' => ?_) ?_); rotate_left 1; (focus (obtain ⟨hA, hB, hBw⟩ := hw'; obtain ⟨hc1, hf1⟩ := hA.facts; obtain ⟨hc2, hf2⟩ := hB.facts; go_simp; (try with_reducible rfl); done)))); simp only [Act.put, Act.eval, qs])
      have bw0 := K0.2.2.2
      refine eag_hard ?_
      go_wp2_with (go_at_call 115; refine (over_any a 1073741824 c (by omega) (by omega) (by omega) (by omega) (by omega) (by omega) _).mono ?_; rintro e w1 ⟨rfl, hb1⟩; have bw1 : Below w.heap.size w w1 := below_next (by go_grown) hb1)
      have K1 := And.intro (K0.1.call hb1) (And.intro (K0.2.1.call hb1) (And.intro (K0.2.2.1.call hb1) bw1))
      refine ⟨⟨K1.1, K1.2.1, K1.2.2.2⟩, ?_⟩
      clear K0 hb1 bw0
      refine eag_hard ?_
      go_wp2_with (go_at_call 115; refine (over_any a 1073741824 d (by omega) (by omega) (by omega) (by omega) (by omega) (by omega) _).mono ?_; rintro e w2 ⟨rfl, hb2⟩; have bw2 : Below w.heap.size w w2 := below_next (by go_grown) hb2)
      have K2 := And.intro (K1.1.call hb2) (And.intro (K1.2.1.call hb2) (And.intro (K1.2.2.1.call hb2) bw2))
      refine ⟨⟨K2.1, K2.2.1, K2.2.2.2⟩, ?_⟩
      clear K1 hb2 bw1
      refine eag_hard ?_
      go_wp2_with (go_at_call 115; refine (over_any b 1073741824 c (by omega) (by omega) (by omega) (by omega) (by omega) (by omega) _).mono ?_; rintro e w3 ⟨rfl, hb3⟩; have bw3 : Below w.heap.size w w3 := below_next (by go_grown) hb3)
      have K3 := And.intro (K2.1.call hb3) (And.intro (K2.2.1.call hb3) (And.intro (K2.2.2.1.call hb3) bw3))
      refine ⟨⟨K3.1, K3.2.1, K3.2.2.2⟩, ?_⟩
      clear K2 hb3 bw2
      refine eag_hard ?_
      go_wp2_with (go_at_call 115; refine (over_any b 1073741824 d (by omega) (by omega) (by omega) (by omega) (by omega) (by omega) _).mono ?_; rintro e w4 ⟨rfl, hb4⟩; have bw4 : Below w.heap.size w w4 := below_next (by go_grown) hb4)
      have K4 := And.intro (K3.1.call hb4) (And.intro (K3.2.1.call hb4) (And.intro (K3.2.2.1.call hb4) bw4))
      refine ⟨⟨K4.1, K4.2.1, K4.2.2.2⟩, ?_⟩
      clear K3 hb4 bw3
      refine eag_hard ?_
      go_wp2_with fail
      obtain ⟨J1, J2, J3, bw4⟩ := K4
      have lw4 : w.heap.size ≤ w4.heap.size := bw4.size
      refine ⟨⟨by exact hdx, by exact hdx, by go_grown⟩, ?_⟩
      have HF : Hd (w4.alloc (.cells #[.bool (En.over a 1073741824 c).neg, .int .u64 (En.over a 1073741824 c).hi, .int .u64 (En.over a 1073741824 c).lo, .int .u64 (En.over a 1073741824 c).c, .bool (En.over a 1073741824 d).neg, .int .u64 (En.over a 1073741824 d).hi, .int .u64 (En.over a 1073741824 d).lo, .int .u64 (En.over a 1073741824 d).c, .bool (En.over b 1073741824 c).neg, .int .u64 (En.over b 1073741824 c).hi, .int .u64 (En.over b 1073741824 c).lo, .int .u64 (En.over b 1073741824 c).c, .bool (En.over b 1073741824 d).neg, .int .u64 (En.over b 1073741824 d).hi, .int .u64 (En.over b 1073741824 d).lo, .int .u64 (En.over b 1073741824 d).c] 111)) w4.heap.size 111 #[.bool (En.over a 1073741824 c).neg, .int .u64 (En.over a 1073741824 c).hi, .int .u64 (En.over a 1073741824 c).lo, .int .u64 (En.over a 1073741824 c).c, .bool (En.over a 1073741824 d).neg, .int .u64 (En.over a 1073741824 d).hi, .int .u64 (En.over a 1073741824 d).lo, .int .u64 (En.over a 1073741824 d).c, .bool (En.over b 1073741824 c).neg, .int .u64 (En.over b 1073741824 c).hi, .int .u64 (En.over b 1073741824 c).lo, .int .u64 (En.over b 1073741824 c).c, .bool (En.over b 1073741824 d).neg, .int .u64 (En.over b 1073741824 d).hi, .int .u64 (En.over b 1073741824 d).lo, .int .u64 (En.over b 1073741824 d).c] := hdx
      have J1' := J1.alloc (.cells #[.bool (En.over a 1073741824 c).neg, .int .u64 (En.over a 1073741824 c).hi, .int .u64 (En.over a 1073741824 c).lo, .int .u64 (En.over a 1073741824 c).c, .bool (En.over a 1073741824 d).neg, .int .u64 (En.over a 1073741824 d).hi, .int .u64 (En.over a 1073741824 d).lo, .int .u64 (En.over a 1073741824 d).c, .bool (En.over b 1073741824 c).neg, .int .u64 (En.over b 1073741824 c).hi, .int .u64 (En.over b 1073741824 c).lo, .int .u64 (En.over b 1073741824 c).c, .bool (En.over b 1073741824 d).neg, .int .u64 (En.over b 1073741824 d).hi, .int .u64 (En.over b 1073741824 d).lo, .int .u64 (En.over b 1073741824 d).c] 111)
      have J2' := J2.alloc (.cells #[.bool (En.over a 1073741824 c).neg, .int .u64 (En.over a 1073741824 c).hi, .int .u64 (En.over a 1073741824 c).lo, .int .u64 (En.over a 1073741824 c).c, .bool (En.over a 1073741824 d).neg, .int .u64 (En.over a 1073741824 d).hi, .int .u64 (En.over a 1073741824 d).lo, .int .u64 (En.over a 1073741824 d).c, .bool (En.over b 1073741824 c).neg, .int .u64 (En.over b 1073741824 c).hi, .int .u64 (En.over b 1073741824 c).lo, .int .u64 (En.over b 1073741824 c).c, .bool (En.over b 1073741824 d).neg, .int .u64 (En.over b 1073741824 d).hi, .int .u64 (En.over b 1073741824 d).lo, .int .u64 (En.over b 1073741824 d).c] 111)
      have J3' := J3.alloc (.cells #[.bool (En.over a 1073741824 c).neg, .int .u64 (En.over a 1073741824 c).hi, .int .u64 (En.over a 1073741824 c).lo, .int .u64 (En.over a 1073741824 c).c, .bool (En.over a 1073741824 d).neg, .int .u64 (En.over a 1073741824 d).hi, .int .u64 (En.over a 1073741824 d).lo, .int .u64 (En.over a 1073741824 d).c, .bool (En.over b 1073741824 c).neg, .int .u64 (En.over b 1073741824 c).hi, .int .u64 (En.over b 1073741824 c).lo, .int .u64 (En.over b 1073741824 c).c, .bool (En.over b 1073741824 d).neg, .int .u64 (En.over b 1073741824 d).hi, .int .u64 (En.over b 1073741824 d).lo, .int .u64 (En.over b 1073741824 d).c] 111)
      have bw4' : Below w.heap.size w (w4.alloc (.cells #[.bool (En.over a 1073741824 c).neg, .int .u64 (En.over a 1073741824 c).hi, .int .u64 (En.over a 1073741824 c).lo, .int .u64 (En.over a 1073741824 c).c, .bool (En.over a 1073741824 d).neg, .int .u64 (En.over a 1073741824 d).hi, .int .u64 (En.over a 1073741824 d).lo, .int .u64 (En.over a 1073741824 d).c, .bool (En.over b 1073741824 c).neg, .int .u64 (En.over b 1073741824 c).hi, .int .u64 (En.over b 1073741824 c).lo, .int .u64 (En.over b 1073741824 c).c, .bool (En.over b 1073741824 d).neg, .int .u64 (En.over b 1073741824 d).hi, .int .u64 (En.over b 1073741824 d).lo, .int .u64 (En.over b 1073741824 d).c] 111)) := by go_grown
      refine eag_hard ?_
      go_wp2_with fail
      refine (around4_any (En.over a 1073741824 c) (En.over a 1073741824 d) (En.over b 1073741824 c) (En.over b 1073741824 d) (by apply En.over_wf <;> omega) (by apply En.over_wf <;> omega) (by apply En.over_wf <;> omega) (by apply En.over_wf <;> omega) _ _ _ HF).mono ?_
      intro e w5 hp
      obtain ⟨hb5, hcase⟩ := hp.cases
      have bw5 : Below w.heap.size w w5 := below_next bw4' hb5
      have J5 := J3'.call hb5
      have J15 := J1'.call hb5
      have J25 := J2'.call hb5
      clear J1' J2' J3' hb5 bw4' HF J1 J2 J3 hp
      rcases hcase with ⟨s, hs, rfl⟩ | ⟨c, hs, rfl⟩
      · go_wp2_with fail
        refine ⟨⟨J15, J25, bw5⟩, ?_⟩
        refine eag_hard ?_
        obtain ⟨hc5, hf5⟩ := J5.facts
        go_wp2_with fail
        refine ⟨⟨by exact hdx, by exact hdx, by go_grown⟩, ?_⟩
        refine eag_nil ?_
        go_wp2
        refine bodyPost_ret (run_results1 rfl rfl (by (show Hd _ (w.heap.size + 2) 23 #[.int .i64 s.lo, .int .i64 s.hi]); exact hdx) Try.underlying23 rfl (by kernel_rfl)) rfl (post_ok ((if_neg hcd).trans hs) (by go_grown))
      · exact ⟨rfl, post_err ((if_neg hcd).trans hs) (by go_grown)⟩
  · have hcd : ¬ (c ≤ 0 ∧ 0 ≤ d) := fun h => hz h.1
    go_wp2
    have K0 : Hd ((((w.alloc (.cells #[.int .i64 a, .int .i64 b] 23)).alloc (.cells #[.int .i64 c, .int .i64 d] 23)).alloc (.cells #[.int .i64 0, .int .i64 0] 23)).drew) w.heap.size 23 #[.int .i64 a, .int .i64 b] ∧ Hd ((((w.alloc (.cells #[.int .i64 a, .int .i64 b] 23)).alloc (.cells #[.int .i64 c, .int .i64 d] 23)).alloc (.cells #[.int .i64 0, .int .i64 0] 23)).drew) (w.heap.size + 1) 23 #[.int .i64 c, .int .i64 d] ∧
      Hd ((((w.alloc (.cells #[.int .i64 a, .int .i64 b] 23)).alloc (.cells #[.int .i64 c, .int .i64 d] 23)).alloc (.cells #[.int .i64 0, .int .i64 0] 23)).drew) (w.heap.size + 2) 23 #[.int .i64 0, .int .i64 0] ∧ Below w.heap.size w ((((w.alloc (.cells #[.int .i64 a, .int .i64 b] 23)).alloc (.cells #[.int .i64 c, .int .i64 d] 23)).alloc (.cells #[.int .i64 0, .int .i64 0] 23)).drew) := ⟨by exact hdx, by exact hdx, by exact hdx, by go_grown⟩
    (refine wp_region_eag (fun w' => Hd w' w.heap.size 23 #[.int .i64 a, .int .i64 b] ∧ Hd w' (w.heap.size + 1) 23 #[.int .i64 c, .int .i64 d] ∧ Below w.heap.size w w') [(0, true), (1, true), (2, true), (3, true), (5, true), (6, true), (7, true), (8, true), (10, true), (11, true), (12, true), (13, true), (15, true), (16, true), (17, true), (18, true), (4, false), (9, false), (14, false), (19, false), (20, false), (21, false), (22, false)] (by kernel_rfl) (by kernel_rfl) (fun c d v a w h => by cases d <;> exact h) ⟨K0.1, K0.2.1, K0.2.2.2⟩ ?_; simp only [List.map_cons, List.map_nil, List.getD_cons_zero, List.getD_cons_succ, flMark, Nat.reduceEqDiff, ↓reduceIte])
    repeat ((first | with_reducible apply eag_move | with_reducible apply eag_assign | ((with_reducible refine eag_soft (v := ?_) (fun w' hw' => ?_) ?_); rotate_left 1; (focus (obtain ⟨hA, hB, hBw⟩ := hw'; obtain ⟨hc1, hf1⟩ := hA.facts; obtain ⟨hc2, hf2⟩ := hB.facts; go_simp; (try with_reducible rfl); done)))); simp only [Act.put, Act.eval, qs])
    have bw0 := K0.2.2.2
    refine eag_hard ?_
    go_wp2_with (go_at_call 115; refine (over_any a 1073741824 c (by omega) (by omega) (by omega) (by omega) (by omega) (by omega) _).mono ?_; rintro e w1 ⟨rfl, hb1⟩; have bw1 : Below w.heap.size w w1 := below_next (by go_grown) hb1)
    have K1 := And.intro (K0.1.call hb1) (And.intro (K0.2.1.call hb1) (And.intro (K0.2.2.1.call hb1) bw1))
    refine ⟨⟨K1.1, K1.2.1, K1.2.2.2⟩, ?_⟩
    clear K0 hb1 bw0
    refine eag_hard ?_
    go_wp2_with (go_at_call 115; refine (over_any a 1073741824 d (by omega) (by omega) (by omega) (by omega) (by omega) (by omega) _).mono ?_; rintro e w2 ⟨rfl, hb2⟩; have bw2 : Below w.heap.size w w2 := below_next (by go_grown) hb2)
    have K2 := And.intro (K1.1.call hb2) (And.intro (K1.2.1.call hb2) (And.intro (K1.2.2.1.call hb2) bw2))
    refine ⟨⟨K2.1, K2.2.1, K2.2.2.2⟩, ?_⟩
    clear K1 hb2 bw1
    refine eag_hard ?_
    go_wp2_with (go_at_call 115; refine (over_any b 1073741824 c (by omega) (by omega) (by omega) (by omega) (by omega) (by omega) _).mono ?_; rintro e w3 ⟨rfl, hb3⟩; have bw3 : Below w.heap.size w w3 := below_next (by go_grown) hb3)
    have K3 := And.intro (K2.1.call hb3) (And.intro (K2.2.1.call hb3) (And.intro (K2.2.2.1.call hb3) bw3))
    refine ⟨⟨K3.1, K3.2.1, K3.2.2.2⟩, ?_⟩
    clear K2 hb3 bw2
    refine eag_hard ?_
    go_wp2_with (go_at_call 115; refine (over_any b 1073741824 d (by omega) (by omega) (by omega) (by omega) (by omega) (by omega) _).mono ?_; rintro e w4 ⟨rfl, hb4⟩; have bw4 : Below w.heap.size w w4 := below_next (by go_grown) hb4)
    have K4 := And.intro (K3.1.call hb4) (And.intro (K3.2.1.call hb4) (And.intro (K3.2.2.1.call hb4) bw4))
    refine ⟨⟨K4.1, K4.2.1, K4.2.2.2⟩, ?_⟩
    clear K3 hb4 bw3
    refine eag_hard ?_
    go_wp2_with fail
    obtain ⟨J1, J2, J3, bw4⟩ := K4
    have lw4 : w.heap.size ≤ w4.heap.size := bw4.size
    refine ⟨⟨by exact hdx, by exact hdx, by go_grown⟩, ?_⟩
    have HF : Hd (w4.alloc (.cells #[.bool (En.over a 1073741824 c).neg, .int .u64 (En.over a 1073741824 c).hi, .int .u64 (En.over a 1073741824 c).lo, .int .u64 (En.over a 1073741824 c).c, .bool (En.over a 1073741824 d).neg, .int .u64 (En.over a 1073741824 d).hi, .int .u64 (En.over a 1073741824 d).lo, .int .u64 (En.over a 1073741824 d).c, .bool (En.over b 1073741824 c).neg, .int .u64 (En.over b 1073741824 c).hi, .int .u64 (En.over b 1073741824 c).lo, .int .u64 (En.over b 1073741824 c).c, .bool (En.over b 1073741824 d).neg, .int .u64 (En.over b 1073741824 d).hi, .int .u64 (En.over b 1073741824 d).lo, .int .u64 (En.over b 1073741824 d).c] 111)) w4.heap.size 111 #[.bool (En.over a 1073741824 c).neg, .int .u64 (En.over a 1073741824 c).hi, .int .u64 (En.over a 1073741824 c).lo, .int .u64 (En.over a 1073741824 c).c, .bool (En.over a 1073741824 d).neg, .int .u64 (En.over a 1073741824 d).hi, .int .u64 (En.over a 1073741824 d).lo, .int .u64 (En.over a 1073741824 d).c, .bool (En.over b 1073741824 c).neg, .int .u64 (En.over b 1073741824 c).hi, .int .u64 (En.over b 1073741824 c).lo, .int .u64 (En.over b 1073741824 c).c, .bool (En.over b 1073741824 d).neg, .int .u64 (En.over b 1073741824 d).hi, .int .u64 (En.over b 1073741824 d).lo, .int .u64 (En.over b 1073741824 d).c] := hdx
    have J1' := J1.alloc (.cells #[.bool (En.over a 1073741824 c).neg, .int .u64 (En.over a 1073741824 c).hi, .int .u64 (En.over a 1073741824 c).lo, .int .u64 (En.over a 1073741824 c).c, .bool (En.over a 1073741824 d).neg, .int .u64 (En.over a 1073741824 d).hi, .int .u64 (En.over a 1073741824 d).lo, .int .u64 (En.over a 1073741824 d).c, .bool (En.over b 1073741824 c).neg, .int .u64 (En.over b 1073741824 c).hi, .int .u64 (En.over b 1073741824 c).lo, .int .u64 (En.over b 1073741824 c).c, .bool (En.over b 1073741824 d).neg, .int .u64 (En.over b 1073741824 d).hi, .int .u64 (En.over b 1073741824 d).lo, .int .u64 (En.over b 1073741824 d).c] 111)
    have J2' := J2.alloc (.cells #[.bool (En.over a 1073741824 c).neg, .int .u64 (En.over a 1073741824 c).hi, .int .u64 (En.over a 1073741824 c).lo, .int .u64 (En.over a 1073741824 c).c, .bool (En.over a 1073741824 d).neg, .int .u64 (En.over a 1073741824 d).hi, .int .u64 (En.over a 1073741824 d).lo, .int .u64 (En.over a 1073741824 d).c, .bool (En.over b 1073741824 c).neg, .int .u64 (En.over b 1073741824 c).hi, .int .u64 (En.over b 1073741824 c).lo, .int .u64 (En.over b 1073741824 c).c, .bool (En.over b 1073741824 d).neg, .int .u64 (En.over b 1073741824 d).hi, .int .u64 (En.over b 1073741824 d).lo, .int .u64 (En.over b 1073741824 d).c] 111)
    have J3' := J3.alloc (.cells #[.bool (En.over a 1073741824 c).neg, .int .u64 (En.over a 1073741824 c).hi, .int .u64 (En.over a 1073741824 c).lo, .int .u64 (En.over a 1073741824 c).c, .bool (En.over a 1073741824 d).neg, .int .u64 (En.over a 1073741824 d).hi, .int .u64 (En.over a 1073741824 d).lo, .int .u64 (En.over a 1073741824 d).c, .bool (En.over b 1073741824 c).neg, .int .u64 (En.over b 1073741824 c).hi, .int .u64 (En.over b 1073741824 c).lo, .int .u64 (En.over b 1073741824 c).c, .bool (En.over b 1073741824 d).neg, .int .u64 (En.over b 1073741824 d).hi, .int .u64 (En.over b 1073741824 d).lo, .int .u64 (En.over b 1073741824 d).c] 111)
    have bw4' : Below w.heap.size w (w4.alloc (.cells #[.bool (En.over a 1073741824 c).neg, .int .u64 (En.over a 1073741824 c).hi, .int .u64 (En.over a 1073741824 c).lo, .int .u64 (En.over a 1073741824 c).c, .bool (En.over a 1073741824 d).neg, .int .u64 (En.over a 1073741824 d).hi, .int .u64 (En.over a 1073741824 d).lo, .int .u64 (En.over a 1073741824 d).c, .bool (En.over b 1073741824 c).neg, .int .u64 (En.over b 1073741824 c).hi, .int .u64 (En.over b 1073741824 c).lo, .int .u64 (En.over b 1073741824 c).c, .bool (En.over b 1073741824 d).neg, .int .u64 (En.over b 1073741824 d).hi, .int .u64 (En.over b 1073741824 d).lo, .int .u64 (En.over b 1073741824 d).c] 111)) := by go_grown
    refine eag_hard ?_
    go_wp2_with fail
    refine (around4_any (En.over a 1073741824 c) (En.over a 1073741824 d) (En.over b 1073741824 c) (En.over b 1073741824 d) (by apply En.over_wf <;> omega) (by apply En.over_wf <;> omega) (by apply En.over_wf <;> omega) (by apply En.over_wf <;> omega) _ _ _ HF).mono ?_
    intro e w5 hp
    obtain ⟨hb5, hcase⟩ := hp.cases
    have bw5 : Below w.heap.size w w5 := below_next bw4' hb5
    have J5 := J3'.call hb5
    have J15 := J1'.call hb5
    have J25 := J2'.call hb5
    clear J1' J2' J3' hb5 bw4' HF J1 J2 J3 hp
    rcases hcase with ⟨s, hs, rfl⟩ | ⟨c, hs, rfl⟩
    · go_wp2_with fail
      refine ⟨⟨J15, J25, bw5⟩, ?_⟩
      refine eag_hard ?_
      obtain ⟨hc5, hf5⟩ := J5.facts
      go_wp2_with fail
      refine ⟨⟨by exact hdx, by exact hdx, by go_grown⟩, ?_⟩
      refine eag_nil ?_
      go_wp2
      refine bodyPost_ret (run_results1 rfl rfl (by (show Hd _ (w.heap.size + 2) 23 #[.int .i64 s.lo, .int .i64 s.hi]); exact hdx) Try.underlying23 rfl (by kernel_rfl)) rfl (post_ok ((if_neg hcd).trans hs) (by go_grown))
    · exact ⟨rfl, post_err ((if_neg hcd).trans hs) (by go_grown)⟩

end Go.Proofs.Ytpbbbfglecbceaa
/- Package enclose: rectangles. -/
namespace Go.Proofs.Ytpbbbfglecbceaa
set_option linter.all false
open Go.RowKit

abbrev rcV (x : En.Rc) : Value := .agg #[.int .i64 x.re.lo, .int .i64 x.re.hi, .int .i64 x.im.lo, .int .i64 x.im.hi]
theorem ebind_ok {α β : Type} (a : α) (f : α → En.R β) : ((Except.ok a : En.R α) >>= f) = f a := rfl
theorem ebind_err {α β : Type} (c : Int) (f : α → En.R β) : ((Except.error c : En.R α) >>= f) = Except.error c := rfl
theorem epure {α : Type} (a : α) : (pure a : En.R α) = Except.ok a := rfl

theorem plus_any (x y : En.Rc) (hx : x.fit) (hy : y.fit) (w : World) : Calls Try.prog 69 #[rcV x, rcV y] w (Post rcV (En.plus x y) w) := by
  go_enter Try.func69, Try.ntmps69
  go_wp2
  have HA : Hd ((((w.alloc (.cells #[.int .i64 x.re.lo, .int .i64 x.re.hi, .int .i64 x.im.lo, .int .i64 x.im.hi] 25)).alloc (.cells #[.int .i64 y.re.lo, .int .i64 y.re.hi, .int .i64 y.im.lo, .int .i64 y.im.hi] 25)).alloc (.cells #[.int .i64 0, .int .i64 0, .int .i64 0, .int .i64 0] 25)).drew) w.heap.size 25 #[.int .i64 x.re.lo, .int .i64 x.re.hi, .int .i64 x.im.lo, .int .i64 x.im.hi] := hdx
  have HB : Hd ((((w.alloc (.cells #[.int .i64 x.re.lo, .int .i64 x.re.hi, .int .i64 x.im.lo, .int .i64 x.im.hi] 25)).alloc (.cells #[.int .i64 y.re.lo, .int .i64 y.re.hi, .int .i64 y.im.lo, .int .i64 y.im.hi] 25)).alloc (.cells #[.int .i64 0, .int .i64 0, .int .i64 0, .int .i64 0] 25)).drew) (w.heap.size + 1) 25 #[.int .i64 y.re.lo, .int .i64 y.re.hi, .int .i64 y.im.lo, .int .i64 y.im.hi] := hdx
  have HC : Hd ((((w.alloc (.cells #[.int .i64 x.re.lo, .int .i64 x.re.hi, .int .i64 x.im.lo, .int .i64 x.im.hi] 25)).alloc (.cells #[.int .i64 y.re.lo, .int .i64 y.re.hi, .int .i64 y.im.lo, .int .i64 y.im.hi] 25)).alloc (.cells #[.int .i64 0, .int .i64 0, .int .i64 0, .int .i64 0] 25)).drew) (w.heap.size + 2) 25 #[.int .i64 0, .int .i64 0, .int .i64 0, .int .i64 0] := hdx
  have bw : Below w.heap.size w ((((w.alloc (.cells #[.int .i64 x.re.lo, .int .i64 x.re.hi, .int .i64 x.im.lo, .int .i64 x.im.hi] 25)).alloc (.cells #[.int .i64 y.re.lo, .int .i64 y.re.hi, .int .i64 y.im.lo, .int .i64 y.im.hi] 25)).alloc (.cells #[.int .i64 0, .int .i64 0, .int .i64 0, .int .i64 0] 25)).drew) := by go_grown
  (refine wp_region_eag (fun w' => Hd w' w.heap.size 25 #[.int .i64 x.re.lo, .int .i64 x.re.hi, .int .i64 x.im.lo, .int .i64 x.im.hi] ∧ Hd w' (w.heap.size + 1) 25 #[.int .i64 y.re.lo, .int .i64 y.re.hi, .int .i64 y.im.lo, .int .i64 y.im.hi] ∧ Below w.heap.size w w') [(0, true), (1, true), (2, true), (3, true), (5, true), (6, true), (7, true), (8, true), (4, false), (9, false), (10, true), (11, false)] (by kernel_rfl) (by kernel_rfl) (fun c d v a w h => by cases d <;> exact h) ⟨HA, HB, bw⟩ ?_; simp only [List.map_cons, List.map_nil, List.getD_cons_zero, List.getD_cons_succ, flMark, Nat.reduceEqDiff, ↓reduceIte])
  repeat ((first | with_reducible apply eag_move | with_reducible apply eag_assign | ((with_reducible refine eag_soft (v := ?_) (fun w' hw' => ?_) ?_); rotate_left 1; (focus (obtain ⟨hA, hB, hBw⟩ := hw'; obtain ⟨hcA, hfA⟩ := hA.facts; obtain ⟨hcB, hfB⟩ := hB.facts; go_simp; (try with_reducible rfl); done)))); simp only [Act.put, Act.eval, qs])
  refine eag_hard ?_
  go_wp2_with fail
  refine (add_any x.re y.re hx.re hy.re _).mono ?_
  intro e w1 hp
  obtain ⟨hb1, hcase⟩ := hp.cases
  clear hp
  replace bw : Below w.heap.size w w1 := below_next bw hb1
  replace HA := HA.call hb1
  replace HB := HB.call hb1
  replace HC := HC.call hb1
  have lw1 : w.heap.size ≤ w1.heap.size := bw.size
  clear hb1
  rcases hcase with ⟨s1, hs1, rfl⟩ | ⟨c1, hs1, rfl⟩
  rotate_left
  · exact ⟨rfl, post_err (by simp only [En.plus, ebind_ok, ebind_err, epure, hs1]) bw⟩
  go_wp2_with fail
  (try refine ⟨⟨HA, HB, bw⟩, ?_⟩)
  repeat ((first | with_reducible apply eag_move | with_reducible apply eag_assign | ((with_reducible refine eag_soft (v := ?_) (fun w' hw' => ?_) ?_); rotate_left 1; (focus (obtain ⟨hA, hB, hBw⟩ := hw'; obtain ⟨hcA, hfA⟩ := hA.facts; obtain ⟨hcB, hfB⟩ := hB.facts; go_simp; (try with_reducible rfl); done)))); simp only [Act.put, Act.eval, qs])
  refine eag_hard ?_
  go_wp2_with fail
  refine (add_any x.im y.im hx.im hy.im _).mono ?_
  intro e w2 hp
  obtain ⟨hb2, hcase⟩ := hp.cases
  clear hp
  replace bw : Below w.heap.size w w2 := below_next bw hb2
  replace HA := HA.call hb2
  replace HB := HB.call hb2
  replace HC := HC.call hb2
  have lw2 : w.heap.size ≤ w2.heap.size := bw.size
  clear hb2
  rcases hcase with ⟨s2, hs2, rfl⟩ | ⟨c2, hs2, rfl⟩
  rotate_left
  · exact ⟨rfl, post_err (by simp only [En.plus, ebind_ok, ebind_err, epure, hs1, hs2]) bw⟩
  go_wp2_with fail
  (try refine ⟨⟨HA, HB, bw⟩, ?_⟩)
  repeat ((first | with_reducible apply eag_move | with_reducible apply eag_assign | ((with_reducible refine eag_soft (v := ?_) (fun w' hw' => ?_) ?_); rotate_left 1; (focus (obtain ⟨hA, hB, hBw⟩ := hw'; obtain ⟨hcA, hfA⟩ := hA.facts; obtain ⟨hcB, hfB⟩ := hB.facts; go_simp; (try with_reducible rfl); done)))); simp only [Act.put, Act.eval, qs])
  obtain ⟨hcC, hfC⟩ := HC.facts
  refine eag_hard ?_
  go_wp2_with fail
  refine ⟨⟨by exact hdx, by exact hdx, by go_grown⟩, ?_⟩
  refine eag_nil ?_
  go_wp2
  refine bodyPost_ret (run_results1 rfl rfl (by (show Hd _ (w.heap.size + 2) 25 #[.int .i64 s1.lo, .int .i64 s1.hi, .int .i64 s2.lo, .int .i64 s2.hi]); exact hdx) Try.underlying25 rfl (by kernel_rfl)) rfl (post_ok (s := ⟨s1, s2⟩) (by simp only [En.plus, ebind_ok, ebind_err, epure, hs1, hs2]) (by go_grown))

theorem minus_any (x y : En.Rc) (hx : x.fit) (hy : y.fit) (w : World) : Calls Try.prog 72 #[rcV x, rcV y] w (Post rcV (En.minus x y) w) := by
  go_enter Try.func72, Try.ntmps72
  go_wp2
  have HA : Hd ((((w.alloc (.cells #[.int .i64 x.re.lo, .int .i64 x.re.hi, .int .i64 x.im.lo, .int .i64 x.im.hi] 25)).alloc (.cells #[.int .i64 y.re.lo, .int .i64 y.re.hi, .int .i64 y.im.lo, .int .i64 y.im.hi] 25)).alloc (.cells #[.int .i64 0, .int .i64 0, .int .i64 0, .int .i64 0] 25)).drew) w.heap.size 25 #[.int .i64 x.re.lo, .int .i64 x.re.hi, .int .i64 x.im.lo, .int .i64 x.im.hi] := hdx
  have HB : Hd ((((w.alloc (.cells #[.int .i64 x.re.lo, .int .i64 x.re.hi, .int .i64 x.im.lo, .int .i64 x.im.hi] 25)).alloc (.cells #[.int .i64 y.re.lo, .int .i64 y.re.hi, .int .i64 y.im.lo, .int .i64 y.im.hi] 25)).alloc (.cells #[.int .i64 0, .int .i64 0, .int .i64 0, .int .i64 0] 25)).drew) (w.heap.size + 1) 25 #[.int .i64 y.re.lo, .int .i64 y.re.hi, .int .i64 y.im.lo, .int .i64 y.im.hi] := hdx
  have HC : Hd ((((w.alloc (.cells #[.int .i64 x.re.lo, .int .i64 x.re.hi, .int .i64 x.im.lo, .int .i64 x.im.hi] 25)).alloc (.cells #[.int .i64 y.re.lo, .int .i64 y.re.hi, .int .i64 y.im.lo, .int .i64 y.im.hi] 25)).alloc (.cells #[.int .i64 0, .int .i64 0, .int .i64 0, .int .i64 0] 25)).drew) (w.heap.size + 2) 25 #[.int .i64 0, .int .i64 0, .int .i64 0, .int .i64 0] := hdx
  have bw : Below w.heap.size w ((((w.alloc (.cells #[.int .i64 x.re.lo, .int .i64 x.re.hi, .int .i64 x.im.lo, .int .i64 x.im.hi] 25)).alloc (.cells #[.int .i64 y.re.lo, .int .i64 y.re.hi, .int .i64 y.im.lo, .int .i64 y.im.hi] 25)).alloc (.cells #[.int .i64 0, .int .i64 0, .int .i64 0, .int .i64 0] 25)).drew) := by go_grown
  (refine wp_region_eag (fun w' => Hd w' w.heap.size 25 #[.int .i64 x.re.lo, .int .i64 x.re.hi, .int .i64 x.im.lo, .int .i64 x.im.hi] ∧ Hd w' (w.heap.size + 1) 25 #[.int .i64 y.re.lo, .int .i64 y.re.hi, .int .i64 y.im.lo, .int .i64 y.im.hi] ∧ Below w.heap.size w w') [(0, true), (1, true), (2, true), (3, true), (5, true), (6, true), (7, true), (8, true), (4, false), (9, false), (10, true), (11, false)] (by kernel_rfl) (by kernel_rfl) (fun c d v a w h => by cases d <;> exact h) ⟨HA, HB, bw⟩ ?_; simp only [List.map_cons, List.map_nil, List.getD_cons_zero, List.getD_cons_succ, flMark, Nat.reduceEqDiff, ↓reduceIte])
  repeat ((first | with_reducible apply eag_move | with_reducible apply eag_assign | ((with_reducible refine eag_soft (v := ?_) (fun w' hw' => ?_) ?_); rotate_left 1; (focus (obtain ⟨hA, hB, hBw⟩ := hw'; obtain ⟨hcA, hfA⟩ := hA.facts; obtain ⟨hcB, hfB⟩ := hB.facts; go_simp; (try with_reducible rfl); done)))); simp only [Act.put, Act.eval, qs])
  refine eag_hard ?_
  go_wp2_with fail
  refine (sub_any x.re y.re hx.re hy.re _).mono ?_
  intro e w1 hp
  obtain ⟨hb1, hcase⟩ := hp.cases
  clear hp
  replace bw : Below w.heap.size w w1 := below_next bw hb1
  replace HA := HA.call hb1
  replace HB := HB.call hb1
  replace HC := HC.call hb1
  have lw1 : w.heap.size ≤ w1.heap.size := bw.size
  clear hb1
  rcases hcase with ⟨s1, hs1, rfl⟩ | ⟨c1, hs1, rfl⟩
  rotate_left
  · exact ⟨rfl, post_err (by simp only [En.minus, ebind_ok, ebind_err, epure, hs1]) bw⟩
  go_wp2_with fail
  (try refine ⟨⟨HA, HB, bw⟩, ?_⟩)
  repeat ((first | with_reducible apply eag_move | with_reducible apply eag_assign | ((with_reducible refine eag_soft (v := ?_) (fun w' hw' => ?_) ?_); rotate_left 1; (focus (obtain ⟨hA, hB, hBw⟩ := hw'; obtain ⟨hcA, hfA⟩ := hA.facts; obtain ⟨hcB, hfB⟩ := hB.facts; go_simp; (try with_reducible rfl); done)))); simp only [Act.put, Act.eval, qs])
  refine eag_hard ?_
  go_wp2_with fail
  refine (sub_any x.im y.im hx.im hy.im _).mono ?_
  intro e w2 hp
  obtain ⟨hb2, hcase⟩ := hp.cases
  clear hp
  replace bw : Below w.heap.size w w2 := below_next bw hb2
  replace HA := HA.call hb2
  replace HB := HB.call hb2
  replace HC := HC.call hb2
  have lw2 : w.heap.size ≤ w2.heap.size := bw.size
  clear hb2
  rcases hcase with ⟨s2, hs2, rfl⟩ | ⟨c2, hs2, rfl⟩
  rotate_left
  · exact ⟨rfl, post_err (by simp only [En.minus, ebind_ok, ebind_err, epure, hs1, hs2]) bw⟩
  go_wp2_with fail
  (try refine ⟨⟨HA, HB, bw⟩, ?_⟩)
  repeat ((first | with_reducible apply eag_move | with_reducible apply eag_assign | ((with_reducible refine eag_soft (v := ?_) (fun w' hw' => ?_) ?_); rotate_left 1; (focus (obtain ⟨hA, hB, hBw⟩ := hw'; obtain ⟨hcA, hfA⟩ := hA.facts; obtain ⟨hcB, hfB⟩ := hB.facts; go_simp; (try with_reducible rfl); done)))); simp only [Act.put, Act.eval, qs])
  obtain ⟨hcC, hfC⟩ := HC.facts
  refine eag_hard ?_
  go_wp2_with fail
  refine ⟨⟨by exact hdx, by exact hdx, by go_grown⟩, ?_⟩
  refine eag_nil ?_
  go_wp2
  refine bodyPost_ret (run_results1 rfl rfl (by (show Hd _ (w.heap.size + 2) 25 #[.int .i64 s1.lo, .int .i64 s1.hi, .int .i64 s2.lo, .int .i64 s2.hi]); exact hdx) Try.underlying25 rfl (by kernel_rfl)) rfl (post_ok (s := ⟨s1, s2⟩) (by simp only [En.minus, ebind_ok, ebind_err, epure, hs1, hs2]) (by go_grown))

theorem times_any (x y : En.Rc) (hx : x.fit) (hy : y.fit) (w : World) : Calls Try.prog 76 #[rcV x, rcV y] w (Post rcV (En.times x y) w) := by
  go_enter Try.func76, Try.ntmps76
  go_wp2
  have HA : Hd ((((w.alloc (.cells #[.int .i64 x.re.lo, .int .i64 x.re.hi, .int .i64 x.im.lo, .int .i64 x.im.hi] 25)).alloc (.cells #[.int .i64 y.re.lo, .int .i64 y.re.hi, .int .i64 y.im.lo, .int .i64 y.im.hi] 25)).alloc (.cells #[.int .i64 0, .int .i64 0, .int .i64 0, .int .i64 0] 25)).drew) w.heap.size 25 #[.int .i64 x.re.lo, .int .i64 x.re.hi, .int .i64 x.im.lo, .int .i64 x.im.hi] := hdx
  have HB : Hd ((((w.alloc (.cells #[.int .i64 x.re.lo, .int .i64 x.re.hi, .int .i64 x.im.lo, .int .i64 x.im.hi] 25)).alloc (.cells #[.int .i64 y.re.lo, .int .i64 y.re.hi, .int .i64 y.im.lo, .int .i64 y.im.hi] 25)).alloc (.cells #[.int .i64 0, .int .i64 0, .int .i64 0, .int .i64 0] 25)).drew) (w.heap.size + 1) 25 #[.int .i64 y.re.lo, .int .i64 y.re.hi, .int .i64 y.im.lo, .int .i64 y.im.hi] := hdx
  have HC : Hd ((((w.alloc (.cells #[.int .i64 x.re.lo, .int .i64 x.re.hi, .int .i64 x.im.lo, .int .i64 x.im.hi] 25)).alloc (.cells #[.int .i64 y.re.lo, .int .i64 y.re.hi, .int .i64 y.im.lo, .int .i64 y.im.hi] 25)).alloc (.cells #[.int .i64 0, .int .i64 0, .int .i64 0, .int .i64 0] 25)).drew) (w.heap.size + 2) 25 #[.int .i64 0, .int .i64 0, .int .i64 0, .int .i64 0] := hdx
  have bw : Below w.heap.size w ((((w.alloc (.cells #[.int .i64 x.re.lo, .int .i64 x.re.hi, .int .i64 x.im.lo, .int .i64 x.im.hi] 25)).alloc (.cells #[.int .i64 y.re.lo, .int .i64 y.re.hi, .int .i64 y.im.lo, .int .i64 y.im.hi] 25)).alloc (.cells #[.int .i64 0, .int .i64 0, .int .i64 0, .int .i64 0] 25)).drew) := by go_grown
  (refine wp_region_eag (fun w' => Hd w' w.heap.size 25 #[.int .i64 x.re.lo, .int .i64 x.re.hi, .int .i64 x.im.lo, .int .i64 x.im.hi] ∧ Hd w' (w.heap.size + 1) 25 #[.int .i64 y.re.lo, .int .i64 y.re.hi, .int .i64 y.im.lo, .int .i64 y.im.hi] ∧ Below w.heap.size w w') [(0, true), (1, true), (2, true), (3, true), (5, true), (6, true), (7, true), (8, true), (11, true), (12, true), (13, true), (14, true), (16, true), (17, true), (18, true), (19, true), (4, false), (9, false), (10, false), (15, false), (20, false), (21, false), (22, true), (23, false)] (by kernel_rfl) (by kernel_rfl) (fun c d v a w h => by cases d <;> exact h) ⟨HA, HB, bw⟩ ?_; simp only [List.map_cons, List.map_nil, List.getD_cons_zero, List.getD_cons_succ, flMark, Nat.reduceEqDiff, ↓reduceIte])
  repeat ((first | with_reducible apply eag_move | with_reducible apply eag_assign | ((with_reducible refine eag_soft (v := ?_) (fun w' hw' => ?_) ?_); rotate_left 1; (focus (obtain ⟨hA, hB, hBw⟩ := hw'; obtain ⟨hcA, hfA⟩ := hA.facts; obtain ⟨hcB, hfB⟩ := hB.facts; go_simp; (try with_reducible rfl); done)))); simp only [Act.put, Act.eval, qs])
  refine eag_hard ?_
  go_wp2_with fail
  refine (mul_any x.re y.re hx.re hy.re _).mono ?_
  intro e w1 hp
  obtain ⟨hb1, hcase⟩ := hp.cases
  clear hp
  replace bw : Below w.heap.size w w1 := below_next bw hb1
  replace HA := HA.call hb1
  replace HB := HB.call hb1
  replace HC := HC.call hb1
  have lw1 : w.heap.size ≤ w1.heap.size := bw.size
  clear hb1
  rcases hcase with ⟨s1, hs1, rfl⟩ | ⟨c1, hs1, rfl⟩
  rotate_left
  · exact ⟨rfl, post_err (by simp only [En.times, ebind_ok, ebind_err, epure, hs1]) bw⟩
  go_wp2_with fail
  (try refine ⟨⟨HA, HB, bw⟩, ?_⟩)
  repeat ((first | with_reducible apply eag_move | with_reducible apply eag_assign | ((with_reducible refine eag_soft (v := ?_) (fun w' hw' => ?_) ?_); rotate_left 1; (focus (obtain ⟨hA, hB, hBw⟩ := hw'; obtain ⟨hcA, hfA⟩ := hA.facts; obtain ⟨hcB, hfB⟩ := hB.facts; go_simp; (try with_reducible rfl); done)))); simp only [Act.put, Act.eval, qs])
  refine eag_hard ?_
  go_wp2_with fail
  refine (mul_any x.im y.im hx.im hy.im _).mono ?_
  intro e w2 hp
  obtain ⟨hb2, hcase⟩ := hp.cases
  clear hp
  replace bw : Below w.heap.size w w2 := below_next bw hb2
  replace HA := HA.call hb2
  replace HB := HB.call hb2
  replace HC := HC.call hb2
  have lw2 : w.heap.size ≤ w2.heap.size := bw.size
  clear hb2
  rcases hcase with ⟨s2, hs2, rfl⟩ | ⟨c2, hs2, rfl⟩
  rotate_left
  · exact ⟨rfl, post_err (by simp only [En.times, ebind_ok, ebind_err, epure, hs1, hs2]) bw⟩
  go_wp2_with fail
  (try refine ⟨⟨HA, HB, bw⟩, ?_⟩)
  repeat ((first | with_reducible apply eag_move | with_reducible apply eag_assign | ((with_reducible refine eag_soft (v := ?_) (fun w' hw' => ?_) ?_); rotate_left 1; (focus (obtain ⟨hA, hB, hBw⟩ := hw'; obtain ⟨hcA, hfA⟩ := hA.facts; obtain ⟨hcB, hfB⟩ := hB.facts; go_simp; (try with_reducible rfl); done)))); simp only [Act.put, Act.eval, qs])
  refine eag_hard ?_
  go_wp2_with fail
  refine (sub_any s1 s2 (En.Sp.fit_of_ok (En.mul_ok hs1)) (En.Sp.fit_of_ok (En.mul_ok hs2)) _).mono ?_
  intro e w3 hp
  obtain ⟨hb3, hcase⟩ := hp.cases
  clear hp
  replace bw : Below w.heap.size w w3 := below_next bw hb3
  replace HA := HA.call hb3
  replace HB := HB.call hb3
  replace HC := HC.call hb3
  have lw3 : w.heap.size ≤ w3.heap.size := bw.size
  clear hb3
  rcases hcase with ⟨s3, hs3, rfl⟩ | ⟨c3, hs3, rfl⟩
  rotate_left
  · exact ⟨rfl, post_err (by simp only [En.times, ebind_ok, ebind_err, epure, hs1, hs2, hs3]) bw⟩
  go_wp2_with fail
  (try refine ⟨⟨HA, HB, bw⟩, ?_⟩)
  repeat ((first | with_reducible apply eag_move | with_reducible apply eag_assign | ((with_reducible refine eag_soft (v := ?_) (fun w' hw' => ?_) ?_); rotate_left 1; (focus (obtain ⟨hA, hB, hBw⟩ := hw'; obtain ⟨hcA, hfA⟩ := hA.facts; obtain ⟨hcB, hfB⟩ := hB.facts; go_simp; (try with_reducible rfl); done)))); simp only [Act.put, Act.eval, qs])
  refine eag_hard ?_
  go_wp2_with fail
  refine (mul_any x.re y.im hx.re hy.im _).mono ?_
  intro e w4 hp
  obtain ⟨hb4, hcase⟩ := hp.cases
  clear hp
  replace bw : Below w.heap.size w w4 := below_next bw hb4
  replace HA := HA.call hb4
  replace HB := HB.call hb4
  replace HC := HC.call hb4
  have lw4 : w.heap.size ≤ w4.heap.size := bw.size
  clear hb4
  rcases hcase with ⟨s4, hs4, rfl⟩ | ⟨c4, hs4, rfl⟩
  rotate_left
  · exact ⟨rfl, post_err (by simp only [En.times, ebind_ok, ebind_err, epure, hs1, hs2, hs3, hs4]) bw⟩
  go_wp2_with fail
  (try refine ⟨⟨HA, HB, bw⟩, ?_⟩)
  repeat ((first | with_reducible apply eag_move | with_reducible apply eag_assign | ((with_reducible refine eag_soft (v := ?_) (fun w' hw' => ?_) ?_); rotate_left 1; (focus (obtain ⟨hA, hB, hBw⟩ := hw'; obtain ⟨hcA, hfA⟩ := hA.facts; obtain ⟨hcB, hfB⟩ := hB.facts; go_simp; (try with_reducible rfl); done)))); simp only [Act.put, Act.eval, qs])
  refine eag_hard ?_
  go_wp2_with fail
  refine (mul_any x.im y.re hx.im hy.re _).mono ?_
  intro e w5 hp
  obtain ⟨hb5, hcase⟩ := hp.cases
  clear hp
  replace bw : Below w.heap.size w w5 := below_next bw hb5
  replace HA := HA.call hb5
  replace HB := HB.call hb5
  replace HC := HC.call hb5
  have lw5 : w.heap.size ≤ w5.heap.size := bw.size
  clear hb5
  rcases hcase with ⟨s5, hs5, rfl⟩ | ⟨c5, hs5, rfl⟩
  rotate_left
  · exact ⟨rfl, post_err (by simp only [En.times, ebind_ok, ebind_err, epure, hs1, hs2, hs3, hs4, hs5]) bw⟩
  go_wp2_with fail
  (try refine ⟨⟨HA, HB, bw⟩, ?_⟩)
  repeat ((first | with_reducible apply eag_move | with_reducible apply eag_assign | ((with_reducible refine eag_soft (v := ?_) (fun w' hw' => ?_) ?_); rotate_left 1; (focus (obtain ⟨hA, hB, hBw⟩ := hw'; obtain ⟨hcA, hfA⟩ := hA.facts; obtain ⟨hcB, hfB⟩ := hB.facts; go_simp; (try with_reducible rfl); done)))); simp only [Act.put, Act.eval, qs])
  refine eag_hard ?_
  go_wp2_with fail
  refine (add_any s4 s5 (En.Sp.fit_of_ok (En.mul_ok hs4)) (En.Sp.fit_of_ok (En.mul_ok hs5)) _).mono ?_
  intro e w6 hp
  obtain ⟨hb6, hcase⟩ := hp.cases
  clear hp
  replace bw : Below w.heap.size w w6 := below_next bw hb6
  replace HA := HA.call hb6
  replace HB := HB.call hb6
  replace HC := HC.call hb6
  have lw6 : w.heap.size ≤ w6.heap.size := bw.size
  clear hb6
  rcases hcase with ⟨s6, hs6, rfl⟩ | ⟨c6, hs6, rfl⟩
  rotate_left
  · exact ⟨rfl, post_err (by simp only [En.times, ebind_ok, ebind_err, epure, hs1, hs2, hs3, hs4, hs5, hs6]) bw⟩
  go_wp2_with fail
  (try refine ⟨⟨HA, HB, bw⟩, ?_⟩)
  repeat ((first | with_reducible apply eag_move | with_reducible apply eag_assign | ((with_reducible refine eag_soft (v := ?_) (fun w' hw' => ?_) ?_); rotate_left 1; (focus (obtain ⟨hA, hB, hBw⟩ := hw'; obtain ⟨hcA, hfA⟩ := hA.facts; obtain ⟨hcB, hfB⟩ := hB.facts; go_simp; (try with_reducible rfl); done)))); simp only [Act.put, Act.eval, qs])
  obtain ⟨hcC, hfC⟩ := HC.facts
  refine eag_hard ?_
  go_wp2_with fail
  refine ⟨⟨by exact hdx, by exact hdx, by go_grown⟩, ?_⟩
  refine eag_nil ?_
  go_wp2
  refine bodyPost_ret (run_results1 rfl rfl (by (show Hd _ (w.heap.size + 2) 25 #[.int .i64 s3.lo, .int .i64 s3.hi, .int .i64 s6.lo, .int .i64 s6.hi]); exact hdx) Try.underlying25 rfl (by kernel_rfl)) rfl (post_ok (s := ⟨s3, s6⟩) (by simp only [En.times, ebind_ok, ebind_err, epure, hs1, hs2, hs3, hs4, hs5, hs6]) (by go_grown))

end Go.Proofs.Ytpbbbfglecbceaa
/- Arguments that hold whole numbers alone: their readings do not depend on the world. -/
namespace Go.Proofs.Ytpbbbfglecbceaa
set_option linter.all false
open Go.ChangeShapes Go.WideShapes Go.ChangeAt Go.RowKit

section
variable {H : Type} {enc : TypeId × Value → H} {P : Program}

/-- A type whose values are rows of whole numbers. -/
def flatInt (P : Program) : Nat → TypeId → Bool
  | 0, _ => false
  | n + 1, t => match P.underlying t with
    | some (.int _) => true
    | some (.struct fs) => fs.toList.all fun f => flatInt P n f.type
    | some (.array _ e) => flatInt P n e
    | _ => false

theorem mapM_imp {α β : Type} {f g : α → Option β} : ∀ {l : List α} {ys : List β}, l.mapM f = some ys → (∀ a, a ∈ l → ∀ y, f a = some y → g a = some y) → l.mapM g = some ys
  | [], ys, h, _ => by simpa using h
  | a :: l, ys, h, k => by
    simp only [List.mapM_cons, Option.pure_def, Option.bind_eq_bind, Option.bind_eq_some_iff] at h ⊢
    obtain ⟨y, hy, zs, hz, e⟩ := h
    exact ⟨y, k a (by simp) y hy, zs, mapM_imp hz (fun b hb => k b (by simp [hb])), e⟩
theorem mapM_all {α β : Type} {f : α → Option β} {p : β → Prop} : ∀ {l : List α} {ys : List β}, l.mapM f = some ys → (∀ a, a ∈ l → ∀ y, f a = some y → p y) → ∀ y, y ∈ ys → p y
  | [], ys, h, _ => by
    simp at h
    subst h
    simp
  | a :: l, ys, h, k => by
    simp only [List.mapM_cons, Option.pure_def, Option.bind_eq_bind, Option.bind_eq_some_iff] at h
    obtain ⟨y, hy, zs, hz, e⟩ := h
    simp at e
    subst e
    intro z hz'
    simp at hz'
    rcases hz' with rfl | hz'
    · exact k a (by simp) _ hy
    · exact mapM_all hz (fun b hb => k b (by simp [hb])) z hz'
theorem flatMap_nil {α β : Type} {l : List (α × List β)} (h : ∀ y, y ∈ l → y.2 = []) : l.flatMap (·.2) = [] := by
  simp only [List.flatMap_eq_nil_iff]
  exact h

theorem trod_struct_open {w : World} {base : Nat} {spare : Nat → Bool} {held : Bool} {m : Nat} {t : TypeId} {fs : Array Field} {cs : List Value} {x : DataW H × List MemPlace} (ht : P.underlying t = some (.struct fs)) (h : DataW.trod enc P w base spare held (m + 1) t cs = some x) :
    ∃ xs : List (DataW H × List MemPlace), cs.length = P.cellsOf t ∧ fs.toList.mapM (fun f => DataW.trod enc P w base spare held m f.type ((cs.drop f.offset).take (P.cellsOf f.type))) = some xs ∧ x = (.agg (xs.map (·.1)), xs.flatMap (·.2)) := by
  unfold DataW.trod at h
  rw [ht] at h
  split at h <;> simp_all
  obtain ⟨hl, xs, hp, hd⟩ := h
  exact ⟨xs, hp, hd.symm⟩
theorem trod_array_open {w : World} {base : Nat} {spare : Nat → Bool} {held : Bool} {m : Nat} {t k e : Nat} {cs : List Value} {x : DataW H × List MemPlace} (ht : P.underlying t = some (.array k e)) (h : DataW.trod enc P w base spare held (m + 1) t cs = some x) :
    ∃ xs : List (DataW H × List MemPlace), cs.length = P.cellsOf t ∧ (List.range k).mapM (fun i => DataW.trod enc P w base spare held m e ((cs.drop (i * P.cellsOf e)).take (P.cellsOf e))) = some xs ∧ x = (.agg (xs.map (·.1)), xs.flatMap (·.2)) := by
  unfold DataW.trod at h
  rw [ht] at h
  split at h <;> simp_all
  obtain ⟨hl, xs, hp, hd⟩ := h
  exact ⟨xs, hp, hd.symm⟩
theorem trod_array_mk {w : World} {base : Nat} {spare : Nat → Bool} {held : Bool} {m : Nat} {t k e : Nat} {cs : List Value} {xs : List (DataW H × List MemPlace)} (ht : P.underlying t = some (.array k e)) (hl : cs.length = P.cellsOf t)
    (hp : (List.range k).mapM (fun i => DataW.trod enc P w base spare held m e ((cs.drop (i * P.cellsOf e)).take (P.cellsOf e))) = some xs) :
    DataW.trod enc P w base spare held (m + 1) t cs = some (.agg (xs.map (·.1)), xs.flatMap (·.2)) := by
  unfold DataW.trod
  rw [ht]
  split <;> simp_all

theorem trod_flat : ∀ (n : Nat) (t : TypeId) (fuel : Nat) (cs : List Value) (x : DataW H × List MemPlace) (w : World) (base : Nat) (spare : Nat → Bool) (held : Bool), flatInt P n t = true →
    DataW.trod enc P w base spare held fuel t cs = some x → x.2 = [] ∧ ∀ w' base' spare' held', DataW.trod enc P w' base' spare' held' fuel t cs = some x
  | 0, _, _, _, _, _, _, _, _, h, _ => by simp [flatInt] at h
  | n + 1, t, fuel, cs, x, w, base, spare, held, hf, h => by
    unfold flatInt at hf
    cases hu : P.underlying t with
    | none => rw [hu] at hf; simp at hf
    | some d =>
      rw [hu] at hf
      cases d with
      | int k =>
        obtain ⟨v, rfl, rfl, hw⟩ := DataW.trod_int hu h
        refine ⟨rfl, fun w' base' spare' held' => ?_⟩
        cases fuel with
        | zero => simp [DataW.trod] at h
        | succ m => simp [DataW.trod, hu, hw]
      | struct fs =>
        simp only [List.all_eq_true] at hf
        cases fuel with
        | zero => simp [DataW.trod] at h
        | succ m =>
          obtain ⟨xs, hl, hp, rfl⟩ := trod_struct_open hu h
          refine ⟨flatMap_nil (mapM_all hp (fun f hf' y hy => (trod_flat n _ m _ y w base spare held (hf f hf') hy).1)), fun w' base' spare' held' => ?_⟩
          exact trod_struct_mk hu hl (mapM_imp hp (fun f hf' y hy => (trod_flat n _ m _ y w base spare held (hf f hf') hy).2 w' base' spare' held'))
      | array k e =>
        simp only at hf
        cases fuel with
        | zero => simp [DataW.trod] at h
        | succ m =>
          obtain ⟨xs, hl, hp, rfl⟩ := trod_array_open hu h
          refine ⟨flatMap_nil (mapM_all hp (fun f hf' y hy => (trod_flat n _ m _ y w base spare held hf hy).1)), fun w' base' spare' held' => ?_⟩
          exact trod_array_mk hu hl (mapM_imp hp (fun f hf' y hy => (trod_flat n _ m _ y w base spare held hf hy).2 w' base' spare' held'))
      | _ => simp at hf

theorem trodAll_flat {n : Nat} : ∀ {ts : List TypeId} {vs : List Value} {ds : List (DataW H)} {p : List MemPlace} {w : World} {base : Nat} {spare : Nat → Bool} {held : Bool}, ts.all (flatInt P n) = true →
    DataW.TrodAll enc P w base spare held ts vs ds p → p = [] ∧ ∀ w' base' spare' held', DataW.TrodAll enc P w' base' spare' held' ts vs ds []
  | [], [], [], p, w, base, spare, held, _, h => ⟨h, fun _ _ _ _ => rfl⟩
  | t :: ts, v :: vs, d :: ds, p, w, base, spare, held, ht, h => by
    simp only [List.all_cons, Bool.and_eq_true] at ht
    obtain ⟨p1, p2, ⟨fuel, h1⟩, h2, rfl⟩ := h
    obtain ⟨e1, k1⟩ := trod_flat n t fuel _ _ w base spare held ht.1 h1
    obtain ⟨e2, k2⟩ := trodAll_flat ht.2 h2
    simp only at e1
    subst e1 e2
    exact ⟨rfl, fun w' base' spare' held' => ⟨[], [], ⟨fuel, k1 w' base' spare' held'⟩, k2 w' base' spare' held', rfl⟩⟩
  | [], _ :: _, _, _, _, _, _, _, _, h => by simp [DataW.TrodAll] at h
  | [], [], _ :: _, _, _, _, _, _, _, h => by simp [DataW.TrodAll] at h
  | _ :: _, [], _, _, _, _, _, _, _, h => by simp [DataW.TrodAll] at h
  | _ :: _, _ :: _, [], _, _, _, _, _, _, h => by simp [DataW.TrodAll] at h

/-- 'post_of_same' where the arguments hold whole numbers alone: the blocks that are new may be anything. -/
theorem post_flat {f : Func} {s : ChangeSpec} {apart fresh handsOn again : Bool} {W W' : World} {args : Array Value} {v : Value} {ds gs : List (DataW H)}
    (hW : DataW.Whole enc P f.params.toList s.vars apart W args.toList ds gs [])
    (hres : ∀ (b : Nat) (sp : Nat → Bool) (hd : Bool), DataW.TrodAll enc P W' b sp hd f.resultTypes.toList (v.resultList f.resultTypes.size) (s.fn H (ds ++ gs)).results [])
    (hargs : ∀ sp : Nat → Bool, DataW.TrodAll enc P W' 0 sp true f.params.toList args.toList (s.fn H (ds ++ gs)).args [])
    (hvars : ∀ sp : Nat → Bool, DataW.TrodVars enc P W' sp s.vars (s.fn H (ds ++ gs)).vars [])
    (hb : Below W.heap.size W W')
    (hok : ∀ (j : Nat) (t : TypeId) (r : Value), f.resultTypes[j]? = some t → (v.resultList f.resultTypes.size)[j]? = some r → Value.okWide P W' .any 0 t r) :
    s.post enc P f apart fresh handsOn again W args v W' := by
  refine ⟨ds, gs, [], [], [], [], hW, hres _ _ _, hargs _, hvars _, World.keptBut_mono (fun p hp => ⟨hp, by simp at hp⟩) (hb.frame (· ∈ [])), fun _ => ?_⟩
  refine ⟨hok, _, _, ([] ++ []) ++ [], ⟨[] ++ [], [], trodAll_append (hargs _) (hres _ _ _), hvars _, rfl, ?_, ?_⟩, ?_⟩
  · intro b off hp
    simp at hp
  · intro _
    simp
  · intro p hp _
    simp at hp

/-- The cells of a row of whole numbers. -/
theorem row_ints {w : World} {r : Reach} {b0 t : Nat} {cs : Array Value} {u : Nat} {m : Nat} (hts : P.cellTypes P.depth t = some (List.replicate m u)) (hu : P.underlying u = some (.int .i64)) (h : Row.okWide P w r b0 t cs) (i : Nat) (v : Value) (hv : cs[i]? = some v) : ∃ n, v = .int .i64 n := by
  obtain ⟨ts, h1, _, h3⟩ := h
  rw [hts] at h1
  cases h1
  obtain ⟨u', h4, h5⟩ := h3 i v hv
  have hu' : u' = u := by
    have := List.mem_of_getElem? h4
    exact List.eq_of_mem_replicate this
  subst hu'
  exact okWide_int (w := w) (r := r) (base := b0) hu (by simp only [Value.okWide, hu]; exact h5)
end

set_option maxRecDepth 20000 in
theorem open_rect {w : World} {r : Reach} {b0 : Nat} {v : Value} (h : Value.okWide Try.prog w r b0 25 v) : ∃ x : En.Rc, v = rcV x := by
  simp only [Value.okWide, Try.underlying25] at h
  obtain ⟨cs, rfl, hs, hr⟩ := h
  have hs' : cs.size = 4 := hs.trans (by kernel_rfl)
  have k := row_ints (u := 3) (m := 4) (by kernel_rfl) Try.underlying3 hr
  have g : ∀ i, i < 4 → ∃ n, cs[i]? = some (.int .i64 n) := fun i hi => by
    obtain ⟨n, hn⟩ := k i cs[i] (by simp [hs', hi])
    exact ⟨n, by simp [hs', hi, hn]⟩
  obtain ⟨a, ha⟩ := g 0 (by omega)
  obtain ⟨b, hb⟩ := g 1 (by omega)
  obtain ⟨c, hc⟩ := g 2 (by omega)
  obtain ⟨d, hd⟩ := g 3 (by omega)
  refine ⟨⟨⟨a, b⟩, ⟨c, d⟩⟩, ?_⟩
  congr 1
  apply Array.ext_getElem?
  intro i
  rcases Nat.lt_or_ge i 4 with hi | hi
  · have : i = 0 ∨ i = 1 ∨ i = 2 ∨ i = 3 := by omega
    rcases this with rfl | rfl | rfl | rfl
    · rw [ha]; rfl
    · rw [hb]; rfl
    · rw [hc]; rfl
    · rw [hd]; rfl
  · rw [Array.getElem?_eq_none (by omega), Array.getElem?_eq_none (by simpa using hi)]
end Go.Proofs.Ytpbbbfglecbceaa
