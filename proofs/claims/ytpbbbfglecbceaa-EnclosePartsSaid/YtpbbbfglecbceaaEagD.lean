/- A region that draws its order inside a function that defers: as Eag, but what an error leaves to the deferred calls may read the results' temporaries. -/
import Derived.Test.YtpbbbfglecbceaaEag
import Derived.Defers
namespace Go.Proofs.Ytpbbbfglecbceaa
set_option linter.all false
open Go.RowKit

section
variable {P : Program} {ops : Array Oper} {Q : Exit → Act → World → Prop} {md : Region.Mode} {S : World → Prop}

/-- What is taken early lies in temporaries from B on. -/
def dstsB (ops : Array Oper) (B : Nat) : List (Nat × Bool) → Bool
  | [] => true
  | (i, true) :: l => (match ops[i]? with
    | some o => (match o.dst with
      | some d => decide (B ≤ d)
      | none => false)
    | none => false) && dstsB ops B l
  | (_, false) :: l => dstsB ops B l

theorem wpAnyH_of_eagD {B : Nat} (hs : Region.noSelect ops = true) (hQ : ∀ c d v a w, B ≤ d → Q (.panic c) (Act.put a (some d) v) w → Q (.panic c) a w) :
    ∀ (l : List (Nat × Bool)) (listed : Array Bool) (a : Act) (w : World), eagB md ops l listed = true → dstsB ops B l = true → S w → wpEag P ops Q S l a w →
      wpAnyH P md ops Q S l.length listed a w
  | [], listed, a, w, hB, _, _, h => ⟨by simpa [eagB] using hB, h⟩
  | (i, true) :: l, listed, a, w, hB, hD, hS, h => by
    simp only [eagB, Bool.and_eq_true] at hB
    obtain ⟨hr, hf, hB'⟩ := hB
    obtain ⟨o, v, ho, hy, hrest⟩ := h
    simp only [dstsB, ho, Bool.and_eq_true] at hD
    obtain ⟨hd, hD'⟩ := hD
    cases hdst : o.dst with
    | none => rw [hdst] at hd; simp at hd
    | some d =>
      rw [hdst] at hd
      refine wpAnyH_take ho hs hf hr (fun c a w h => hQ c d v a w (of_decide_eq_true hd) (by rw [← hdst]; exact h)) hy hS (wpAnyH_of_eagD hs hQ l _ _ _ hB' hD' hS hrest)
  | (i, false) :: l, listed, a, w, hB, hD, hS, h => by
    simp only [eagB, Bool.and_eq_true] at hB
    obtain ⟨hr, hB'⟩ := hB
    have hr' : Region.ready md ops listed = [i] := by
      revert hr
      split
      · rename_i j hj; intro hr; rw [hj]; simp at hr; rw [hr]
      · intro hr; cases hr
    refine wpAnyH_all hr' (by simp) (fun j hj => ?_)
    have hji : j = i := by simpa using hj
    subst hji
    exact wpOp_mono (fun a' w' h' => ⟨h'.1, wpAnyH_of_eagD hs hQ l _ _ _ hB' hD h'.1 h'.2⟩) h

theorem wp_region_eagD {id : Nat} {a : Act} {w : World} {l : List Oper} (S : World → Prop) (B : Nat) (ord : List (Nat × Bool)) (hm : P.follows .mixedOrders = true)
    (hB : (Region.noSelect l.toArray && (decide (ord.length = l.length) && ((ord.all fun p => decide (p.1 < l.length)) && (dstsB l.toArray B ord && eagB .any l.toArray ord (Array.replicate l.length false))))) = true)
    (hQ : ∀ c d v a w, B ≤ d → Q (.panic c) (Act.put a (some d) v) w → Q (.panic c) a w) (hS : S w.drew)
    (h : wpEagL P l.toArray Q S (ord.map fun p => (l.getD p.1 default, p.2)) a w.drew) : (Code.region id l.toArray true).wp P Q a w := by
  simp only [Bool.and_eq_true, decide_eq_true_eq] at hB
  obtain ⟨hs, hl, hi, hD, hB⟩ := hB
  refine wp_region_held (S := S) hm ?_
  have := wpAnyH_of_eagD (md := .any) hs hQ ord _ a w.drew hB hD hS (wpEag_of_L ord a w.drew (by simpa using hi) (by simpa using h))
  rw [hl] at this
  simpa using this
end

/-- What the deferred calls leave depends on the temporaries of the results alone. -/
theorem leaves_tmps {P : Program} {fn : Func} {t t' : Array Value} {R : Ending → World → Prop} (ht : ∀ w, (results fn t').run P w = (results fn t).run P w) :
    ∀ (ds : List Deferred) (u : FrameMode) (w : World), Leaves P fn t R ds u w → Leaves P fn t' R ds u w
  | [], u, w, h => by
    cases u with
    | returning =>
      obtain ⟨v, hv, hr⟩ := h
      exact ⟨v, (ht w).trans hv, hr⟩
    | panicking c => exact h
    | run => exact h
  | d :: ds, u, w, h => by
    obtain ⟨hu, fv, cap, f, args, h1, h2, h3⟩ := h
    refine ⟨hu, fv, cap, f, args, h1, h2, h3.mono ?_⟩
    intro e u' w' he
    cases e with
    | returned x => exact leaves_tmps ht ds _ _ he
    | panicked c => exact leaves_tmps ht ds _ _ he
    | outgrown => exact he
theorem results_cc_put {P : Program} {fn : Func} {k k' ty ty' : Nat} (hres : fn.results = #[.cell k ty, .cell k' ty']) {t : Array Value} {d : Nat} {v : Value} (h : k ≠ d) (h' : k' ≠ d) (w : World) :
    (results fn t).run P w = (results fn (t.setIfInBounds d v)).run P w := by
  simp [results, hres, Array.getElem?_setIfInBounds, h.symm, h'.symm, h, h']
end Go.Proofs.Ytpbbbfglecbceaa
