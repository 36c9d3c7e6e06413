/- Texts in one: Eag, Hd, Tr, Ord, Sx, Sr, Sl, Frm, NmPl, VaPl, PgN. -/
import Derived.Test.YtccbinnlnkpplaaRows
import Derived.WalkKit
import Derived.Deep.RegionHeld3
import Derived.WalkLawsBesides
import Derived.Handy
import Derived.Lib.Hide
import Derived.Deep.Light
import Derived.Outline
import Derived.Deep.QuietTactic
import Derived.BigQuiet
import Derived.LoopN
import Derived.LoopNIn
import Derived.RangeFuncLeaves
import Derived.RangeFuncRecord
import Derived.TacticsIn
import Derived.IntWalk
import Derived.ProofKit
import Derived.OpenShut
import Derived.ChangeSame
import Derived.Carry
namespace Go.Proofs.Ytccbinnlnkpplaa
set_option linter.all false
open Go.RowKit

section
variable {P : Program} {ops : Array Oper} {Q : Exit → Act → World → Prop} {md : Region.Mode} {S : World → Prop}

/-- What a list of one operation says of it. -/
theorem wpOp_of_list {K : Act → World → Prop} {i : Nat} {a : Act} {w : World} {o : Oper} (ho : ops[i]? = some o) (h : wpList P ops (Exit.then K Q) [o] a w) : wpOp P ops Q i K a w := by
  unfold wpOp
  simp only [ho]
  unfold wpList at h
  split
  · rename_i hw
    rw [if_pos hw] at h
    rcases h with h | h
    · refine .inl ?_
      unfold Oper.wp at *
      generalize (execOp a.eval o).run P w = r at *
      cases r with
      | ok n w' =>
        cases n <;> simp only [Oper.upon] at h ⊢ <;>
          first
            | exact h
            | exact Calls.mono h (fun e w'' he => by cases e <;> first | exact he | (obtain ⟨a₀, w₀, h₀⟩ := he; exact ⟨a₀, w₀, h₀⟩))
      | halt x w' => cases x <;> simp only [Oper.upon] at h ⊢ <;> exact h
    · obtain ⟨h1, a₀, w₀, h2⟩ := h
      exact .inr ⟨h1, a₀, w₀, h2⟩
  · rename_i hw
    rw [if_neg hw] at h
    exact h

section
variable {l : List (Oper × Bool)} {a : Act} {w : World} {d : Option Tmp} {op : Op} {t : TypeId} {p : String} {af : Array Edge} {v : Value}
end

section
variable {u : Oper} {l : List (Oper × Nat)} {a : Act} {w : World} {d : Option Tmp} {op : Op} {t : TypeId} {p : String} {af : Array Edge} {v : Value}
end
end

theorem qs {α : Type} : (∀ (xs : List α) (i : Nat) (a : α), xs.toArray.setIfInBounds i a = (xs.set i a).toArray) ∧ (∀ (x : α) (xs : List α) (a : α), (x :: xs).set 0 a = a :: xs) ∧ (∀ (x : α) (xs : List α) (a : α) (n : Nat), (x :: xs).set (n + 1) a = x :: xs.set n a) ∧ (∀ (xs : Array α) (i : Nat) (d : α), xs.getD i d = xs[i]?.getD d) ∧ (∀ (xs : List α) (i : Nat), xs.toArray[i]? = xs[i]?) ∧ (∀ (x : α) (xs : List α), (x :: xs)[0]? = some x) ∧ (∀ (x : α) (xs : List α) (n : Nat), (x :: xs)[n + 1]? = xs[n]?) ∧ (∀ (x y : α), (some x).getD y = x) :=
  ⟨fun _ _ _ => List.setIfInBounds_toArray .., fun _ _ _ => rfl, fun _ _ _ _ => rfl, fun _ _ _ => Array.getD_eq_getD_getElem? .., fun _ _ => List.getElem?_toArray .., fun _ _ => rfl, fun _ _ _ => rfl, fun _ _ => rfl⟩
theorem qm {α : Type} : (∀ {β : Type} (f : α → β) (xs : List α), xs.toArray.map f = (xs.map f).toArray) ∧ (∀ {β : Type} (f : α → β) (x : α) (xs : List α), (x :: xs).map f = f x :: xs.map f) ∧ (∀ {β : Type} (f : α → β), ([] : List α).map f = []) :=
  ⟨fun _ _ => List.map_toArray .., fun _ _ _ => rfl, fun _ => rfl⟩
end Go.Proofs.Ytccbinnlnkpplaa
namespace Go.Proofs.Ytccbinnlnkpplaa
set_option linter.all false
open Go.RowKit

/-- Block g is a row of cells, none of them shared with a string. -/
def Hd (w : World) (g : Nat) (t : TypeId) (cs : Array Value) : Prop := w.heap[g]? = some (.cells cs t (0, 0))

section
variable {w w' : World} {g : Nat} {t : TypeId} {cs : Array Value}
theorem Hd.lt (h : Hd w g t cs) : g < w.heap.size := by
  rcases Nat.lt_or_ge g w.heap.size with hlt | hge
  · exact hlt
  · unfold Hd at h; rw [Array.getElem?_eq_none hge] at h; cases h
theorem Hd.cell (h : Hd w g t cs) (i : Nat) : w.cell? ⟨g, i, none⟩ = cs[i]? := cell_of_row w g i cs t (0, 0) h
theorem Hd.free (h : Hd w g t cs) (i : Nat) : w.frozen? ⟨g, i, none⟩ = false := by
  unfold Hd at h
  simp [World.frozen?, h]
theorem Hd.facts (h : Hd w g t cs) : (∀ i, w.cell? ⟨g, i, none⟩ = cs[i]?) ∧ (∀ i, w.frozen? ⟨g, i, none⟩ = false) := ⟨h.cell, h.free⟩
theorem Hd.new {g : Nat} (hg : g = w.heap.size) : Hd (w.alloc (.cells cs t)) g t cs := by subst hg; exact heap_alloc_new w _
theorem Hd.drew (h : Hd w g t cs) : Hd w.drew g t cs := h
theorem Hd.alloc (h : Hd w g t cs) (o : Obj) : Hd (w.alloc o) g t cs := (Below.heap_alloc w o g h.lt).trans h
theorem Hd.set (h : Hd w g t cs) (i : Nat) (u : Value) : Hd (w.setCell ⟨g, i, none⟩ u) g t (cs.setIfInBounds i u) := by
  unfold Hd at h ⊢
  simp [World.setCell, Array.getElem?_modify, h]
theorem Hd.set' {cs' : Array Value} {i : Nat} {u : Value} (h : Hd w g t cs) (e : cs.setIfInBounds i u = cs') : Hd (w.setCell ⟨g, i, none⟩ u) g t cs' := e ▸ h.set i u
theorem Hd.far (h : Hd w g t cs) {p : Addr} (hp : g ≠ p.block) (u : Value) : Hd (w.setCell p u) g t cs := (Below.heap_setCell w p u g hp).trans h
theorem Hd.below {B : Nat} (h : Hd w g t cs) (hb : Below B w w') (hg : g < B) : Hd w' g t cs := (hb.block g hg).trans h
theorem Hd.call (h : Hd w g t cs) (hb : Below w.heap.size w w') : Hd w' g t cs := h.below hb h.lt
theorem Hd.ne {g' : Nat} {t' : TypeId} {cs' : Array Value} (h : Hd w g t cs) (h' : Hd w g' t' cs') (hne : cs ≠ cs') : g ≠ g' := by
  rintro rfl
  unfold Hd at h h'
  rw [h] at h'
  injection h' with h'
  injection h' with h1 _
  exact hne h1
end

section
variable {w w' : World} {g : Nat} {t : TypeId} {cs cs' : Array Value} {o : Obj} {i : Nat} {u : Value} {p : Addr}
theorem hdN (hg : g = w.heap.size) : Hd (w.alloc (.cells cs t)) g t cs := Hd.new hg
theorem hdA (h : Hd w g t cs) : Hd (w.alloc o) g t cs := h.alloc o
theorem hdD (h : Hd w g t cs) : Hd w.drew g t cs := h
theorem hdS (h : Hd w g t cs) (e : cs.setIfInBounds i u = cs') : Hd (w.setCell ⟨g, i, none⟩ u) g t cs' := h.set' e
theorem hdF (h : Hd w g t cs) (hp : g ≠ p.block) : Hd (w.setCell p u) g t cs := h.far hp u
end
theorem sA (w : World) (o : Obj) : (w.alloc o).heap.size = w.heap.size + 1 := World.size_alloc w o
theorem sS (w : World) (a : Addr) (u : Value) : (w.setCell a u).heap.size = w.heap.size := World.size_setCell w a u
theorem sD (w : World) : w.drew.heap.size = w.heap.size := World.size_drew w

/-- A type whose values are rows of cells. -/
def isRow : TypeDesc → Bool
  | .struct _ => true
  | .array _ _ => true
  | _ => false

section
variable {P : Program} {w : World}
theorem run_load_hd {g t ty : Nat} {cs : Array Value} {d : TypeDesc} (hg : Hd w g t cs) (hu : P.underlying ty = some d) (hr : isRow d = true)
    (hs : (P.info? ty).map (·.size) = some cs.size) : (loadVar ty ⟨g, 0, none⟩).run P w = .ok (.agg cs) w := by
  refine run_loadVar_row w g t ty cs (0, 0) d hg hu ?_ hs
  cases d <;> first | rfl | cases hr

theorem run_results1 {fn : Func} {k ty : Nat} {tmps : Array Value} {g t : Nat} {cs : Array Value} {d : TypeDesc} (hres : fn.results = #[.cell k ty])
    (hk : tmps.getD k undef = .pointer (some ⟨g, 0, none⟩)) (hg : Hd w g t cs) (hu : P.underlying ty = some d) (hr : isRow d = true)
    (hs : (P.info? ty).map (·.size) = some cs.size) : (results fn tmps).run P w = .ok (.agg cs) w := by
  have := run_load_hd hg hu hr hs
  have hk0 : tmps[k]?.getD undef = .pointer (some ⟨g, 0, none⟩) := by simpa using hk
  simp [results, hres, hk0, asAddr, this]

theorem run_results2 {fn : Func} {k ty u : Nat} {tmps : Array Value} {g t : Nat} {cs : Array Value} {d : TypeDesc} (hres : fn.results = #[.cell k ty, .tmp u])
    (hk : tmps.getD k undef = .pointer (some ⟨g, 0, none⟩)) (hg : Hd w g t cs) (hu : P.underlying ty = some d) (hr : isRow d = true)
    (hs : (P.info? ty).map (·.size) = some cs.size) : (results fn tmps).run P w = .ok (.tuple #[.agg cs, tmps.getD u undef]) w := by
  have := run_load_hd hg hu hr hs
  have hk0 : tmps[k]?.getD undef = .pointer (some ⟨g, 0, none⟩) := by simpa using hk
  simp [results, hres, hk0, asAddr, this]

end

theorem hdx {P : Prop} (h : P := by (with_reducible repeat' (first | assumption | (apply hdN; (try simp only [sA, sS, sD]); done) | apply hdA | apply hdD | apply hdS | (apply hdF; case hp => first | (simp; done) | (simp; omega)) | with_unfolding_all rfl))) : P := h
end Go.Proofs.Ytccbinnlnkpplaa
namespace Go.Proofs.Ytccbinnlnkpplaa
set_option linter.all false
open Go.RowKit

/-- The rest of the region. -/
def wpT (P : Program) (md : Region.Mode) (ops : Array Oper) (Q : Exit → Act → World → Prop) (S : World → Prop) (fuel : Nat) (listed : Array Bool) (a : Act) (w : World) : Prop :=
  wpAnyH P md ops Q S fuel listed a w

section
variable {P : Program} {ops : Array Oper} {Q : Exit → Act → World → Prop} {md : Region.Mode} {S : World → Prop} {fuel : Nat} {listed : Array Bool} {a : Act} {w : World}

theorem tr_hard1 {i : Nat} {o : Oper} (hr : Region.ready md ops listed = [i]) (ho : ops[i]? = some o)
    (h : wpList P ops (Exit.then (fun a' w' => S w' ∧ wpT P md ops Q S fuel (listed.setIfInBounds i true) a' w') Q) [o] a w) : wpT P md ops Q S (fuel + 1) listed a w := by
  refine wpAnyH_all hr (by simp) fun k hk => ?_
  obtain rfl : k = i := by simpa using hk
  exact wpOp_of_list ho h

theorem tr_hard2 {i j : Nat} {o u : Oper} (hr : Region.ready md ops listed = [i, j]) (ho : ops[i]? = some o) (hu : ops[j]? = some u)
    (h : wpList P ops (Exit.then (fun a' w' => S w' ∧ wpT P md ops Q S fuel (listed.setIfInBounds i true) a' w') Q) [o] a w)
    (h' : wpList P ops (Exit.then (fun a' w' => S w' ∧ wpT P md ops Q S fuel (listed.setIfInBounds j true) a' w') Q) [u] a w) : wpT P md ops Q S (fuel + 1) listed a w := by
  refine wpAnyH_all hr (by simp) fun k hk => ?_
  have hk' : k = i ∨ k = j := by simpa using hk
  rcases hk' with rfl | rfl
  · exact wpOp_of_list ho h
  · exact wpOp_of_list hu h'

theorem tr_nil (hr : (Region.ready md ops listed).isEmpty = true) (h : Q .normal a w) : wpT P md ops Q S 0 listed a w := ⟨by simpa using hr, h⟩

theorem wp_region_tr {id : Nat} (S : World → Prop) (hm : P.follows .mixedOrders = true) (h : wpT P .any ops Q S ops.size (Array.replicate ops.size false) a w.drew) : (Code.region id ops true).wp P Q a w :=
  wp_region_held hm h
end

end Go.Proofs.Ytccbinnlnkpplaa
namespace Go.Proofs.Ytccbinnlnkpplaa
set_option linter.all false
open Go.RowKit

section
variable {P : Program} {ops : Array Oper} {Q : Exit → Act → World → Prop} {md : Region.Mode}

/-- As wpAnyH; what is known hangs on which operations have come up. -/
def wpAnyF (P : Program) (md : Region.Mode) (ops : Array Oper) (Q : Exit → Act → World → Prop) (S : Array Bool → World → Prop) : Nat → Array Bool → Act → World → Prop
  | 0, listed, a, w => Region.ready md ops listed = [] ∧ Q .normal a w
  | fuel + 1, listed, a, w =>
    (Region.ready md ops listed = [] → Q .normal a w) ∧
    ∀ i ∈ Region.ready md ops listed, wpOp P ops Q i (fun a' w' => S (listed.setIfInBounds i true) w' ∧ wpAnyF P md ops Q S fuel (listed.setIfInBounds i true) a' w') a w

theorem wpAny_of_F {S : Array Bool → World → Prop} : ∀ (fuel : Nat) (listed : Array Bool) (a : Act) (w : World), wpAnyF P md ops Q S fuel listed a w → wpAny P md ops Q fuel listed a w
  | 0, _, _, _, h => h
  | fuel + 1, _, _, _, h => ⟨h.1, fun i hi => wpOp_mono (fun a' w' h' => wpAny_of_F fuel _ a' w' h'.2) (h.2 i hi)⟩

/-- An operation that may come up now may be taken first: nothing that does not wait for it changes what is known. -/
theorem wpAnyF_first {S : Array Bool → World → Prop} {T : World → Prop} {i : Nat} {oi : Oper} {v : Value} (hi : ops[i]? = some oi) (hsel : ∀ (j : Nat) (o : Oper) cs b, ops[j]? = some o → o.op ≠ .select cs b)
    (hQ : ∀ c a w, Q (.panic c) (a.put oi.dst v) w → Q (.panic c) a w)
    (hSi : ∀ listed w, S (listed.setIfInBounds i true) w ↔ S listed w)
    (hSj : ∀ j oj, ops[j]? = some oj → (∀ e ∈ oj.after, Region.binds md e = true → e.on ≠ i) → ∀ listed, (∀ w, S listed w → T w) → ∀ w, S (listed.setIfInBounds j true) w → T w) :
    ∀ (fuel : Nat) (listed : Array Bool) (a : Act) (w : World), (∀ w, S listed w → T w) →
      (∀ j oj, ops[j]? = some oj → j ≠ i → listed.getD j true = false → (∀ e ∈ oj.after, Region.binds md e = true → e.on ≠ i) → oi.apart ops oj = true) →
      i ∈ Region.ready md ops listed → YieldsIf P ops T oi v a → S listed w →
      wpAnyF P md ops Q S fuel (listed.setIfInBounds i true) (a.put oi.dst v) w → wpAnyF P md ops Q S (fuel + 1) listed a w := by
  intro fuel
  induction fuel with
  | zero =>
    intro listed a w hT _ hr hy hS H
    refine ⟨fun h => (by rw [h] at hr; cases hr), fun j hj => ?_⟩
    by_cases hji : j = i
    · subst hji; exact hy.wpOp hi (hT w hS) ⟨(hSi _ _).2 hS, H⟩
    · have := ready_mono hj hji
      rw [H.1] at this
      cases this
  | succ fuel ih =>
    intro listed a w hT hfree hr hy hS H
    refine ⟨fun h => (by rw [h] at hr; cases hr), fun j hj => ?_⟩
    by_cases hji : j = i
    · subst hji; exact hy.wpOp hi (hT w hS) ⟨(hSi _ _).2 hS, H⟩
    · have h1 := H.2 j (ready_mono hj hji)
      obtain ⟨hjun, oj, hoj, hall⟩ := mem_ready.1 hj
      have hnot : ∀ e ∈ oj.after, Region.binds md e = true → e.on ≠ i := fun e he hb heq => by
        have h1 := hall e he hb
        have h0 := (mem_ready.1 hr).1
        rw [heq] at h1
        rcases Nat.lt_or_ge i listed.size with h' | h'
        · simp [h'] at h0 h1; rw [h0] at h1; cases h1
        · simp [Array.getElem?_eq_none h'] at h1
      have h2 := wpOp_putIf hoj (hfree j oj hoj hji hjun hnot) (fun cs b => hsel i oi cs b hi) (fun cs b => hsel j oj cs b hoj) hQ hy h1
      have hfree' : ∀ k ok, ops[k]? = some ok → k ≠ i → (listed.setIfInBounds j true).getD k true = false →
          (∀ e ∈ ok.after, Region.binds md e = true → e.on ≠ i) → oi.apart ops ok = true := fun k ok hk hki hun hno => by
        refine hfree k ok hk hki ?_ hno
        by_cases hjk : j = k
        · subst hjk; exact hjun
        · rw [getD_set_ne true hjk] at hun; exact hun
      have hSjj := hSj j oj hoj hnot listed hT
      refine wpOp_mono (fun a' w' h3 => ?_) h2
      have hS3 : S (listed.setIfInBounds j true) w' := by
        have := h3.2.1
        rw [Array.setIfInBounds_comm _ _ (Ne.symm hji)] at this
        exact (hSi _ _).1 this
      refine ⟨hS3, ih (listed.setIfInBounds j true) a' w' hSjj hfree' (ready_mono hr (Ne.symm hji)) h3.1 hS3 ?_⟩
      rw [Array.setIfInBounds_comm _ _ hji]
      exact h3.2.2

/-- What is known: base, till the first of the marked operations has come up; then the next. -/
def sOf : List (Nat × (World → Prop)) → (World → Prop) → Array Bool → World → Prop
  | [], b, _ => b
  | (m, p) :: r, b, listed => if listed.getD m false then sOf r p listed else b

theorem sOf_other {j : Nat} : ∀ (l : List (Nat × (World → Prop))) (b : World → Prop) (listed : Array Bool), (∀ x ∈ l, x.1 ≠ j) → sOf l b (listed.setIfInBounds j true) = sOf l b listed
  | [], _, _, _ => rfl
  | (m, p) :: r, b, listed, h => by
    have hm : j ≠ m := Ne.symm (h (m, p) (by simp))
    simp only [sOf]
    rw [getD_set_ne false hm, sOf_other r p listed (fun x hx => h x (by simp [hx]))]

/-- An order: (i, 0): read, taken as soon as it may come up; (i, 1): carried out, alone; (i, 2): carried out, alone; from here on other things are known; (i, 3): reads what c tells, which is known throughout. -/
def wpEagF (P : Program) (ops : Array Oper) (Q : Exit → Act → World → Prop) (c : World → Prop) : List (Nat × Nat) → List (Nat × (World → Prop)) → (World → Prop) → Act → World → Prop
  | [], _, _, a, w => Q .normal a w
  | (i, 0) :: l, m, b, a, w => ∃ o v, ops[i]? = some o ∧ YieldsIf P ops b o v a ∧ wpEagF P ops Q c l m b (a.put o.dst v) w
  | (i, 1) :: l, m, b, a, w => wpOp P ops Q i (fun a' w' => b w' ∧ wpEagF P ops Q c l m b a' w') a w
  | (i, 2) :: l, m, b, a, w => match m with
    | [] => False
    | (_, p) :: r => wpOp P ops Q i (fun a' w' => p w' ∧ wpEagF P ops Q c l r p a' w') a w
  | (i, _ + 3) :: l, m, b, a, w => ∃ o v, ops[i]? = some o ∧ YieldsIf P ops c o v a ∧ wpEagF P ops Q c l m b (a.put o.dst v) w

/-- The check of an order; ms: the marked operations that are still to come. -/
def eagF (md : Region.Mode) (ops : Array Oper) : List (Nat × Nat) → List Nat → Array Bool → Bool
  | [], ms, listed => (Region.ready md ops listed).isEmpty
  | (i, 0) :: l, ms, listed => (Region.ready md ops listed).contains i && (Region.free md ops listed i &&
      ((ms.all fun m => m != i && ((ops[m]?).map fun o => o.after.any fun e => Region.binds md e && e.on == i).getD false) && eagF md ops l ms (listed.setIfInBounds i true)))
  | (i, 1) :: l, ms, listed => decide (Region.ready md ops listed = [i]) && (!ms.contains i && eagF md ops l ms (listed.setIfInBounds i true))
  | (i, 2) :: l, ms, listed => match ms with
    | [] => false
    | m :: r => decide (Region.ready md ops listed = [i]) && (m == i && (decide (i < listed.size) && (!r.contains i && eagF md ops l r (listed.setIfInBounds i true))))
  | (i, _ + 3) :: l, ms, listed => (Region.ready md ops listed).contains i && (Region.free md ops listed i && (!ms.contains i && eagF md ops l ms (listed.setIfInBounds i true)))

theorem wpAnyF_congr {S S' : Array Bool → World → Prop} (p : Array Bool → Prop) (hp : ∀ listed i, p listed → p (listed.setIfInBounds i true)) (he : ∀ listed, p listed → S listed = S' listed) :
    ∀ (fuel : Nat) (listed : Array Bool) (a : Act) (w : World), p listed → wpAnyF P md ops Q S fuel listed a w → wpAnyF P md ops Q S' fuel listed a w
  | 0, _, _, _, _, h => h
  | fuel + 1, listed, _, _, hl, h => ⟨h.1, fun i hi => wpOp_mono (fun a' w' h' => ⟨(he _ (hp _ i hl)) ▸ h'.1, wpAnyF_congr p hp he fuel _ a' w' (hp _ i hl) h'.2⟩) (h.2 i hi)⟩

theorem sOf_c {c : World → Prop} : ∀ (m : List (Nat × (World → Prop))) (b : World → Prop) (listed : Array Bool), (∀ w, b w → c w) → (∀ x ∈ m, ∀ w, x.2 w → c w) → ∀ w, sOf m b listed w → c w
  | [], _, _, hb, _, w, h => hb w h
  | (m, p) :: r, b, listed, hb, hm, w, h => by
    simp only [sOf] at h
    split at h
    · exact sOf_c r p listed (hm (m, p) (by simp)) (fun x hx => hm x (by simp [hx])) w h
    · exact hb w h

theorem wpAnyF_of_eag {c : World → Prop} (hs : Region.noSelect ops = true) (hQ : ∀ c d v a w, Q (.panic c) (Act.put a d v) w → Q (.panic c) a w) :
    ∀ (l : List (Nat × Nat)) (m : List (Nat × (World → Prop))) (b : World → Prop) (listed : Array Bool) (a : Act) (w : World), (∀ x ∈ m, listed.getD x.1 false = false) →
      (∀ w, b w → c w) → (∀ x ∈ m, ∀ w, x.2 w → c w) → eagF md ops l (m.map (·.1)) listed = true → b w → wpEagF P ops Q c l m b a w → wpAnyF P md ops Q (sOf m b) l.length listed a w
  | [], m, b, listed, a, w, hm, _, _, hB, _, h => ⟨by simpa [eagF] using hB, h⟩
  | (i, 0) :: l, m, b, listed, a, w, hm, hc, hcm, hB, hb, h => by
    simp only [eagF, Bool.and_eq_true] at hB
    obtain ⟨hr, hf, hms, hB'⟩ := hB
    obtain ⟨o, v, ho, hy, hrest⟩ := h
    have hbase : ∀ listed' : Array Bool, (∀ x ∈ m, listed'.getD x.1 false = false) → sOf m b listed' = b := by
      intro listed' h'
      cases m with
      | nil => rfl
      | cons x r => simp only [sOf]; rw [if_neg (by rw [h' x (by simp)]; simp)]
    have hmi : ∀ x ∈ m, x.1 ≠ i := fun x hx e => by
      have := List.all_eq_true.1 hms x.1 (List.mem_map.2 ⟨x, hx, rfl⟩)
      simp [e] at this
    have hmw : ∀ j oj, ops[j]? = some oj → (∀ e ∈ oj.after, Region.binds md e = true → e.on ≠ i) → ∀ x ∈ m, x.1 ≠ j := fun j oj hoj hno x hx e => by
      have := List.all_eq_true.1 hms x.1 (List.mem_map.2 ⟨x, hx, rfl⟩)
      rw [e, hoj] at this
      simp only [Option.map_some, Option.getD_some, Bool.and_eq_true, Array.any_eq_true] at this
      obtain ⟨_, n, hn, h1, h2⟩ := this
      exact hno _ (Array.getElem_mem hn) h1 (by simpa using h2)
    refine wpAnyF_first (T := b) ho (Region.noSelect_spec hs) (fun c a w => hQ c _ _ a w) (fun listed w => by rw [sOf_other m b listed hmi]) (fun j oj hoj hno listed h w hw => h w (by rw [sOf_other m b listed (hmw j oj hoj hno)] at hw; exact hw))
      l.length listed a w (by rw [hbase listed hm]; exact fun _ h => h) (Region.free_spec ho hf) (by simpa using hr) hy (by rw [hbase listed hm]; exact hb) ?_
    exact wpAnyF_of_eag hs hQ l m b _ _ _ (fun x hx => by rw [getD_set_ne false (Ne.symm (hmi x hx))]; exact hm x hx) hc hcm hB' hb hrest
  | (i, n + 3) :: l, m, b, listed, a, w, hm, hc, hcm, hB, hb, h => by
    simp only [eagF, Bool.and_eq_true, Bool.not_eq_true'] at hB
    obtain ⟨hr, hf, hni, hB'⟩ := hB
    obtain ⟨o, v, ho, hy, hrest⟩ := h
    have hmi : ∀ x ∈ m, x.1 ≠ i := fun x hx e => by
      have : (m.map (·.1)).contains i = true := by simp only [List.contains_iff_mem]; exact List.mem_map.2 ⟨x, hx, e⟩
      rw [this] at hni; cases hni
    have hbase : ∀ listed' : Array Bool, (∀ x ∈ m, listed'.getD x.1 false = false) → sOf m b listed' = b := by
      intro listed' h'
      cases m with
      | nil => rfl
      | cons x r => simp only [sOf]; rw [if_neg (by rw [h' x (by simp)]; simp)]
    refine wpAnyF_first (T := c) ho (Region.noSelect_spec hs) (fun c a w => hQ c _ _ a w) (fun listed w => by rw [sOf_other m b listed hmi]) (fun _ _ _ _ _ _ => sOf_c m b _ hc hcm)
      l.length listed a w (sOf_c m b _ hc hcm) (Region.free_spec ho hf) (by simpa using hr) hy (by rw [hbase listed hm]; exact hb) ?_
    exact wpAnyF_of_eag hs hQ l m b _ _ _ (fun x hx => by rw [getD_set_ne false (Ne.symm (hmi x hx))]; exact hm x hx) hc hcm hB' hb hrest
  | (i, 1) :: l, m, b, listed, a, w, hm, hc, hcm, hB, hb, h => by
    simp only [eagF, Bool.and_eq_true, decide_eq_true_eq, Bool.not_eq_true'] at hB
    obtain ⟨hr, hni, hB'⟩ := hB
    have hmi : ∀ x ∈ m, x.1 ≠ i := fun x hx e => by
      have : (m.map (·.1)).contains i = true := by simp only [List.contains_iff_mem]; exact List.mem_map.2 ⟨x, hx, e⟩
      rw [this] at hni; cases hni
    have hm' : ∀ x ∈ m, (listed.setIfInBounds i true).getD x.1 false = false := fun x hx => by rw [getD_set_ne false (Ne.symm (hmi x hx))]; exact hm x hx
    have hbase : sOf m b (listed.setIfInBounds i true) = b := by
      cases m with
      | nil => rfl
      | cons x r => simp only [sOf]; rw [if_neg (by rw [hm' x (by simp)]; simp)]
    refine ⟨fun h0 => (by rw [h0] at hr; cases hr), fun j hj => ?_⟩
    rw [hr] at hj
    have hji : j = i := by simpa using hj
    subst hji
    refine wpOp_mono (fun a' w' h' => ⟨by rw [hbase]; exact h'.1, wpAnyF_of_eag hs hQ l m b _ _ _ hm' hc hcm hB' h'.1 h'.2⟩) h
  | (i, 2) :: l, [], b, listed, a, w, hm, hc, hcm, hB, hb, h => by simp [eagF] at hB
  | (i, 2) :: l, (m, p) :: r, b, listed, a, w, hm, hc, hcm, hB, hb, h => by
    simp only [eagF, List.map_cons, Bool.and_eq_true, decide_eq_true_eq, beq_iff_eq, Bool.not_eq_true'] at hB
    obtain ⟨hr, hmi, hlt, hni, hB'⟩ := hB
    subst hmi
    have hri : ∀ x ∈ r, x.1 ≠ m := fun x hx e => by
      have : (r.map (·.1)).contains m = true := by simp only [List.contains_iff_mem]; exact List.mem_map.2 ⟨x, hx, e⟩
      rw [this] at hni; cases hni
    have hm' : ∀ x ∈ r, (listed.setIfInBounds m true).getD x.1 false = false := fun x hx => by rw [getD_set_ne false (Ne.symm (hri x hx))]; exact hm x (by simp [hx])
    have hset : ∀ (listed' : Array Bool), listed'.getD m false = true → sOf ((m, p) :: r) b listed' = sOf r p listed' := fun listed' h' => by simp only [sOf]; rw [if_pos h']
    have hgot : (listed.setIfInBounds m true).getD m false = true := by simp [Array.getD_eq_getD_getElem?, hlt]
    have hbase : sOf r p (listed.setIfInBounds m true) = p := by
      cases r with
      | nil => rfl
      | cons x r => simp only [sOf]; rw [if_neg (by rw [hm' x (by simp)]; simp)]
    refine ⟨fun h0 => (by rw [h0] at hr; cases hr), fun j hj => ?_⟩
    rw [hr] at hj
    have hji : j = m := by simpa using hj
    subst hji
    have h : wpOp P ops Q j (fun a' w' => p w' ∧ wpEagF P ops Q c l r p a' w') a w := by simpa only [wpEagF] using h
    refine wpOp_mono (fun a' w' h' => ⟨by rw [hset _ hgot, hbase]; exact h'.1, ?_⟩) h
    refine wpAnyF_congr (S := sOf r p) (fun listed' => listed'.getD j false = true) ?_ (fun listed' h' => (hset listed' h').symm) _ _ _ _ hgot (wpAnyF_of_eag hs hQ l r p _ _ _ hm' (hcm (j, p) (by simp)) (fun x hx => hcm x (by simp [hx])) hB' h'.1 h'.2)
    intro listed' k hk
    by_cases hkj : k = j
    · subst hkj
      rcases Nat.lt_or_ge k listed'.size with h' | h'
      · simp [Array.getD_eq_getD_getElem?, h']
      · rw [show listed'.setIfInBounds k true = listed' from by simp [Array.setIfInBounds, Nat.not_lt.2 h']]; exact hk
    · rw [getD_set_ne false hkj]; exact hk

theorem wp_region_eagF {id : Nat} {a : Act} {w : World} {l : List Oper} {c : World → Prop} (m : List (Nat × (World → Prop))) (b : World → Prop) (ord : List (Nat × Nat)) (hm : P.follows .mixedOrders = true)
    (hB : (Region.noSelect l.toArray && (decide (ord.length = l.length) && eagF .any l.toArray ord (m.map (·.1)) (Array.replicate l.length false))) = true)
    (hQ : ∀ c d v a w, Q (.panic c) (Act.put a d v) w → Q (.panic c) a w) (hb : b w.drew) (hc : ∀ w, b w → c w) (hcm : ∀ x ∈ m, ∀ w, x.2 w → c w)
    (h : wpEagF P l.toArray Q c ord m b a w.drew) : (Code.region id l.toArray true).wp P Q a w := by
  simp only [Bool.and_eq_true, decide_eq_true_eq] at hB
  obtain ⟨hs, hl, hB⟩ := hB
  refine wp_region_any hm ?_
  have hx : ∀ x ∈ m, (Array.replicate l.length false).getD x.1 false = false := fun x _ => by
    rw [Array.getD_eq_getD_getElem?]
    rcases Nat.lt_or_ge x.1 l.length with h' | h' <;> simp [h', Array.getElem?_replicate]
  have := wpAnyF_of_eag (md := .any) hs hQ ord m b _ a w.drew hx hc hcm hB hb h
  rw [hl] at this
  exact wpAny_of_F _ _ _ _ (by simpa using this)
end
end Go.Proofs.Ytccbinnlnkpplaa
namespace Go.Proofs.Ytccbinnlnkpplaa
set_option linter.all false
open Go.RowKit

abbrev Blk := Nat × Obj

/-- B: the world at the call's begin; F: old blocks that may change; s: the blocks that are known whole (new ones, or of F). -/
structure Kn (B : World) (F : List Nat) (s : List Blk) (w : World) : Prop where
  os : w.os = B.os
  tape : w.tape = B.tape
  output : w.output = B.output
  size : B.heap.size ≤ w.heap.size
  old : ∀ k, k < B.heap.size → k ∉ F → w.heap[k]? = B.heap[k]?
  own : ∀ b ∈ s, w.heap[b.1]? = some b.2
  new : ∀ b ∈ s, b.1 ∈ F ∨ B.heap.size ≤ b.1
  nodup : (s.map (·.1)).Nodup

section
variable {B w w' : World} {F : List Nat} {s s' : List Blk} {g t : Nat} {cs : Array Value}

theorem Kn.start (w : World) : Kn w [] [] w :=
  ⟨rfl, rfl, rfl, Nat.le_refl _, fun _ _ _ => rfl, (fun _ h => nomatch h), (fun _ h => nomatch h), List.nodup_nil⟩

theorem Kn.below (h : Kn B [] s w) : Below B.heap.size B w := ⟨h.os, h.tape, h.output, h.size, fun k hk => h.old k hk (by simp)⟩

theorem Kn.hd (h : Kn B F s w) (hm : (g, Obj.cells cs t) ∈ s) : Hd w g t cs := h.own _ hm

theorem Kn.hd0 (h : Kn B F ((g, .cells cs t) :: s) w) : Hd w g t cs := h.own (g, .cells cs t) (by simp)
theorem Kn.tl {b : Blk} (h : Kn B F (b :: s) w) : Kn B F s w :=
  ⟨h.os, h.tape, h.output, h.size, h.old, fun c hc => h.own c (by simp [hc]), fun c hc => h.new c (by simp [hc]), (List.nodup_cons.1 h.nodup).2⟩
theorem Kn.sub (h : Kn B F s w) (hs : s'.Sublist s) : Kn B F s' w :=
  ⟨h.os, h.tape, h.output, h.size, h.old, fun b hb => h.own b (hs.subset hb), fun b hb => h.new b (hs.subset hb), (hs.map _).nodup h.nodup⟩

theorem Kn.drew (h : Kn B F s w) : Kn B F s w.drew := ⟨h.os, h.tape, h.output, h.size, h.old, h.own, h.new, h.nodup⟩

theorem ob_lt {o : Obj} (h : w.heap[g]? = some o) : g < w.heap.size := by
  rcases Nat.lt_or_ge g w.heap.size with hlt | hge
  · exact hlt
  · rw [Array.getElem?_eq_none hge] at h; cases h
theorem Kn.lt (h : Kn B F s w) {b : Blk} (hb : b ∈ s) : b.1 < w.heap.size := ob_lt (h.own b hb)

theorem Kn.call (h : Kn B F s w) (hb : Below w.heap.size w w') : Kn B F s w' :=
  ⟨hb.os.trans h.os, hb.tape.trans h.tape, hb.output.trans h.output, Nat.le_trans h.size hb.size,
    fun k hk hF => (hb.block k (Nat.lt_of_lt_of_le hk h.size)).trans (h.old k hk hF), fun b hm => (hb.block b.1 (h.lt hm)).trans (h.own b hm), h.new, h.nodup⟩

/-- Blocks that a call has made. -/
structure Made (w : World) (u : List Blk) (w' : World) : Prop where
  below : Below w.heap.size w w'
  own : ∀ b ∈ u, w'.heap[b.1]? = some b.2
  new : ∀ b ∈ u, w.heap.size ≤ b.1
  nodup : (u.map (·.1)).Nodup

theorem Made.nil (h : Below w.heap.size w w') : Made w [] w' := ⟨h, (fun _ h => nomatch h), (fun _ h => nomatch h), List.nodup_nil⟩
theorem Made.one {o : Obj} (h : Below w.heap.size w w') (hd : w'.heap[g]? = some o) (hn : w.heap.size ≤ g) : Made w [(g, o)] w' :=
  ⟨h, (fun b hb => by simp at hb; subst hb; exact hd), (fun b hb => by simp at hb; subst hb; exact hn), by simp⟩
theorem Kn.made (h : Kn B [] s w) (hs : s'.Sublist s) : Made B s' w :=
  ⟨h.below, fun b hb => h.own b (hs.subset hb), fun b hb => (h.new b (hs.subset hb)).resolve_left (by simp), (hs.map _).nodup h.nodup⟩

theorem Kn.add (h : Kn B F s w) (hm : Made w s' w') : Kn B F (s' ++ s) w' := by
  have h1 := h.call hm.below
  refine ⟨h1.os, h1.tape, h1.output, h1.size, h1.old, ?_, ?_, ?_⟩
  · intro b hb
    rcases List.mem_append.1 hb with hb | hb
    · exact hm.own b hb
    · exact h1.own b hb
  · intro b hb
    rcases List.mem_append.1 hb with hb | hb
    · exact .inr (Nat.le_trans h.size (hm.new b hb))
    · exact h1.new b hb
  · rw [List.map_append]
    refine List.nodup_append.2 ⟨hm.nodup, h.nodup, ?_⟩
    intro a ha c hc e
    subst e
    obtain ⟨x, hx, rfl⟩ := List.mem_map.1 ha
    obtain ⟨y, hy, hxy⟩ := List.mem_map.1 hc
    have := hm.new x hx
    have := h.lt hy
    omega

theorem Kn.alloc (h : Kn B F s w) (o : Obj) : Kn B F ((w.heap.size, o) :: s) (w.alloc o) :=
  h.add (s' := [(w.heap.size, o)]) (Made.one ((Below.refl _ w).alloc (Nat.le_refl _) _) (heap_alloc_new w o) (Nat.le_refl _))

/-- A store changes one block of the list. -/
inductive Upd (g i : Nat) (u : Value) : List Blk → List Blk → Prop
  | here (t : Nat) (cs : Array Value) (s : List Blk) : Upd g i u ((g, .cells cs t) :: s) ((g, .cells (cs.setIfInBounds i u) t) :: s)
  | there (b : Blk) {s s' : List Blk} : Upd g i u s s' → Upd g i u (b :: s) (b :: s')

theorem Upd.names {i : Nat} {u : Value} (h : Upd g i u s s') : s'.map (·.1) = s.map (·.1) := by
  induction h with
  | here => rfl
  | there b _ ih => simp [ih]
theorem Upd.mem {i : Nat} {u : Value} (h : Upd g i u s s') : ∃ t cs, (g, Obj.cells cs t) ∈ s := by
  induction h with
  | here t cs s => exact ⟨t, cs, by simp⟩
  | there b _ ih => obtain ⟨t, cs, h⟩ := ih; exact ⟨t, cs, by simp [h]⟩
theorem Upd.spec {i : Nat} {u : Value} (h : Upd g i u s s') (hn : (s.map (·.1)).Nodup) : ∀ b ∈ s', (b ∈ s ∧ b.1 ≠ g) ∨ ∃ t cs, (g, Obj.cells cs t) ∈ s ∧ b = (g, Obj.cells (cs.setIfInBounds i u) t) := by
  induction h with
  | here t cs s =>
    intro b hb
    rcases List.mem_cons.1 hb with rfl | hb
    · exact .inr ⟨t, cs, by simp, rfl⟩
    · refine .inl ⟨by simp [hb], fun e => ?_⟩
      simp only [List.map_cons, List.nodup_cons] at hn
      exact hn.1 (e ▸ List.mem_map.2 ⟨b, hb, rfl⟩)
  | there c h ih =>
    intro b hb
    simp only [List.map_cons, List.nodup_cons] at hn
    rcases List.mem_cons.1 hb with rfl | hb
    · refine .inl ⟨by simp, fun e => ?_⟩
      obtain ⟨t, cs, hm⟩ := h.mem
      exact hn.1 (List.mem_map.2 ⟨_, hm, e.symm⟩)
    · rcases ih hn.2 b hb with ⟨h1, h2⟩ | ⟨t, cs, h1, h2⟩
      · exact .inl ⟨by simp [h1], h2⟩
      · exact .inr ⟨t, cs, by simp [h1], h2⟩

theorem Kn.set {i : Nat} {u : Value} (h : Kn B F s w) (hu : Upd g i u s s') : Kn B F s' (w.setCell ⟨g, i, none⟩ u) := by
  have hsp := hu.spec h.nodup
  obtain ⟨t, cs, hm⟩ := hu.mem
  have hg := h.new _ hm
  refine ⟨h.os, h.tape, h.output, by rw [World.size_setCell]; exact h.size, ?_, ?_, ?_, by rw [hu.names]; exact h.nodup⟩
  · intro k hk hF
    refine (Below.heap_setCell w ⟨g, i, none⟩ u k ?_).trans (h.old k hk hF)
    show k ≠ g
    rcases hg with hg | hg
    · exact fun e => hF (e ▸ hg)
    · simp at hg; omega
  · intro b hb
    rcases hsp b hb with ⟨h1, h2⟩ | ⟨t, cs, h1, rfl⟩
    · exact (Below.heap_setCell w ⟨g, i, none⟩ u b.1 h2).trans (h.own b h1)
    · exact (Kn.hd h h1).set i u
  · intro b hb
    rcases hsp b hb with ⟨h1, _⟩ | ⟨t, cs, h1, rfl⟩
    · exact h.new b h1
    · exact h.new (g, .cells cs t) h1

theorem Kn.put {i : Nat} {u : Value} (hu : Upd g i u s s') (h : Kn B F s w) : Kn B F s' (w.setCell ⟨g, i, none⟩ u) := h.set hu
theorem Kn.cellB (h : Kn B F s w) {k : Nat} (hk : k < B.heap.size) (hF : k ∉ F) (i : Nat) : w.cell? ⟨k, i, none⟩ = B.cell? ⟨k, i, none⟩ :=
  World.cell?_of_block (w := B) (h.old k hk hF)
theorem Kn.hdB (h : Kn B F s w) (hd : Hd B g t cs) (hF : g ∉ F) : Hd w g t cs := (h.old g hd.lt hF).trans hd
end

/-! ### Code: R = some l: in a round of the loop l over a function -/
abbrev FR (R : Option Nat) : Fence := { Fence.wide with round := R }
section
variable {R : Option Nat} {P : Program} {Q : Exit → Act → World → Prop} {B : World} {F : List Nat} {a : Act} {s : List Blk}

def Wk (R : Option Nat) (P : Program) (B : World) (F : List Nat) (Q : Exit → Act → World → Prop) (a : Act) (s : List Blk) (c : Code) : Prop := ∀ w, Kn B F s w → c.wpIn (FR R) 0 P Q a w
/-- The same behind an end. -/
def Ek (B : World) (F : List Nat) (Q : Exit → Act → World → Prop) (e : Exit) (a : Act) (s : List Blk) : Prop := ∀ w, Kn B F s w → Q e a w

theorem wk_start {c : Code} {w : World} (h : Wk none P w [] Q a [] c) : c.wp P Q a w := wpIn_wide.1 (h w (Kn.start w))
theorem wk_startF {c : Code} {w : World} {s : List Blk} {F : List Nat} (K : Kn w F s w) (h : Wk none P w F Q a s c) : c.wp P Q a w := wpIn_wide.1 (h w K)
theorem wk_sub {c : Code} {s' : List Blk} (hs : s'.Sublist s) (h : Wk R P B F Q a s' c) : Wk R P B F Q a s c := fun w K => h w (K.sub hs)
theorem wk_seq {x y : Code} (h : Wk R P B F (Exit.then (y.wpIn (FR R) 0 P Q) Q) a s x) : Wk R P B F Q a s (.seq x y) := fun w K => wpIn_seq (h w K)
theorem wk_block {id : Nat} {c : Code} (h : Wk R P B F (Exit.inBlock id Q) a s c) : Wk R P B F Q a s (.block id c) := fun w K => wpIn_block (h w K)
theorem wk_skip (h : Ek B F Q .normal a s) : Wk R P B F Q a s .skip := fun w K => wpIn_skip (h w K)
theorem wk_ret (h : Ek B F Q .ret a s) : Wk R P B F Q a s .ret := fun w K => wpIn_ret (h w K)
theorem wk_exit {id : Nat} (h : Ek B F Q (.exit id) a s) : Wk R P B F Q a s (.exit id) := fun w K => wpIn_exit (h w K)
theorem wk_cond {c : Operand} {x y : Code} {t : Bool} (hc : a.eval c = .bool t) (ht : t = true → Wk R P B F Q a s x) (hf : t = false → Wk R P B F Q a s y) :
    Wk R P B F Q a s (.cond c x y) := fun w K => wpIn_cond_split hc (fun h => ht h w K) (fun h => hf h w K)
theorem wk_cond_t {c : Operand} {x y : Code} (hc : a.eval c = .bool true) (h : Wk R P B F Q a s x) : Wk R P B F Q a s (.cond c x y) := fun w K => wpIn_cond_true hc (h w K)
theorem wk_cond_f {c : Operand} {x y : Code} (hc : a.eval c = .bool false) (h : Wk R P B F Q a s y) : Wk R P B F Q a s (.cond c x y) := fun w K => wpIn_cond_false hc (h w K)

theorem ek_next {y : Code} (h : Wk R P B F Q a s y) : Ek B F (Exit.then (y.wpIn (FR R) 0 P Q) Q) .normal a s := h
theorem ek_then_ret {K : Act → World → Prop} (h : Ek B F Q .ret a s) : Ek B F (Exit.then K Q) .ret a s := h
theorem ek_then_exit {K : Act → World → Prop} {id : Nat} (h : Ek B F Q (.exit id) a s) : Ek B F (Exit.then K Q) (.exit id) a s := h
theorem ek_block {id : Nat} (h : Ek B F Q .normal a s) : Ek B F (Exit.inBlock id Q) .normal a s := h
theorem ek_block_ret {id : Nat} (h : Ek B F Q .ret a s) : Ek B F (Exit.inBlock id Q) .ret a s := h
theorem ek_block_exit {id : Nat} (h : Ek B F Q .normal a s) : Ek B F (Exit.inBlock id Q) (.exit id) a s := fun w K => by simp only [Exit.inBlock, if_true]; exact h w K
/-- What lies behind is walked once: M says of the frame and the blocks what it needs. -/
def Mid (B : World) (F : List Nat) (M : Act → List Blk → Prop) (a : Act) (w : World) : Prop := ∃ s, Kn B F s w ∧ M a s
theorem ek_mid {M : Act → List Blk → Prop} (h : M a s) : Ek B F (Exit.then (Mid B F M) Q) .normal a s := fun _ K => ⟨s, K, h⟩
theorem wk_cut {x y : Code} (M : Act → List Blk → Prop) (h1 : Wk R P B F (Exit.then (Mid B F M) Q) a s x) (h2 : ∀ a s, M a s → Wk R P B F Q a s y) : Wk R P B F Q a s (.seq x y) :=
  wk_seq fun w K => wpIn_mono (h1 w K) fun e a' w' h => by
    cases e with
    | normal => obtain ⟨s', K', hM⟩ := h; exact h2 a' s' hM w' K'
    | _ => exact h

theorem least_nat (p : Nat → Prop) (h : ∃ n, p n) : ∃ n, p n ∧ ∀ m, p m → n ≤ m := by
  obtain ⟨n, hn⟩ := h
  induction n using Nat.strongRecOn with
  | _ n ih =>
    by_cases hx : ∃ m, m < n ∧ p m
    · obtain ⟨m, hm, hp⟩ := hx; exact ih m hm hp
    · exact ⟨n, hn, fun m hm => Nat.le_of_not_lt fun hlt => hx ⟨m, hlt, hm⟩⟩

/-- Behind a round: the relation at a smaller number. -/
def Rnd (B : World) (F : List Nat) (I : Nat → Act → List Blk → Prop) (n : Nat) (a : Act) (w : World) : Prop := ∃ m s, m < n ∧ Kn B F s w ∧ I m a s
theorem ek_round {I : Nat → Act → List Blk → Prop} {n : Nat} (m : Nat) (hm : m < n) (h : I m a s) : Ek B F (Exit.then (Rnd B F I n) Q) .normal a s := fun _ K => ⟨m, s, hm, K, h⟩
theorem wk_loop {c : Code} (I : Nat → Act → List Blk → Prop) (n : Nat) (h0 : I n a s)
    (round : ∀ n a s, I n a s → Wk R P B F (Exit.then (Rnd B F I n) Q) a s c) : Wk R P B F Q a s (.loop c) := by
  intro w K
  classical
  let p : Act → World → Nat → Prop := fun a w n => ∃ s, Kn B F s w ∧ I n a s
  let μ : Act → World → Nat := fun a w => if h : ∃ n, p a w n then Classical.choose (least_nat _ h) else 0
  have hμ : ∀ a w n, p a w n → p a w (μ a w) ∧ μ a w ≤ n := by
    intro a w n hp
    have h : ∃ n, p a w n := ⟨n, hp⟩
    have hs := Classical.choose_spec (least_nat _ h)
    simp only [μ, dif_pos h]
    exact ⟨hs.1, hs.2 n hp⟩
  refine wpIn_loop (fun a w => ∃ n, p a w n) μ ⟨n, s, K, h0⟩ ?_
  rintro a w ⟨n, hp⟩
  obtain ⟨⟨s, K, hI⟩, _⟩ := hμ a w n hp
  refine wpIn_mono (round _ a s hI w K) fun e a' w' h => ?_
  cases e with
  | normal =>
    obtain ⟨m, s', hm, K', hI'⟩ := h
    exact ⟨⟨m, s', K', hI'⟩, Nat.lt_of_le_of_lt (hμ a' w' m ⟨s', K', hI'⟩).2 hm⟩
  | _ => exact h
end

/-! ### Loops and cuts by slots: W are the slots that may be written -/
section
variable {R : Option Nat} {P : Program} {Q : Exit → Act → World → Prop} {B : World} {F : List Nat} {a : Act} {s : List Blk}

def Act.puts (a : Act) (W : List Nat) (vs : List Value) : Act := ⟨(W.zip vs).foldl (fun t p => t.setIfInBounds p.1 p.2) a.tmps, a.defers⟩
def Act.vals (a : Act) (W : List Nat) : List Value := W.map fun k => a.tmps.getD k undef

/-- Relation of a loop: the written slots and the blocks. -/
def RelS (W : List Nat) (a0 : Act) (J : Nat → List Value → List Blk → Prop) : Nat → Act → List Blk → Prop := fun n a s => ∃ vs, a = Act.puts a0 W vs ∧ J n vs s
theorem wk_loopS {c : Code} (W : List Nat) (J : Nat → List Value → List Blk → Prop) (n : Nat) (h0 : J n (Act.vals a W) s) (ha : a = Act.puts a W (Act.vals a W))
    (round : ∀ n vs s, J n vs s → Wk R P B F (Exit.then (Rnd B F (RelS W a J) n) Q) (Act.puts a W vs) s c) : Wk R P B F Q a s (.loop c) :=
  wk_loop (RelS W a J) n ⟨_, ha, h0⟩ fun n a' s' h => by
    obtain ⟨vs, rfl, hJ⟩ := h
    exact round n vs s' hJ
theorem ek_roundS {W : List Nat} {a0 : Act} {J : Nat → List Value → List Blk → Prop} {n : Nat} (m : Nat) (hm : m < n) (ha : a = Act.puts a0 W (Act.vals a W)) (h : J m (Act.vals a W) s) :
    Ek B F (Exit.then (Rnd B F (RelS W a0 J) n) Q) .normal a s := ek_round m hm ⟨_, ha, h⟩
theorem ek_sub {x : Exit} {s' : List Blk} (hs : s'.Sublist s) (h : Ek B F Q x a s') : Ek B F Q x a s := fun w K => h w (K.sub hs)
/-- A loop of a known number of rounds. -/
theorem wk_unroll {c : Code} (n : Nat) (h : Wk R P B F (Exit.then (Code.roundsIn (FR R) 0 P c Q n) Q) a s c) : Wk R P B F Q a s (.loop c) :=
  fun w K => wpIn_loop_rounds (n + 1) (by rw [roundsIn_succ]; exact h w K)
theorem ek_again {c : Code} {n : Nat} (h : Wk R P B F (Exit.then (Code.roundsIn (FR R) 0 P c Q n) Q) a s c) : Ek B F (Exit.then (Code.roundsIn (FR R) 0 P c Q (n + 1)) Q) .normal a s :=
  fun w K => by show Code.roundsIn (FR R) 0 P c Q (n + 1) a w; rw [roundsIn_succ]; exact h w K
end

/-! ### Regions -/
section
variable {R : Option Nat} {P : Program} {ops : Array Oper} {Q : Exit → Act → World → Prop} {B : World} {F : List Nat} {s0 : Option (List Blk × List Blk)}

/-- One operation that is carried out. -/
def hop (P : Program) (ops : Array Oper) (Q : Exit → Act → World → Prop) (K : Act → World → Prop) (o : Oper) (a : Act) (w : World) : Prop :=
  if Region.wanted o (yielded ops a.tmps) then o.wp P a w K Q else K (a.put o.dst undef) w
/-- The same where it may be a call of yield. -/
def hopR (R : Option Nat) (P : Program) (ops : Array Oper) (Q : Exit → Act → World → Prop) (K : Act → World → Prop) (o : Oper) (a : Act) (w : World) : Prop :=
  Region.wanted o (yielded ops a.tmps) = true ∧ o.uponIn (FR R) 0 P a K Q ((execOp a.eval o).run P w)

/-- What is known throughout: in a region that keeps the text's order, all; else the first list, behind the marked operation the second. -/
def zOf (s0 : Option (List Blk × List Blk)) (s : List Blk) : List Blk := match s0 with | none => s | some z => z.1
/-- What is known in any case. -/
def yOf (s0 : Option (List Blk × List Blk)) (s : List Blk) : List Blk := match s0 with | none => s | some z => z.2
def Rg (R : Option Nat) (P : Program) (ops : Array Oper) (Q : Exit → Act → World → Prop) (B : World) (F : List Nat) : Option (List Blk × List Blk) → List (Oper × Nat) → Act → List Blk → Prop
  | _, [], a, s => Ek B F Q .normal a s
  | s0, (o, 0) :: l, a, s => ∃ v, YieldsIf P ops (Kn B F (zOf s0 s)) o v a ∧ Rg R P ops Q B F s0 l (a.put o.dst v) s
  | s0, (o, 1) :: l, a, s =>
    (∀ w, Kn B F s w → hop P ops Q (fun a' w' => ∃ s', Kn B F s' w' ∧ (∀ z ∈ s0, z.1.Sublist s') ∧ Rg R P ops Q B F s0 l a' s') o a w) ∨
    (s0 = none ∧ ∀ w, Kn B F s w → hopR R P ops Q (fun a' w' => ∃ s', Kn B F s' w' ∧ Rg R P ops Q B F s0 l a' s') o a w)
  | s0, (o, 2) :: l, a, s => ∃ z, s0 = some z ∧ ∀ w, Kn B F s w → hop P ops Q (fun a' w' => ∃ s', Kn B F s' w' ∧ z.2.Sublist s' ∧ Rg R P ops Q B F (some (z.2, z.2)) l a' s') o a w
  | s0, (o, _ + 3) :: l, a, s => ∃ v, YieldsIf P ops (Kn B F (yOf s0 s)) o v a ∧ Rg R P ops Q B F s0 l (a.put o.dst v) s

theorem hop_mono {K K' : Act → World → Prop} {o : Oper} {a : Act} {w : World} (hk : ∀ a w, K a w → K' a w) (h : hop P ops Q K o a w) : hop P ops Q K' o a w := by
  unfold hop at *
  split
  · rename_i hw; rw [if_pos hw] at h; exact Oper.wp_mono hk h
  · rename_i hw; rw [if_neg hw] at h; exact hk _ _ h
theorem hop_list {K : Act → World → Prop} {o : Oper} {a : Act} {w : World} (h : hop P ops Q K o a w) : wpList P ops (Exit.then K Q) [o] a w := by
  unfold hop at h
  unfold wpList
  split
  · rename_i hw
    rw [if_pos hw] at h
    refine .inl ?_
    unfold Oper.wp at *
    generalize (execOp a.eval o).run P w = r at *
    cases r with
    | ok n w' =>
      cases n <;> simp only [Oper.upon] at h ⊢ <;>
        first
          | exact h
          | exact Calls.mono h (fun e w'' he => by cases e <;> first | exact he | (obtain ⟨a₀, w₀, h₀⟩ := he; exact ⟨a₀, w₀, h₀⟩))
    | halt x w' => cases x <;> simp only [Oper.upon] at h ⊢ <;> exact h
  · rename_i hw
    rw [if_neg hw] at h
    exact h

def noDefer (l : List Oper) : Bool := l.all fun o => match o.op with | .defer _ => false | _ => true
theorem semAt_exec {o : Oper} (h : (match o.op with | .defer _ => false | _ => true) = true) (ρ : Operand → Value) : o.semAt R ρ = execOp ρ o := by
  cases R with
  | none => rfl
  | some l => exact Oper.semAt_some l ρ o (fun c hc => by rw [hc] at h; cases h)

theorem calls_FR {f : Nat} {args : Array Value} {w : World} {X : Ending → World → Prop} (h : Calls P f args w X) : CallsIn (FR R) 0 P f args w X := callsIn_wide.2 h
theorem callsIn_FR {f : Nat} {args : Array Value} {w : World} {X : Ending → World → Prop} {n : Nat} (h : CallsIn (FR R) n P f args w X) : Calls P f args w X := callsIn_wide.1 h
theorem rows_FR {f : String} {args : Array Value} {w : World} {X : Value → World → Prop} (h : Rows P f args w X) : RowsIn (FR R) 0 P f args w X :=
  fun c cs _ => let ⟨v, w', r, st⟩ := h c cs; ⟨v, w', r, stepsIn_wide.2 st⟩

theorem hop_in {K : Act → World → Prop} {o : Oper} {l : List Oper} {a : Act} {w : World} (hd : noDefer (o :: l) = true) (h : hop P ops Q K o a w) (hK : ∀ a w, K a w → wpListIn (FR R) 0 P ops Q l a w) :
    wpListIn (FR R) 0 P ops Q (o :: l) a w := by
  have hd1 : (match o.op with | .defer _ => false | _ => true) = true := by simp only [noDefer, List.all_cons, Bool.and_eq_true] at hd; exact hd.1
  unfold hop at h
  unfold wpListIn
  split
  · rename_i hw
    rw [if_pos hw] at h
    refine ⟨fun _ _ => trivial, ?_⟩
    have hsem : o.semAt (FR R).round a.eval = execOp a.eval o := semAt_exec (R := R) hd1 _
    rw [hsem]
    unfold Oper.wp at h
    generalize (execOp a.eval o).run P w = r at *
    cases r with
    | ok n w' =>
      cases n <;> simp only [Oper.upon, Oper.uponIn] at h ⊢ <;>
        first
          | exact hK _ _ h
          | exact ⟨(fun hh => nomatch hh), calls_FR (h.mono fun e w'' he => by cases e <;> first | exact hK _ _ he | exact he)⟩
          | exact ⟨(fun hh => nomatch hh), rows_FR (h.mono fun _ _ he => hK _ _ he)⟩
    | halt x w' => cases x <;> simp only [Oper.upon, Oper.uponIn] at h ⊢ <;> exact h
  · rename_i hw
    rw [if_neg hw] at h
    exact ⟨fun _ _ => trivial, hK _ _ h⟩

theorem hopR_in {K : Act → World → Prop} {o : Oper} {l : List Oper} {a : Act} {w : World} (hd : noDefer (o :: l) = true) (h : hopR R P ops Q K o a w) (hK : ∀ a w, K a w → wpListIn (FR R) 0 P ops Q l a w) :
    wpListIn (FR R) 0 P ops Q (o :: l) a w := by
  have hd1 : (match o.op with | .defer _ => false | _ => true) = true := by simp only [noDefer, List.all_cons, Bool.and_eq_true] at hd; exact hd.1
  obtain ⟨hw, h⟩ := h
  unfold wpListIn
  rw [if_pos hw]
  refine ⟨fun _ _ => trivial, ?_⟩
  have hsem : o.semAt (FR R).round a.eval = execOp a.eval o := semAt_exec (R := R) hd1 _
  rw [hsem]
  generalize (execOp a.eval o).run P w = r at *
  cases r with
  | ok n w' =>
    cases n <;> simp only [Oper.uponIn] at h ⊢ <;>
      first
        | exact hK _ _ h
        | exact h
        | exact ⟨h.1, h.2.mono fun e w'' he => by cases e <;> first | exact hK _ _ he | exact he⟩
        | exact ⟨h.1, h.2.mono fun _ _ he => hK _ _ he⟩
  | halt x w' => cases x <;> simp only [Oper.uponIn] at h ⊢ <;> exact h

theorem rg_text : ∀ (l : List (Oper × Nat)) (a : Act) (s : List Blk), noDefer (l.map (·.1)) = true → Rg R P ops Q B F none l a s → ∀ w, Kn B F s w → wpListIn (FR R) 0 P ops Q (l.map (·.1)) a w
  | [], _, _, _, h, w, K => h w K
  | (o, 0) :: l, a, s, hd, ⟨v, hy, h⟩, w, K => by
    have hd2 : noDefer (l.map (·.1)) = true := by simp only [noDefer, List.map_cons, List.all_cons, Bool.and_eq_true] at hd; exact hd.2
    simp only [List.map_cons] at hd ⊢
    refine hop_in (K := fun a' w' => a' = a.put o.dst v ∧ w' = w) hd ?_ (fun a' w' ⟨ha, hw⟩ => by subst ha hw; exact rg_text l _ s hd2 h _ K)
    unfold hop
    rcases hy with ⟨hw, hv⟩ | ⟨hw, rfl⟩
    · rw [if_pos hw]; unfold Oper.wp; rw [hv w K]; exact ⟨rfl, rfl⟩
    · rw [if_neg (by simp [hw])]; exact ⟨rfl, rfl⟩
  | (o, 1) :: l, a, s, hd, h, w, K => by
    have hd2 : noDefer (l.map (·.1)) = true := by simp only [noDefer, List.map_cons, List.all_cons, Bool.and_eq_true] at hd; exact hd.2
    simp only [List.map_cons] at hd ⊢
    rcases h with h | ⟨_, h⟩
    · exact hop_in hd (h w K) (fun a' w' ⟨s', K', _, h'⟩ => rg_text l a' s' hd2 h' w' K')
    · exact hopR_in hd (h w K) (fun a' w' ⟨s', K', h'⟩ => rg_text l a' s' hd2 h' w' K')
  | (o, 2) :: l, a, s, hd, h, w, K => by obtain ⟨z, hz, _⟩ := h; cases hz
  | (o, n + 3) :: l, a, s, hd, ⟨v, hy, h⟩, w, K => by
    have hd2 : noDefer (l.map (·.1)) = true := by simp only [noDefer, List.map_cons, List.all_cons, Bool.and_eq_true] at hd; exact hd.2
    simp only [List.map_cons] at hd ⊢
    refine hop_in (K := fun a' w' => a' = a.put o.dst v ∧ w' = w) hd ?_ (fun a' w' ⟨ha, hw⟩ => by subst ha hw; exact rg_text l _ s hd2 h _ K)
    unfold hop
    rcases hy with ⟨hw, hv⟩ | ⟨hw, rfl⟩
    · rw [if_pos hw]; unfold Oper.wp; rw [hv w K]; exact ⟨rfl, rfl⟩
    · rw [if_neg (by simp [hw])]; exact ⟨rfl, rfl⟩

theorem wpOp_of_list1 {K : Act → World → Prop} {i : Nat} {a : Act} {w : World} {o : Oper} (ho : ops[i]? = some o) (h : hop P ops Q K o a w) : wpOp P ops Q i K a w := by
  unfold wpOp
  simp only [ho]
  unfold hop at h
  split
  · rename_i hw; rw [if_pos hw] at h; exact .inl h
  · rename_i hw; rw [if_neg hw] at h; exact h

theorem rg_eag (lo : List Oper) (hlo : ops = lo.toArray) (mk : Nat) : ∀ (ord : List (Nat × Nat)) (z : List Blk × List Blk) (a : Act) (s : List Blk) (m : List (Nat × (World → Prop))),
    (m = [(mk, Kn B F z.2)] ∨ (m = [] ∧ z.1 = z.2 ∧ ∀ p ∈ ord, p.2 ≠ 2)) → (ord.map (·.2)).filter (· == 2) = (if m = [] then [] else [2]) →
    (ord.all fun p => decide (p.1 < lo.length)) = true → Rg R P ops Q B F (some z) (ord.map fun p => (lo.getD p.1 default, p.2)) a s → ∀ w, Kn B F s w → wpEagF P ops Q (Kn B F z.2) ord m (Kn B F z.1) a w
  | [], _, _, _, _, _, _, _, h, w, K => h w K
  | (i, 0) :: l, z, a, s, m, hm, hf, hi, ⟨v, hy, h⟩, w, K => by
    simp only [List.all_cons, Bool.and_eq_true, decide_eq_true_eq] at hi
    have ho : ops[i]? = some (lo.getD i default) := by subst hlo; simp [List.getD_eq_getElem?_getD, hi.1]
    exact ⟨_, v, ho, hy, rg_eag lo hlo mk l z _ s m (hm.imp id fun ⟨x, y, q⟩ => ⟨x, y, fun p hp => q p (by simp [hp])⟩) (by simpa using hf) (by simpa using hi.2) h w K⟩
  | (i, n + 3) :: l, z, a, s, m, hm, hf, hi, ⟨v, hy, h⟩, w, K => by
    simp only [List.all_cons, Bool.and_eq_true, decide_eq_true_eq] at hi
    have ho : ops[i]? = some (lo.getD i default) := by subst hlo; simp [List.getD_eq_getElem?_getD, hi.1]
    exact ⟨_, v, ho, hy, rg_eag lo hlo mk l z _ s m (hm.imp id fun ⟨x, y, q⟩ => ⟨x, y, fun p hp => q p (by simp [hp])⟩) (by simpa [show (n + 3 == 2) = false from by simp] using hf) (by simpa using hi.2) h w K⟩
  | (i, 1) :: l, z, a, s, m, hm, hf, hi, h, w, K => by
    simp only [List.all_cons, Bool.and_eq_true, decide_eq_true_eq] at hi
    have ho : ops[i]? = some (lo.getD i default) := by subst hlo; simp [List.getD_eq_getElem?_getD, hi.1]
    rcases h with h | ⟨hn, _⟩
    · exact wpOp_of_list1 ho (hop_mono (fun a' w' ⟨s', K', hz, h'⟩ => ⟨K'.sub (hz z rfl), rg_eag lo hlo mk l z a' s' m (hm.imp id fun ⟨x, y, q⟩ => ⟨x, y, fun p hp => q p (by simp [hp])⟩) (by simpa using hf) (by simpa using hi.2) h' w' K'⟩) (h w K))
    · cases hn
  | (i, 2) :: l, z, a, s, m, hm, hf, hi, h, w, K => by
    simp only [List.all_cons, Bool.and_eq_true, decide_eq_true_eq] at hi
    have ho : ops[i]? = some (lo.getD i default) := by subst hlo; simp [List.getD_eq_getElem?_getD, hi.1]
    rcases hm with rfl | ⟨rfl, _, q⟩
    · obtain ⟨z', hz', h⟩ := h
      cases hz'
      have h4 : (l.map (·.2)).filter (· == 2) = [] := by
        have := hf
        simp at this
        simpa using this
      have hl1 : ∀ p ∈ l, p.2 ≠ 2 := fun p hp e => by
        have : p.2 ∈ (l.map (·.2)).filter (· == 2) := List.mem_filter.2 ⟨List.mem_map.2 ⟨p, hp, rfl⟩, by simp [e]⟩
        rw [h4] at this; cases this
      show wpOp P ops Q i (fun a' w' => Kn B F z.2 w' ∧ wpEagF P ops Q (Kn B F z.2) l [] (Kn B F z.2) a' w') a w
      exact wpOp_of_list1 ho (hop_mono (fun a' w' ⟨s', K', hz, h'⟩ => ⟨K'.sub hz, rg_eag lo hlo mk l (z.2, z.2) a' s' [] (.inr ⟨rfl, rfl, hl1⟩) (by rw [if_pos rfl]; exact h4) (by simpa using hi.2) h' w' K'⟩) (h w K))
    · exact absurd rfl (q (i, 2) (by simp))

/-- A region in the order of the text; f: which operations are soft. -/
theorem wk_region {id : Nat} {a : Act} {s : List Blk} {l : List Oper} (f : List Nat) (hf : f.length = l.length) (hd : noDefer l = true)
    (h : Rg R P l.toArray Q B F none (l.zip f) a s) : Wk R P B F Q a s (Code.region id l.toArray false) := fun w K =>
  wpIn_region_lit (by have := rg_text (l.zip f) a s (by rw [List.map_fst_zip (by omega)]; exact hd) h w K; rwa [List.map_fst_zip (by omega)] at this)

/-- A region that draws its order; z: what is known till the marked operation comes up, z1: what is known behind it. -/
theorem wk_draws {id : Nat} {a : Act} {s : List Blk} {l : List Oper} (z z1 : List Blk) (ord : List (Nat × Nat)) (mk : List Nat) (hm : P.follows .mixedOrders = true)
    (hB : ((Region.noSelect l.toArray && (decide (ord.length = l.length) && eagF .any l.toArray ord mk (Array.replicate l.length false))) &&
      ((ord.all fun p => decide (p.1 < l.length)) && (decide (mk.length ≤ 1) && decide ((ord.map (·.2)).filter (· == 2) = mk.map fun _ => 2)))) = true)
    (hQ : ∀ c d v a w, Q (.panic c) (Act.put a d v) w → Q (.panic c) a w) (hz : z.Sublist s) (hzz : mk = [] → z = z1)
    (h : Rg none P l.toArray Q B F (some (z, z1)) (ord.map fun p => (l.getD p.1 default, p.2)) a s) (hy : z1.Sublist z := by exact List.Sublist.refl _) : Wk none P B F Q a s (Code.region id l.toArray true) := fun w K => by
  simp only [Bool.and_eq_true, decide_eq_true_eq, List.all_eq_true] at hB
  obtain ⟨hB1, h1, h3, h4⟩ := hB
  refine wpIn_wide.2 ?_
  match mk, h3, h4, hB1, hzz with
  | [], _, h4, hB1, hzz =>
    refine wp_region_eagF [] (Kn B F z) ord hm (by simp only [Bool.and_eq_true, decide_eq_true_eq]; exact hB1) hQ (K.drew.sub hz) (fun w K => K.sub hy) (fun x hx => nomatch hx) ?_
    refine rg_eag l rfl 0 ord (z, z1) a s [] (.inr ⟨rfl, hzz rfl, fun p hp e => ?_⟩) (by rw [if_pos rfl]; exact h4) (by simpa [List.all_eq_true] using h1) h w.drew K.drew
    have : p.2 ∈ (ord.map (·.2)).filter (· == 2) := List.mem_filter.2 ⟨List.mem_map.2 ⟨p, hp, rfl⟩, by simp [e]⟩
    rw [h4] at this; cases this
  | [x], _, h4, hB1, _ =>
    refine wp_region_eagF [(x, Kn B F z1)] (Kn B F z) ord hm (by simp only [Bool.and_eq_true, decide_eq_true_eq]; exact hB1) hQ (K.drew.sub hz) (fun w K => K.sub hy) (fun x hx w K => by simp only [List.mem_singleton] at hx; subst hx; exact K) ?_
    exact rg_eag l rfl x ord (z, z1) a s [(x, Kn B F z1)] (.inl rfl) (by rw [if_neg (by simp)]; exact h4) (by simpa [List.all_eq_true] using h1) h w.drew K.drew
  | _ :: _ :: _, h3, _, _, _ => simp at h3

/-- All is known till the marked store. -/
theorem wk_draws_m {id : Nat} {a : Act} {s z1 : List Blk} (hz1 : z1.Sublist s) {l : List Oper} (ord : List (Nat × Nat)) (mk : Nat) (hm : P.follows .mixedOrders = true)
    (hB : ((Region.noSelect l.toArray && (decide (ord.length = l.length) && eagF .any l.toArray ord [mk] (Array.replicate l.length false))) &&
      ((ord.all fun p => decide (p.1 < l.length)) && (decide ([mk].length ≤ 1) && decide ((ord.map (·.2)).filter (· == 2) = [mk].map fun _ => 2)))) = true)
    (hQ : ∀ c d v a w, Q (.panic c) (Act.put a d v) w → Q (.panic c) a w)
    (h : Rg none P l.toArray Q B F (some (s, z1)) (ord.map fun p => (l.getD p.1 default, p.2)) a s) : Wk none P B F Q a s (Code.region id l.toArray true) :=
  wk_draws s z1 ord [mk] hm hB hQ (List.Sublist.refl _) (fun e => nomatch e) h hz1
/-- A function with a body. -/
def isGo (P : Program) (f : Nat) : Bool := match P.funcs[f]? with | some fn => !(fn.name == "runtime.NumGoroutine") && !fn.body.isNone | none => false
theorem run_callFunc_go {f : Nat} (h : isGo P f = true) (args : Array Value) (w : World) : (callFunc f args).run P w = .ok (.enter f args) w := by
  unfold isGo at h
  cases hf : P.funcs[f]? with
  | none => rw [hf] at h; cases h
  | some fn =>
    rw [hf] at h
    simp only [Bool.and_eq_true, Bool.not_eq_true'] at h
    have h1 : ¬ fn.name = "runtime.NumGoroutine" := by simpa using h.1
    have h2 : ¬ fn.body = none := fun e => by rw [e] at h; exact absurd h.2 (by simp)
    simp [callFunc, go_sem, hf, h1, h2]

section
variable {l : List (Oper × Nat)} {a : Act} {s : List Blk} {d : Option Tmp} {op : Op} {t : TypeId} {p : String} {af : Array Edge} {v : Value}

/-- An operation yields v and leaves the world; it is carried out and leaves w'. (Names that simp does not open.) -/
def Yld (r : Result Next) (v : Value) (w : World) : Prop := r = .ok (.value v) w
theorem Yld.mk (v : Value) (w : World) : Yld (.ok (.value v) w) v w := rfl
def Dne (r : Result Next) (w : World) : Prop := r = .ok .skip w
theorem Dne.mk (w : World) : Dne (.ok .skip w) w := rfl
theorem rg_nil (h : Ek B F Q .normal a s) : Rg R P ops Q B F s0 [] a s := h
theorem rg_soft (hy : ∀ w, Kn B F (zOf s0 s) w → Yld ((execOp a.eval ⟨d, op, t, p, af, none⟩).run P w) v w) (h : Rg R P ops Q B F s0 l (a.put d v) s) :
    Rg R P ops Q B F s0 ((⟨d, op, t, p, af, none⟩, 0) :: l) a s := ⟨v, .inl ⟨by simp [Region.wanted], hy⟩, h⟩
theorem rg_move {x : Operand} (h : Rg R P ops Q B F s0 l (a.put d (a.eval x)) s) : Rg R P ops Q B F s0 ((⟨d, .move x, t, p, af, none⟩, 0) :: l) a s :=
  rg_soft (fun w _ => BigFrame.run_move x rfl w) h
theorem rg_assign {x : Operand} (h : Rg R P ops Q B F s0 l (a.put d (a.eval x)) s) : Rg R P ops Q B F s0 ((⟨d, .assign x, t, p, af, none⟩, 0) :: l) a s :=
  rg_soft (fun w _ => BigFrame.run_assign x rfl w) h
theorem rg_soft_g {g : Nat × Bool} (hg : Region.wanted ⟨d, op, t, p, af, some g⟩ (yielded ops a.tmps) = true)
    (hy : ∀ w, Kn B F (zOf s0 s) w → Yld ((execOp a.eval ⟨d, op, t, p, af, some g⟩).run P w) v w) (h : Rg R P ops Q B F s0 l (a.put d v) s) :
    Rg R P ops Q B F s0 ((⟨d, op, t, p, af, some g⟩, 0) :: l) a s := ⟨v, .inl ⟨hg, hy⟩, h⟩
theorem rg_skip {g : Nat × Bool} (hg : Region.wanted ⟨d, op, t, p, af, some g⟩ (yielded ops a.tmps) = false)
    (h : Rg R P ops Q B F s0 l (a.put d undef) s) : Rg R P ops Q B F s0 ((⟨d, op, t, p, af, some g⟩, 0) :: l) a s := ⟨undef, .inr ⟨hg, rfl⟩, h⟩

/-! An operation that reads no memory. -/
theorem rg_softP (hy : ∀ w, Kn B F (yOf s0 s) w → Yld ((execOp a.eval ⟨d, op, t, p, af, none⟩).run P w) v w) (h : Rg R P ops Q B F s0 l (a.put d v) s) :
    Rg R P ops Q B F s0 ((⟨d, op, t, p, af, none⟩, 3) :: l) a s := ⟨v, .inl ⟨by simp [Region.wanted], hy⟩, h⟩
theorem rg_moveP {x : Operand} (h : Rg R P ops Q B F s0 l (a.put d (a.eval x)) s) : Rg R P ops Q B F s0 ((⟨d, .move x, t, p, af, none⟩, 3) :: l) a s :=
  rg_softP (fun w _ => BigFrame.run_move x rfl w) h
/-- A truth value on which the way parts. -/
theorem rg_softb {b : Bool} (hy : ∀ w, Kn B F (zOf s0 s) w → Yld ((execOp a.eval ⟨d, op, t, p, af, none⟩).run P w) (.bool b) w) (h : ∀ x, b = x → Rg R P ops Q B F s0 l (a.put d (.bool x)) s) :
    Rg R P ops Q B F s0 ((⟨d, op, t, p, af, none⟩, 0) :: l) a s := rg_soft hy (h b rfl)
theorem rg_softb_g {b : Bool} {g : Nat × Bool} (hg : Region.wanted ⟨d, op, t, p, af, some g⟩ (yielded ops a.tmps) = true)
    (hy : ∀ w, Kn B F (zOf s0 s) w → Yld ((execOp a.eval ⟨d, op, t, p, af, some g⟩).run P w) (.bool b) w) (h : ∀ x, b = x → Rg R P ops Q B F s0 l (a.put d (.bool x)) s) :
    Rg R P ops Q B F s0 ((⟨d, op, t, p, af, some g⟩, 0) :: l) a s := rg_soft_g hg hy (h b rfl)
/-- An operation that is carried out, its run being known. -/
theorem rg_run {g : Option (Nat × Bool)} (hg : Region.wanted ⟨d, op, t, p, af, g⟩ (yielded ops a.tmps) = true)
    (h : ∀ w, Kn B F s w → ∃ v w' s', ((execOp a.eval ⟨d, op, t, p, af, g⟩).run P w = .ok (.value v) w' ∨ (v = undef ∧ (execOp a.eval ⟨d, op, t, p, af, g⟩).run P w = .ok .skip w')) ∧ Kn B F s' w' ∧ (∀ z ∈ s0, z.1.Sublist s') ∧ Rg R P ops Q B F s0 l (a.put d v) s') :
    Rg R P ops Q B F s0 ((⟨d, op, t, p, af, g⟩, 1) :: l) a s := by
  refine .inl fun w K => ?_
  obtain ⟨v, w', s', hr, K', hz, h'⟩ := h w K
  unfold hop
  rw [if_pos hg]
  unfold Oper.wp
  rcases hr with hr | ⟨rfl, hr⟩ <;> rw [hr]
  · exact ⟨s', K', hz, h'⟩
  · exact ⟨s', K', hz, h'⟩

theorem rg_sub : ∀ {s0 : Option (List Blk × List Blk)} {l : List (Oper × Nat)} {a : Act} {s s' : List Blk}, s'.Sublist s → (∀ z ∈ s0, z.1.Sublist s') → Rg R P ops Q B F s0 l a s' → Rg R P ops Q B F s0 l a s
  | _, [], _, _, _, hs, _, h => fun w K => h w (K.sub hs)
  | s0, (o, 0) :: l, a, s, s', hs, hz, ⟨v, hy, h⟩ => ⟨v, (by
      cases s0 with
      | none => exact hy.imp (fun ⟨x, y⟩ => ⟨x, fun w K => y w (K.sub hs)⟩) id
      | some z => exact hy), rg_sub hs hz h⟩
  | s0, (o, 1) :: l, a, s, s', hs, hz, h => h.imp (fun h w K => h w (K.sub hs)) (fun ⟨e, h⟩ => ⟨e, fun w K => h w (K.sub hs)⟩)
  | s0, (o, 2) :: l, a, s, s', hs, hz, h => let ⟨z, e, h⟩ := h; ⟨z, e, fun w K => h w (K.sub hs)⟩
  | s0, (o, n + 3) :: l, a, s, s', hs, hz, ⟨v, hy, h⟩ => ⟨v, (by
      cases s0 with
      | none => exact hy.imp (fun ⟨x, y⟩ => ⟨x, fun w K => y w (K.sub hs)⟩) id
      | some z => exact hy), rg_sub hs hz h⟩
theorem rg_skip_h {g : Nat × Bool} (hg : Region.wanted ⟨d, op, t, p, af, some g⟩ (yielded ops a.tmps) = false) (hz : ∀ z ∈ s0, z.1.Sublist s)
    (h : Rg R P ops Q B F s0 l (a.put d undef) s) : Rg R P ops Q B F s0 ((⟨d, op, t, p, af, some g⟩, 1) :: l) a s :=
  .inl fun w K => by unfold hop; rw [if_neg (by simp [hg])]; exact ⟨s, K, hz, h⟩
/-- A new block (alloc, box). -/
theorem rg_new {cs : Array Value} {ty : Nat} {gd : Option (Nat × Bool)} (hg : Region.wanted ⟨d, op, t, p, af, gd⟩ (yielded ops a.tmps) = true) (hr : ∀ w : World, (execOp a.eval ⟨d, op, t, p, af, gd⟩).run P w = .ok (.value (.pointer (some ⟨w.heap.size, 0, none⟩))) (w.alloc (.cells cs ty)))
    (hz : ∀ z ∈ s0, z.1.Sublist s) (h : ∀ g, Rg R P ops Q B F s0 l (a.put d (.pointer (some ⟨g, 0, none⟩))) ((g, .cells cs ty) :: s)) :
    Rg R P ops Q B F s0 ((⟨d, op, t, p, af, gd⟩, 1) :: l) a s :=
  rg_run hg fun w K => ⟨_, _, _, .inl (hr w), K.alloc _, fun z hz' => (hz z hz').cons _, h _⟩

/-- A store. -/
theorem rg_store {s' : List Blk} (hr : ∀ w, Kn B F s w → ∃ w', Dne ((execOp a.eval ⟨d, op, t, p, af, none⟩).run P w) w' ∧ Kn B F s' w')
    (hz : ∀ z ∈ s0, z.1.Sublist s') (h : Rg R P ops Q B F s0 l (a.put d undef) s') :
    Rg R P ops Q B F s0 ((⟨d, op, t, p, af, none⟩, 1) :: l) a s :=
  rg_run (by simp [Region.wanted]) fun w K => let ⟨w', h1, h2⟩ := hr w K; ⟨undef, w', s', .inr ⟨rfl, h1⟩, h2, hz, h⟩

/-- A store that is marked: behind it other things are known. -/
theorem rg_storeM {z : List Blk × List Blk} {s' : List Blk} (hr : ∀ w, Kn B F s w → ∃ w', Dne ((execOp a.eval ⟨d, op, t, p, af, none⟩).run P w) w' ∧ Kn B F s' w')
    (hz : z.2.Sublist s') (h : Rg R P ops Q B F (some (z.2, z.2)) l (a.put d undef) s') :
    Rg R P ops Q B F (some z) ((⟨d, op, t, p, af, none⟩, 2) :: l) a s :=
  ⟨z, rfl, fun w K => by
    obtain ⟨w', h1, h2⟩ := hr w K
    unfold hop
    rw [if_pos (by simp [Region.wanted])]
    unfold Oper.wp
    rw [h1]
    exact ⟨s', h2, hz, h⟩⟩
/-- A call of a function that is named. -/
theorem rg_call {f : Nat} {cargs : Array Operand} {at_ : Array TypeId} {args : Array Value} {gd : Option (Nat × Bool)} (hg : Region.wanted ⟨d, .call ⟨.value (.func f), cargs, at_⟩, t, p, af, gd⟩ (yielded ops a.tmps) = true) (hgo : isGo P f = true) (hargs : cargs.map a.eval = args)
    (h : ∀ w, Kn B F s w → Calls P f args w (fun e w' => ∃ v s', e = .returned v ∧ Kn B F s' w' ∧ (∀ z ∈ s0, z.1.Sublist s') ∧ Rg R P ops Q B F s0 l (a.put d v) s')) :
    Rg R P ops Q B F s0 ((⟨d, .call ⟨.value (.func f), cargs, at_⟩, t, p, af, gd⟩, 1) :: l) a s := by
  refine .inl fun w K => ?_
  unfold hop
  rw [if_pos hg]
  unfold Oper.wp
  have hr : (execOp a.eval ⟨d, .call ⟨.value (.func f), cargs, at_⟩, t, p, af, gd⟩).run P w = .ok (.enter f args) w := by
    have he : #[] ++ cargs.map a.eval ++ #[] = args := by simpa using hargs
    rw [execOp_call_go, he]
    exact run_callFunc_go hgo args w
  rw [hr]
  refine (h w K).mono fun e w' he => ?_
  obtain ⟨v, s', rfl, K', hz, h'⟩ := he
  exact ⟨s', K', hz, h'⟩
/-- A call that computes a value and leaves what was there. -/
theorem rg_pure {f : Nat} {cargs : Array Operand} {at_ : Array TypeId} {args : Array Value} {v : Value} {gd : Option (Nat × Bool)} (hg : Region.wanted ⟨d, .call ⟨.value (.func f), cargs, at_⟩, t, p, af, gd⟩ (yielded ops a.tmps) = true) (hgo : isGo P f = true)
    (h : ∀ w, Kn B F s w → Calls P f args w (fun e w' => e = .returned v ∧ Below w.heap.size w w')) (hargs : cargs.map a.eval = args)
    (hz : ∀ z ∈ s0, z.1.Sublist s) (k : Rg R P ops Q B F s0 l (a.put d v) s) :
    Rg R P ops Q B F s0 ((⟨d, .call ⟨.value (.func f), cargs, at_⟩, t, p, af, gd⟩, 1) :: l) a s :=
  rg_call hg hgo hargs fun w K => (h w K).mono fun e w' ⟨he, hb⟩ => ⟨v, s, he, K.call hb, hz, k⟩
theorem rg_pureb {f : Nat} {cargs : Array Operand} {at_ : Array TypeId} {args : Array Value} {b : Bool} {gd : Option (Nat × Bool)} (hg : Region.wanted ⟨d, .call ⟨.value (.func f), cargs, at_⟩, t, p, af, gd⟩ (yielded ops a.tmps) = true) (hgo : isGo P f = true)
    (h : ∀ w, Kn B F s w → Calls P f args w (fun e w' => e = .returned (.bool b) ∧ Below w.heap.size w w')) (hargs : cargs.map a.eval = args)
    (hz : ∀ z ∈ s0, z.1.Sublist s) (k : ∀ x, b = x → Rg R P ops Q B F s0 l (a.put d (.bool x)) s) :
    Rg R P ops Q B F s0 ((⟨d, .call ⟨.value (.func f), cargs, at_⟩, t, p, af, gd⟩, 1) :: l) a s := rg_pure hg hgo h hargs hz (k b rfl)
/-- A call that returns a value of which R is known, with blocks that it has made. -/
theorem rg_made {f : Nat} {cargs : Array Operand} {at_ : Array TypeId} {args : Array Value} {T : Value → List Blk → Prop} {gd : Option (Nat × Bool)} (hg : Region.wanted ⟨d, .call ⟨.value (.func f), cargs, at_⟩, t, p, af, gd⟩ (yielded ops a.tmps) = true) (hgo : isGo P f = true)
    (h : ∀ w, Kn B F s w → Calls P f args w (fun e w' => ∃ v u, e = .returned v ∧ T v u ∧ Made w u w')) (hargs : cargs.map a.eval = args)
    (hz : ∀ z ∈ s0, z.1.Sublist s) (k : ∀ v u, T v u → Rg R P ops Q B F s0 l (a.put d v) (u ++ s)) :
    Rg R P ops Q B F s0 ((⟨d, .call ⟨.value (.func f), cargs, at_⟩, t, p, af, gd⟩, 1) :: l) a s :=
  rg_call hg hgo hargs fun w K => (h w K).mono fun e w' ⟨v, u, he, hT, hm⟩ => ⟨v, u ++ s, he, K.add hm, fun z hz' => (hz z hz').trans (List.sublist_append_right _ _), k v u hT⟩
end
theorem res_t {fn : Func} {tmps : Array Value} {w : World} (k : Nat) (h : fn.results = #[.tmp k]) : (results fn tmps).run P w = .ok (tmps.getD k undef) w := by
  simp [results, h]
theorem res_0 {fn : Func} {tmps : Array Value} {w : World} (h : fn.results = #[]) : (results fn tmps).run P w = .ok (.tuple #[]) w := by
  simp [results, h]
theorem res_tt {fn : Func} {tmps : Array Value} {w : World} (k j : Nat) (h : fn.results = #[.tmp k, .tmp j]) : (results fn tmps).run P w = .ok (.tuple #[tmps.getD k undef, tmps.getD j undef]) w := by
  simp [results, h]
/-- The end of a body. -/
theorem ek_ret {fn : Func} {R : Ending → World → Prop} {a : Act} {s : List Blk} (h : ∀ w, Kn B F s w → a.defers = [] ∧ ∃ v, (results fn a.tmps).run P w = .ok v w ∧ R (.returned v) w) :
    Ek B F (bodyPost P fn R) .ret a s := h
theorem ek_norm {fn : Func} {R : Ending → World → Prop} {a : Act} {s : List Blk} (h : ∀ w, Kn B F s w → a.defers = [] ∧ ∃ v, (results fn a.tmps).run P w = .ok v w ∧ R (.returned v) w) :
    Ek B F (bodyPost P fn R) .normal a s := h
end
end Go.Proofs.Ytccbinnlnkpplaa
namespace Go.Proofs.Ytccbinnlnkpplaa
set_option linter.all false
open Go.RowKit

/-- One object of the list becomes another. -/
inductive Rep (g : Nat) (o o' : Obj) : List Blk → List Blk → Prop
  | here (s : List Blk) : Rep g o o' ((g, o) :: s) ((g, o') :: s)
  | there (b : Blk) {s s' : List Blk} : Rep g o o' s s' → Rep g o o' (b :: s) (b :: s')

section
variable {B w w' : World} {F : List Nat} {s s' : List Blk} {g : Nat} {o o' : Obj}
theorem Rep.names (h : Rep g o o' s s') : s'.map (·.1) = s.map (·.1) := by
  induction h with
  | here => rfl
  | there b _ ih => simp [ih]
theorem Rep.mem (h : Rep g o o' s s') : (g, o) ∈ s := by
  induction h with
  | here s => simp
  | there b _ ih => simp [ih]
theorem Rep.spec (h : Rep g o o' s s') (hn : (s.map (·.1)).Nodup) : ∀ b ∈ s', (b ∈ s ∧ b.1 ≠ g) ∨ b = (g, o') := by
  induction h with
  | here s =>
    intro b hb
    rcases List.mem_cons.1 hb with rfl | hb
    · exact .inr rfl
    · refine .inl ⟨by simp [hb], fun e => ?_⟩
      simp only [List.map_cons, List.nodup_cons] at hn
      exact hn.1 (e ▸ List.mem_map.2 ⟨b, hb, rfl⟩)
  | there c h ih =>
    intro b hb
    simp only [List.map_cons, List.nodup_cons] at hn
    rcases List.mem_cons.1 hb with rfl | hb
    · refine .inl ⟨by simp, fun e => ?_⟩
      exact hn.1 (List.mem_map.2 ⟨_, h.mem, e.symm⟩)
    · rcases ih hn.2 b hb with ⟨h1, h2⟩ | h1
      · exact .inl ⟨by simp [h1], h2⟩
      · exact .inr h1

theorem Kn.rep (h : Kn B F s w) (hr : Rep g o o' s s') : Kn B F s' (w.putObj g o') := by
  have hsp := hr.spec h.nodup
  have hg := h.new _ hr.mem
  have hlt : g < w.heap.size := h.lt hr.mem
  refine ⟨h.os, h.tape, h.output, by rw [World.putObj_size]; exact h.size, ?_, ?_, ?_, by rw [hr.names]; exact h.nodup⟩
  · intro k hk hF
    refine (World.putObj_heap_other ?_).trans (h.old k hk hF)
    rcases hg with hg | hg
    · exact fun e => hF (e ▸ hg)
    · simp at hg; omega
  · intro b hb
    rcases hsp b hb with ⟨h1, h2⟩ | rfl
    · exact (World.putObj_heap_other h2).trans (h.own b h1)
    · exact World.putObj_heap_same hlt
  · intro b hb
    rcases hsp b hb with ⟨h1, _⟩ | rfl
    · exact h.new b h1
    · exact hg
end

section
variable {R : Option Nat} {P : Program} {ops : Array Oper} {Q : Exit → Act → World → Prop} {B : World} {F : List Nat} {a : Act} {s s' : List Blk} {X : Ending → World → Prop} {l : Nat} {r : Loop}

/-- A round, out of the walk of its assignments and its body. -/
theorem roundIn_kn {tmps : Array Value} (hrep : Rep l (.loop r) (.loop { r with state := .busy }) s s') (hr : r.state = .ready)
    (h : Wk (some l) P B F (Exit.then (fun a₁ w₁ => Kn B F s w₁ ∧ Wk (some l) P B F (roundPost P l X) a₁ s' r.body) (fun _ _ _ => False)) ⟨tmps, []⟩ s r.assign)
    {w : World} (K : Kn B F s w) : RoundIn (FR R) 0 P l r.fn tmps r.assign r.body w X := by
  refine roundIn_of_wpIn trivial (wpIn_mono (h w K) fun e a₁ w₁ hq => ?_)
  cases e with
  | normal =>
    obtain ⟨K₁, hb⟩ := hq
    exact ⟨_, run_beginRound (K₁.own _ hrep.mem) hr, hb _ (K₁.rep hrep)⟩
  | _ => exact hq
theorem ek_asg {c : Code} (h : Wk (some l) P B F (roundPost P l X) a s' c) :
    Ek B F (Exit.then (fun a₁ w₁ => Kn B F s w₁ ∧ Wk (some l) P B F (roundPost P l X) a₁ s' c) (fun _ _ _ => False)) .normal a s := fun _ K => ⟨K, h⟩
theorem ek_roundEnd (hrep : Rep l (.loop r) (.loop { r with state := .ready, pending := none }) s s') (h : ∀ w, Kn B F s' w → X (.returned (.bool true)) w) :
    Ek B F (roundPost P l X) .normal a s := fun w K => ⟨_, _, run_endRound none (K.own _ hrep.mem), h _ (K.rep hrep)⟩
theorem run_call_yield {d : Option Tmp} {fo : Operand} {cargs : Array Operand} {at_ : Array TypeId} {t : TypeId} {p : String} {af : Array Edge} {gd : Option (Nat × Bool)} {vs : Array Value} {w : World}
    (hf : a.eval fo = .func (.yield l) #[] #[]) (hargs : cargs.map a.eval = vs) (hl : w.heap[l]? = some (.loop r)) (hsz : vs.size = r.params.size) :
    (execOp a.eval ⟨d, .call ⟨.value fo, cargs, at_⟩, t, p, af, gd⟩).run P w =
      .ok (.round l r.fn ((r.params.zip vs).foldl (fun tmps (t, a) => tmps.setIfInBounds t a) r.tmps) r.assign r.body) w := by
  have hx : execOp a.eval ⟨d, .call ⟨.value fo, cargs, at_⟩, t, p, af, gd⟩ = (do let d ← resolve a.eval ⟨.value fo, cargs, at_⟩ t; invoke d.target d.args) := rfl
  have hv : (resolve a.eval ⟨.value fo, cargs, at_⟩ t) = pure { target := .fn (.yield l) #[], args := #[] ++ vs } := by
    simp only [resolve, hf, hargs, Deferred.ofValue]
  rw [hx, hv]
  have : (#[] ++ vs : Array Value) = vs := by simp
  rw [this]
  exact run_yield hl hsz

/-- A call of yield. -/
theorem rg_yield {d : Option Tmp} {fo : Operand} {cargs : Array Operand} {at_ : Array TypeId} {t : TypeId} {p : String} {af : Array Edge} {gd : Option (Nat × Bool)} {lst : List (Oper × Nat)} {vs : Array Value}
    (hg : Region.wanted ⟨d, .call ⟨.value fo, cargs, at_⟩, t, p, af, gd⟩ (yielded ops a.tmps) = true)
    (hf : a.eval fo = .func (.yield l) #[] #[]) (hargs : cargs.map a.eval = vs) (hsz : vs.size = r.params.size) (hm : (l, Obj.loop r) ∈ s)
    (h : ∀ w, Kn B F s w → RoundIn (FR R) 0 P l r.fn ((r.params.zip vs).foldl (fun tmps (t, a) => tmps.setIfInBounds t a) r.tmps) r.assign r.body w
      (fun e w' => ∃ v s', e = .returned v ∧ Kn B F s' w' ∧ Rg R P ops Q B F none lst (a.put d v) s')) :
    Rg R P ops Q B F none ((⟨d, .call ⟨.value fo, cargs, at_⟩, t, p, af, gd⟩, 1) :: lst) a s := by
  refine .inr ⟨rfl, fun w K => ⟨hg, ?_⟩⟩
  rw [run_call_yield hf hargs (K.own _ hm) hsz]
  refine ⟨(fun hh => nomatch hh), (h w K).mono fun e w' he => ?_⟩
  obtain ⟨v, s', rfl, K', hr⟩ := he
  exact ⟨s', K', hr⟩

/-- What the function that is ranged over must leave. -/
def Ranged (P : Program) (B : World) (F : List Nat) (Q : Exit → Act → World → Prop) (a : Act) (l d : Nat) (e : Ending) (w : World) : Prop :=
  ∃ v s' r' s'', e = .returned v ∧ Kn B F s' w ∧ Rep l (.loop r') (.loop { r' with state := .exhausted }) s' s'' ∧ r'.state ≠ .busy ∧
    (match r'.pending with
     | none => Ek B F Q .normal { a with defers := ⟨.collected d, #[]⟩ :: a.defers } s''
     | some c => Wk none P B F Q { a with defers := ⟨.collected d, #[]⟩ :: a.defers } s'' c)

theorem wk_rangeFunc {g : Operand} {ps : Array Tmp} {assign body : Code} {f : Nat} {caps : Array Value} (hf : a.eval g = .func (.func f) #[] caps) (hgo : isGo P f = true)
    (h : ∀ (fn d l : Nat) (w : World), Kn B F ((l, .loop { state := .ready, pending := none, fn, tmps := a.tmps, params := ps, assign, body, defers := d }) :: (d, .deferred (some [])) :: s) w →
      Calls P f (#[.func (.yield l) #[] #[]] ++ caps) w (Ranged P B F Q a l d)) :
    Wk none P B F Q a s (.rangeFunc g ps assign body) := by
  intro w K
  refine wpIn_rangeFunc fun fn _ => ?_
  have he := run_enterLoop_outer (P := P) (w := w) fn a.tmps ps assign body
  generalize hW : (w.alloc (.deferred (some []))).alloc (.loop { state := .ready, pending := none, fn, tmps := a.tmps, params := ps, assign, body, defers := w.heap.size }) = W at he
  refine ⟨w.heap.size + 1, [{ target := .collected w.heap.size, args := #[] }], W, { target := .fn (.func f) caps, args := #[.func (.yield (w.heap.size + 1)) #[] #[]] }, W, f,
    #[.func (.yield (w.heap.size + 1)) #[] #[]] ++ caps, W, he, ?_, (fun _ _ => trivial), ?_, (fun hh => nomatch hh), ?_⟩
  · have hv : (resolve a.eval (rangeCall g (w.heap.size + 1)) 0) = pure { target := .fn (.func f) caps, args := #[] ++ #[.func (.yield (w.heap.size + 1)) #[] #[]] } := by
      have hc : ∀ v, a.eval (.const v) = v := fun _ => rfl
      simp only [resolve, hf, Deferred.ofValue, List.map_toArray, List.map_cons, List.map_nil, hc]
    rw [hv]
    rfl
  · show (callFunc f (_ ++ caps)).run P _ = _
    exact run_callFunc_go hgo _ _
  · have K1 := (K.alloc (.deferred (some []))).alloc (.loop { state := .ready, pending := none, fn, tmps := a.tmps, params := ps, assign, body, defers := w.heap.size })
    rw [sA, hW] at K1
    refine calls_FR ((h fn w.heap.size (w.heap.size + 1) _ K1).mono fun e w' he => ?_)
    obtain ⟨v, s', r', s'', rfl, K', hrep, hb, hq⟩ := he
    refine ⟨r'.pending, _, run_endLoop (K'.own _ hrep.mem) hb, ?_⟩
    have K2 := K'.rep hrep
    cases hp : r'.pending with
    | none => rw [hp] at hq K2; exact hq _ K2
    | some c => rw [hp] at hq K2; exact hq _ K2

/-- A function that holds a range over a function. -/
theorem calls_marks {f : Nat} {fn : Func} {c : Code} {args : Array Value} {w : World} (hf : P.funcs[f]? = some fn) (hb : fn.body = some c)
    (h : Wk none P w [] (bodyPostM (FR none) 0 P fn X) { tmps := args ++ Array.replicate (fn.ntmps - args.size) undef, defers := [] } [] c) : Calls P f args w X :=
  callsIn_FR (R := none) (callsIn_of_wp_marks hf hb trivial (h w (Kn.start w)))
theorem ek_retM0 {fn : Func} {tmps : Array Value} (h : ∀ w, Kn B F s w → ∃ v, (results fn tmps).run P w = .ok v w ∧ X (.returned v) w) :
    Ek B F (bodyPostM (FR none) 0 P fn X) .ret ⟨tmps, []⟩ s := fun w K => h w K
theorem ek_retM1 {fn : Func} {tmps : Array Value} {d : Nat} (hrep : Rep d (.deferred (some [])) (.deferred none) s s') (h : ∀ w, Kn B F s' w → ∃ v, (results fn tmps).run P w = .ok v w ∧ X (.returned v) w) :
    Ek B F (bodyPostM (FR none) 0 P fn X) .ret ⟨tmps, [⟨.collected d, #[]⟩]⟩ s := fun w K =>
  ⟨by simp, .inl ⟨d, _, rfl, run_takeDeferred (K.own _ hrep.mem), h _ (K.rep hrep)⟩⟩
end

/-! ### Calls that change blocks of the list -/
section
variable {B w w' : World} {F G : List Nat} {s u rest : List Blk}
/-- What a call leaves that may change the blocks G, which all lie in the list: rest is the list without them. -/
theorem Kn.eff (K : Kn B F s w) (hc : Kn w G u w') (hsub : rest.Sublist s) (hG : ∀ g ∈ G, g ∈ s.map (·.1)) (hrest : ∀ b ∈ rest, b.1 ∉ G) : Kn B F (u ++ rest) w' := by
  have hGn : ∀ g ∈ G, g ∈ F ∨ B.heap.size ≤ g := fun g hg => by
    obtain ⟨b, hb, rfl⟩ := List.mem_map.1 (hG g hg)
    exact K.new b hb
  refine ⟨hc.os.trans K.os, hc.tape.trans K.tape, hc.output.trans K.output, Nat.le_trans K.size hc.size, ?_, ?_, ?_, ?_⟩
  · intro k hk hF
    refine (hc.old k (Nat.lt_of_lt_of_le hk K.size) fun hg => ?_).trans (K.old k hk hF)
    rcases hGn k hg with h | h
    · exact hF h
    · omega
  · intro b hb
    rcases List.mem_append.1 hb with hb | hb
    · exact hc.own b hb
    · have hbs := hsub.subset hb
      exact (hc.old b.1 (K.lt hbs) (hrest b hb)).trans (K.own b hbs)
  · intro b hb
    rcases List.mem_append.1 hb with hb | hb
    · rcases hc.new b hb with h | h
      · exact hGn _ h
      · exact .inr (Nat.le_trans K.size h)
    · exact K.new b (hsub.subset hb)
  · rw [List.map_append]
    refine List.nodup_append.2 ⟨hc.nodup, (hsub.map _).nodup K.nodup, ?_⟩
    intro x hx y hy e
    subst e
    obtain ⟨p, hp, rfl⟩ := List.mem_map.1 hx
    obtain ⟨q, hq, hqp⟩ := List.mem_map.1 hy
    rcases hc.new p hp with h | h
    · exact hrest q hq (hqp ▸ h)
    · have := K.lt (hsub.subset hq)
      omega

/-- A list whose head blocks are those that change. -/
theorem Kn.effApp {v : List Blk} (K : Kn B F (v ++ rest) w) (hc : Kn w (v.map (·.1)) u w') : Kn B F (u ++ rest) w' := by
  refine K.eff hc (List.sublist_append_right _ _) (fun g hg => by rw [List.map_append]; exact List.mem_append_left _ hg) (fun b hb hg => ?_)
  have := K.nodup
  rw [List.map_append] at this
  exact (List.nodup_append.1 this).2.2 _ hg _ (List.mem_map.2 ⟨b, hb, rfl⟩) rfl
/-- The blocks at hand as footprint of a call. -/
theorem Kn.self {v : List Blk} (K : Kn B F (v ++ rest) w) : Kn w (v.map (·.1)) v w :=
  ⟨rfl, rfl, rfl, Nat.le_refl _, fun _ _ _ => rfl, fun b hb => K.own b (List.mem_append_left _ hb), fun b hb => .inl (List.mem_map.2 ⟨b, hb, rfl⟩),
    (List.nodup_append.1 (by have := K.nodup; rwa [List.map_append] at this)).1⟩
/-- The list in another order. -/
theorem Kn.perm {s' : List Blk} (K : Kn B F s w) (h : s.Perm s') : Kn B F s' w :=
  ⟨K.os, K.tape, K.output, K.size, K.old, fun b hb => K.own b (h.mem_iff.2 hb), fun b hb => K.new b (h.mem_iff.2 hb), (h.map _).nodup K.nodup⟩
end
end Go.Proofs.Ytccbinnlnkpplaa
namespace Go.Proofs.Ytccbinnlnkpplaa
set_option linter.all false
open Go.RowKit

/-- A slice's cells, as they read in w. -/
def AS (w : World) (a : Option Addr) (xs : List Value) : Prop := xs ≠ [] → ∃ b off, a = some ⟨b, off, none⟩ ∧ b < w.heap.size ∧ ∀ j, j < xs.length → w.cell? ⟨b, off + j, none⟩ = xs[j]?

section
variable {B w w' : World} {F : List Nat} {s : List Blk} {a : Option Addr} {xs : List Value}
theorem AS.nil : AS w a [] := fun h => absurd rfl h
theorem AS.below (h : AS w a xs) (hb : Below w.heap.size w w') : AS w' a xs := fun hne => by
  obtain ⟨b, off, rfl, hlt, hc⟩ := h hne
  exact ⟨b, off, rfl, Nat.lt_of_lt_of_le hlt hb.size, fun j hj => (hb.cell (p := ⟨b, off + j, none⟩) hlt).trans (hc j hj)⟩
theorem AS.kn (h : AS B a xs) (K : Kn B F s w) (hF : ∀ b off, a = some ⟨b, off, none⟩ → b ∉ F) : AS w a xs := fun hne => by
  obtain ⟨b, off, rfl, hlt, hc⟩ := h hne
  exact ⟨b, off, rfl, Nat.lt_of_lt_of_le hlt K.size, fun j hj => (K.cellB hlt (hF b off rfl) _).trans (hc j hj)⟩
theorem AS.kn0 (h : AS B a xs) (K : Kn B [] s w) : AS w a xs := h.kn K (fun _ _ _ => by simp)

theorem Kn.tlU {u : List Blk} (K : Kn B F (u ++ s) w) : Kn B F s w := K.sub (List.sublist_append_right _ _)
theorem Upd.app {g i : Nat} {x : Value} {s s' : List Blk} (u : List Blk) (h : Upd g i x s s') : Upd g i x (u ++ s) (u ++ s') := by
  induction u with
  | nil => exact h
  | cons b u ih => exact .there b ih
theorem Rep.app {g : Nat} {o o' : Obj} {s s' : List Blk} (u : List Blk) (h : Rep g o o' s s') : Rep g o o' (u ++ s) (u ++ s') := by
  induction u with
  | nil => exact h
  | cons b u ih => exact .there b ih
theorem Kn.mod {g : Nat} {o o' : Obj} (K : Kn B F ((g, o) :: s) w) (h1 : w'.os = w.os) (h2 : w'.tape = w.tape) (h3 : w'.output = w.output) (h4 : w.heap.size ≤ w'.heap.size)
    (h5 : ∀ k, k < w.heap.size → k ≠ g → w'.heap[k]? = w.heap[k]?) (h6 : w'.heap[g]? = some o') : Kn B F ((g, o') :: s) w' := by
  have hn := List.nodup_cons.1 K.nodup
  refine ⟨h1.trans K.os, h2.trans K.tape, h3.trans K.output, Nat.le_trans K.size h4, ?_, ?_, ?_, List.nodup_cons.2 hn⟩
  · intro k hk hF
    refine (h5 k (Nat.lt_of_lt_of_le hk K.size) fun e => ?_).trans (K.old k hk hF)
    subst e
    rcases K.new (k, o) (by simp) with h | h
    · exact hF h
    · simp at h; omega
  · intro b hb
    rcases List.mem_cons.1 hb with rfl | hb
    · exact h6
    · refine (h5 b.1 (K.lt (by simp [hb])) fun e => ?_).trans (K.own b (by simp [hb]))
      exact hn.1 (e ▸ List.mem_map.2 ⟨b, hb, rfl⟩)
  · intro b hb
    rcases List.mem_cons.1 hb with rfl | hb
    · exact K.new (g, o) (by simp)
    · exact K.new b (by simp [hb])
end

/-- A slice that the call owns whole; u: its block, if there is one. -/
def Own (e size : Nat) (u : List Blk) (v : Value) (n : Nat) (xs : List Value) : Prop :=
  xs.length = n * size ∧ ((u = [] ∧ v = .slice none 0 0 ∧ n = 0) ∨
    ∃ g cap cur, u = [(g, .cells cur e)] ∧ v = .slice (some ⟨g, 0, none⟩) n cap ∧ n ≤ cap ∧ cap ≤ maxLen ∧ cur.size = cap * size ∧ cur.toList.take (n * size) = xs)

theorem Own.nil (e size : Nat) : Own e size [] (.slice none 0 0) 0 [] := ⟨by simp, .inl ⟨rfl, rfl, rfl⟩⟩
/-- A block that was just made whole. -/
theorem Own.whole {e size g n : Nat} {cur : Array Value} (h : cur.size = n * size) (hn : n ≤ maxLen) : Own e size [(g, .cells cur e)] (.slice (some ⟨g, 0, none⟩) n n) n cur.toList :=
  ⟨by simpa using h, .inr ⟨g, n, cur, rfl, rfl, Nat.le_refl _, hn, h, List.take_of_length_le (by simp [h])⟩⟩
theorem Own.as {e size : Nat} {u s : List Blk} {v : Value} {n : Nat} {xs : List Value} {B w : World} {F : List Nat} (h : Own e size u v n xs) (K : Kn B F (u ++ s) w) : ∃ a cap, v = .slice a n cap ∧ AS w a xs := by
  obtain ⟨hl, ⟨rfl, rfl, rfl⟩ | ⟨g, cap, cur, rfl, rfl, hc, hm, hs, ht⟩⟩ := h
  · have : xs = [] := List.eq_nil_of_length_eq_zero (by simpa using hl)
    subst this
    exact ⟨none, 0, rfl, AS.nil⟩
  · have hd : Hd w g e cur := Kn.hd0 K
    refine ⟨_, cap, rfl, fun hne => ⟨g, 0, rfl, hd.lt, fun j hj => ?_⟩⟩
    rw [hd.cell, ← ht, List.getElem?_take, if_pos (by omega)]
    simp
theorem Own.val {e size : Nat} {u : List Blk} {v : Value} {n : Nat} {xs : List Value} (h : Own e size u v n xs) : ∃ a cap, v = .slice a n cap ∧ n ≤ cap := by
  obtain ⟨hl, ⟨rfl, rfl, rfl⟩ | ⟨g, cap, cur, rfl, rfl, hc, hm, hs, ht⟩⟩ := h
  · exact ⟨none, 0, rfl, Nat.le_refl _⟩
  · exact ⟨_, _, rfl, hc⟩

section
variable {R : Option Nat} {P : Program} {ops : Array Oper} {Q : Exit → Act → World → Prop} {B : World} {F : List Nat} {s0 : Option (List Blk × List Blk)}
variable {l : List (Oper × Nat)} {a : Act} {s S : List Blk} {d : Option Tmp} {op : Op} {t : TypeId} {p : String} {af : Array Edge} {v : Value}

/-- A slice literal, a make. -/
theorem rg_newS {cs : Array Value} {ty n c : Nat} {gd : Option (Nat × Bool)} (hg : Region.wanted ⟨d, op, t, p, af, gd⟩ (yielded ops a.tmps) = true) (hr : ∀ w : World, (execOp a.eval ⟨d, op, t, p, af, gd⟩).run P w = .ok (.value (.slice (some ⟨w.heap.size, 0, none⟩) n c)) (w.alloc (.cells cs ty)))
    (hz : ∀ z ∈ s0, z.1.Sublist s) (h : ∀ g, Rg R P ops Q B F s0 l (a.put d (.slice (some ⟨g, 0, none⟩) n c)) ((g, .cells cs ty) :: s)) :
    Rg R P ops Q B F s0 ((⟨d, op, t, p, af, gd⟩, 1) :: l) a s :=
  rg_run hg fun w K => ⟨_, _, _, .inl (hr w), K.alloc _, fun z hz' => (hz z hz').cons _, h _⟩

/-- append of known cells to a slice that the call owns. -/
theorem rg_append {u : List Blk} {so xo : Operand} {ty e : Nat} {i : TypeInfo} {z : Value} {size bytes n m c : Nat} {xs news : List Value} {ad : Addr} {gd : Option (Nat × Bool)} (hg : Region.wanted ⟨d, .call ⟨.builtin .append, #[so, xo], #[ty, ty]⟩, t, p, af, gd⟩ (yielded ops a.tmps) = true)
    (ht : P.underlying ty = some (.slice e)) (hi : P.info? e = some i) (hz : i.zero = some z) (hsize : i.size = size) (hby : i.bytes = bytes) (hzs : z.cells.size = size) (hsz : 0 < size)
    (hs : a.eval so = v) (hown : Own e size u v n xs) (hx : a.eval xo = .slice (some ad) m c) (hl : news.length = m * size)
    (hnews : ∀ w, Kn B F S w → ∀ j x, news[j]? = some x → w.cell? (ad.add j) = some x) (h1 : ∀ x ∈ news, x.oneCell' = true)
    (h63 : n + m ≤ maxLen) (hbytes : (n + m) * bytes ≤ 140737488355328) (hp : S.Perm (u ++ s)) (hzz : ∀ z ∈ s0, z.1.Sublist s)
    (h : ∀ u' v', Own e size u' v' (n + m) (xs ++ news) → (v' = .slice none 0 0 ↔ v = .slice none 0 0 ∧ m = 0) → Rg R P ops Q B F s0 l (a.put d v') (u' ++ s)) :
    Rg R P ops Q B F s0 ((⟨d, .call ⟨.builtin .append, #[so, xo], #[ty, ty]⟩, t, p, af, gd⟩, 1) :: l) a S := by
  refine rg_run hg fun w K => ?_
  have hnews := hnews w K
  have K' := K.perm hp
  have key : ∃ v' w' u', (Builtin.append_ #[ty, ty] t #[v, .slice (some ad) m c]).run P w = .ok v' w' ∧ Own e size u' v' (n + m) (xs ++ news) ∧ Kn B F (u' ++ s) w' ∧
      (v' = .slice none 0 0 ↔ v = .slice none 0 0 ∧ m = 0) := by
    subst hsize
    subst hby
    have hsmall : n + m ≤ 9223372036854775807 := by simp only [maxLen] at h63; omega
    have hxl := hown.1
    have hlen : (xs ++ news).length = (n + m) * i.size := by rw [List.length_append, hxl, hl, Nat.add_mul]
    have grown : ∀ old : Nat, old < n + m → Own e i.size [(w.heap.size, .cells (xs.toArray ++ news.toArray ++ Builtin.zeroCells z.cells (grownCap w (n + m) old e - (n + m))) e)]
        (.slice (some ⟨w.heap.size, 0, none⟩) (n + m) (grownCap w (n + m) old e)) (n + m) (xs ++ news) := by
      intro old ho
      have hge := grownCap_ge w (n + m) old e
      have hcm : grownCap w (n + m) old e ≤ maxLen := grownCap_le_maxLen w (n + m) old e h63
      refine ⟨hlen, .inr ⟨w.heap.size, _, _, rfl, rfl, hge, hcm, ?_, ?_⟩⟩
      · simp only [Array.size_append, List.size_toArray, size_zeroCells, hzs, hxl, hl, ← Nat.add_mul]
        congr 1
        omega
      · simp only [Array.toList_append, List.append_assoc]
        rw [← List.append_assoc, ← hlen]
        exact List.take_left
    rcases hown.2 with ⟨rfl, rfl, rfl⟩ | ⟨g, cap, cur, rfl, rfl, hnc, hcm, hcs, htake⟩
    · have hx0 : xs = [] := List.eq_nil_of_length_eq_zero (by simpa using hxl)
      subst hx0
      by_cases hm : m = 0
      · subst hm
        have hn0 : news = [] := List.eq_nil_of_length_eq_zero (by simpa using hl)
        subst hn0
        refine ⟨.slice none 0 0, w, [], ?_, Own.nil e i.size, K', by simp⟩
        simp [Builtin.append_, run_underlying ht, sizeOf, typeInfo, hi, Builtin.lenOf, Builtin.firstCells, loadCells, loadCellsFrom]
      · have hr := run_append_nil (P := P) w ty t e i z ht hi hz ad m c news hl hnews (by omega) (by omega) (by have hb := hbytes; simp only [Nat.zero_add] at hb; omega)
        have hgr := grown 0 (by omega)
        simp only [Nat.zero_add, List.nil_append, Array.empty_append] at hgr ⊢
        exact ⟨_, _, _, hr, hgr, K'.drew.alloc _, by simp [hm]⟩
    · have hd : w.heap[g]? = some (.cells cur e (0, 0)) := Kn.hd0 K'
      by_cases hroom : n + m ≤ cap
      · have hfit : n * i.size + news.length ≤ cur.size := by rw [hl, hcs, ← Nat.add_mul]; exact Nat.mul_le_mul_right _ hroom
        have hr := run_append_room (P := P) w ty t e i ht hi g n cap cur hd ad m c news hl hnews h1 hroom hfit
        refine ⟨_, _, _, hr, ⟨hlen, .inr ⟨g, cap, _, rfl, rfl, hroom, hcm, ?_, ?_⟩⟩, Kn.mod K' rfl rfl rfl (by simp) (fun k _ hk => setRow_other w g k _ (fun e => hk e)) (setRow_heap w g cur _ e _ hd), by simp⟩
        · simp only [List.size_toArray, List.length_append, List.length_take, List.length_drop, Array.length_toList]
          omega
        · rw [htake, ← hlen]
          exact List.take_left
      · have holds : ∀ j x, xs[j]? = some x → w.cell? ((⟨g, 0, none⟩ : Addr).add j) = some x := by
          intro j x hj
          have hlt : j < xs.length := (List.getElem?_eq_some_iff.1 hj).1
          have : (⟨g, 0, none⟩ : Addr).add j = ⟨g, j, none⟩ := by unfold Addr.add; split <;> simp_all
          rw [this, (Kn.hd0 K' : Hd w g e cur).cell, ← hj, ← htake, List.getElem?_take, if_pos (by omega)]
          simp
        have hr := run_append_grow (P := P) w ty t e i z ht hi hz ⟨g, 0, none⟩ n cap xs hxl holds ad m c news hl hnews (by omega) (by omega) (growslice_fits (by omega) hbytes)
        have hgr := grown cap (by omega)
        exact ⟨_, _, _, hr, hgr, (K'.tl).drew.alloc _, by simp⟩
  obtain ⟨v', w', u', hr, hO, hK, hnil⟩ := key
  refine ⟨v', w', u' ++ s, .inl ?_, hK, fun z hz' => (hzz z hz').trans (List.sublist_append_right _ _), h u' v' hO hnil⟩
  have hx1 : execOp a.eval ⟨d, .call ⟨.builtin .append, #[so, xo], #[ty, ty]⟩, t, p, af, gd⟩ = (do let d ← resolve a.eval ⟨.builtin .append, #[so, xo], #[ty, ty]⟩ t; invoke d.target d.args) := rfl
  rw [hx1]
  simp only [resolve, invoke, builtin, Sem.run_bind, Sem.run_pure, Result.andThen_ok, List.map_toArray, List.map_cons, List.map_nil, hs, hx, hr]
end
end Go.Proofs.Ytccbinnlnkpplaa
namespace Go.Proofs.Ytccbinnlnkpplaa
set_option linter.all false
open Go.ChangeShapes Go.WideShapes Go.ChangeAt Go.RowKit

section
variable {H : Type} {enc : TypeId × Value → H} {P : Program}

theorem trodAll_stays (hl : laidOutB P = true) {W W' : World} {sp : Nat → Bool} (hb : Below W.heap.size W W') : ∀ {ts : List TypeId} {vs : List Value} {ds : List (DataW H)} {ps : List MemPlace},
    (ts.all fun t => P.readableRec t && decide (t < P.types.size)) = true → DataW.TrodAll enc P W 0 (fun _ => true) true ts vs ds ps → (∀ x ∈ ps, x.block < W.heap.size) → (∀ x ∈ ps, sp x.block = true) →
    DataW.TrodAll enc P W' 0 sp true ts vs ds ps
  | [], [], [], _, _, h, _, _ => h
  | _ :: _, _ :: _, _ :: _, _, ht, ⟨p, q, h1, h2, e⟩, hlt, hs => by
    simp only [List.all_cons, Bool.and_eq_true, decide_eq_true_eq] at ht
    exact ⟨p, q, WideElems.Trod_stays hl ht.1.1 ht.1.2 h1 (fun x hx => hb.same (hlt x (by rw [e]; exact List.mem_append_left _ hx))) (fun x hx => hs x (by rw [e]; exact List.mem_append_left _ hx)),
      trodAll_stays hl hb (by simpa only [Bool.and_eq_true] using ht.2) h2 (fun x hx => hlt x (by rw [e]; exact List.mem_append_right _ hx)) (fun x hx => hs x (by rw [e]; exact List.mem_append_right _ hx)), e⟩
  | [], _ :: _, _, _, _, h, _, _ => by simp [DataW.TrodAll] at h
  | [], [], _ :: _, _, _, h, _, _ => by simp [DataW.TrodAll] at h
  | _ :: _, [], _, _, _, h, _, _ => by simp [DataW.TrodAll] at h
  | _ :: _, _ :: _, [], _, _, h, _, _ => by simp [DataW.TrodAll] at h

/-- What the statement says at the end, where the results are plain and the arguments read as they did. -/
theorem post_reads {f : Func} {s : ChangeSpec} {apart fresh handsOn again : Bool} {W W' : World} {args : Array Value} {v : Value} {ds : List (DataW H)} {before : List MemPlace}
    (hl : laidOutB P = true) (hts : (f.params.toList.all fun t => P.readableRec t && decide (t < P.types.size)) = true)
    (hW : DataW.Whole enc P f.params.toList s.vars apart W args.toList ds [] before) (hv : s.vars = [])
    (hA : DataW.TrodAll enc P W 0 (fun _ => true) true f.params.toList args.toList ds before)
    (hres : ∀ (b : Nat) (sp : Nat → Bool) (hd : Bool), DataW.TrodAll enc P W' b sp hd f.resultTypes.toList (v.resultList f.resultTypes.size) (s.fn H (ds ++ [])).results [])
    (harg : (s.fn H (ds ++ [])).args = ds) (hvar : (s.fn H (ds ++ [])).vars = [])
    (hb : Below W.heap.size W W')
    (hok : ∀ (j : Nat) (t : TypeId) (r : Value), f.resultTypes[j]? = some t → (v.resultList f.resultTypes.size)[j]? = some r → Value.okWide P W' .any 0 t r) :
    s.post enc P f apart fresh handsOn again W args v W' := by
  have hlt : ∀ p ∈ before, p.block < W.heap.size := fun p hp => hW.lt p hp
  have hold : ∀ p ∈ before, (fun b => decide (b < W.heap.size)) p.block = true := fun p hp => by simpa using hlt p hp
  have hargs : ∀ sp : Nat → Bool, (∀ p ∈ before, sp p.block = true) → DataW.TrodAll enc P W' 0 sp true f.params.toList args.toList (s.fn H (ds ++ [])).args before := fun sp hs => by
    rw [harg]; exact trodAll_stays hl hb hts hA hlt hs
  have hvars : ∀ sp : Nat → Bool, DataW.TrodVars enc P W' sp s.vars (s.fn H (ds ++ [])).vars [] := fun sp => by rw [hv, hvar]; rfl
  refine ⟨ds, [], before, [], before, [], hW, hres _ _ _, hargs _ hold, hvars _, World.keptBut_mono (fun p hp => ⟨hp, .inr (.inl hp)⟩) (hb.frame (· ∈ before)), fun _ => ?_⟩
  obtain ⟨_, _, _, _, _, hz, hn⟩ := hW
  refine ⟨hok, _, _, ([] ++ before) ++ [], ⟨[] ++ before, [], trodAll_append (hargs _ (fun _ _ => rfl)) (hres _ _ _), hvars _, rfl, ?_, ?_⟩, ?_⟩
  · intro b off hp
    have hin : MemPlace.cell b off ∈ before := by simpa using hp
    rw [hb.frozen (hlt _ hin)]
    exact hz b off hin
  · intro ha
    have := hn ha
    simpa using this
  · intro p hp _
    simpa using hp

end
end Go.Proofs.Ytccbinnlnkpplaa
/- Plain: exact amplitudes as four whole numbers and an exponent; their form; their values. -/
namespace Go.Proofs.Ytccbinnlnkpplaa
set_option linter.all false

/-- (a + b w + c w^2 + d w^3) / r^k. -/
structure Nm where
  a : Int
  b : Int
  c : Int
  d : Int
  k : Int
deriving DecidableEq, Inhabited
structure Nm.Fit (n : Int) (z : Nm) : Prop where
  a0 : -n ≤ z.a
  a1 : z.a ≤ n
  b0 : -n ≤ z.b
  b1 : z.b ≤ n
  c0 : -n ≤ z.c
  c1 : z.c ≤ n
  d0 : -n ≤ z.d
  d1 : z.d ≤ n
def Nm.zero : Nm := ⟨0, 0, 0, 0, 0⟩
def Nm.one : Nm := ⟨1, 0, 0, 0, 0⟩
def Nm.conj (z : Nm) : Nm := ⟨z.a, -z.d, -z.c, -z.b, z.k⟩
def Nm.neg (z : Nm) : Nm := ⟨-z.a, -z.b, -z.c, -z.d, z.k⟩
/-- An eighth of a turn. -/
def Nm.rot (z : Nm) : Nm := ⟨-z.d, z.a, z.b, z.c, z.k⟩
def Nm.step (z : Nm) : Nm := ⟨(z.b - z.d) / 2, (z.a + z.c) / 2, (z.b + z.d) / 2, (z.c - z.a) / 2, z.k - 1⟩
/-- The same number with a greater exponent. -/
def Nm.tr (z : Nm) : Nm := ⟨z.b - z.d, z.a + z.c, z.b + z.d, z.c - z.a, z.k + 1⟩
def Nm.up : Nat → Nm → Nm
  | 0, z => z
  | n + 1, z => Nm.up n z.tr
def Nm.to (m : Int) (z : Nm) : Nm := Nm.up (m - z.k).toNat z
def Nm.even (z : Nm) : Prop := (z.a + z.c) % 2 = 0 ∧ (z.b + z.d) % 2 = 0
instance (z : Nm) : Decidable z.even := inferInstanceAs (Decidable ((z.a + z.c) % 2 = 0 ∧ (z.b + z.d) % 2 = 0))
/-- The form of a number, n steps at most. -/
def red : Nat → Nm → Nm
  | 0, z => z
  | n + 1, z => if 0 < z.k ∧ z.even then red n z.step else z
def Nm.nf (z : Nm) : Nm := red z.k.toNat z
/-- In range. -/
def Nm.small (z : Nm) : Bool := decide (z.k ≤ 40) && (decide (-1000000000 ≤ z.a) && decide (z.a ≤ 1000000000) && (decide (-1000000000 ≤ z.b) && decide (z.b ≤ 1000000000)) && (decide (-1000000000 ≤ z.c) && decide (z.c ≤ 1000000000)) && (decide (-1000000000 ≤ z.d) && decide (z.d ≤ 1000000000)))
theorem small_iff {z : Nm} : z.small = true ↔ z.k ≤ 40 ∧ z.Fit 1000000000 := by
  simp only [Nm.small, Bool.and_eq_true, decide_eq_true_eq]
  exact ⟨fun ⟨h0, ⟨⟨h1, h2⟩, h3⟩, h4⟩ => ⟨h0, h1.1, h1.2, h2.1, h2.2, h3.1, h3.2, h4.1, h4.2⟩, fun ⟨h0, h⟩ => ⟨h0, ⟨⟨⟨h.a0, h.a1⟩, h.b0, h.b1⟩, h.c0, h.c1⟩, h.d0, h.d1⟩⟩
theorem small_yes {z : Nm} (h1 : z.k ≤ 40) (h2 : z.Fit 1000000000) : z.small = true := small_iff.2 ⟨h1, h2⟩
theorem small_no {z : Nm} (h : ¬ (z.k ≤ 40 ∧ z.Fit 1000000000)) : z.small = false := by
  cases hs : z.small with
  | false => rfl
  | true => exact absurd (small_iff.1 hs) h
/-- A valid number. -/
structure Nm.Ok (z : Nm) : Prop where
  fit : z.Fit 1000000000
  k0 : 0 ≤ z.k
  k1 : z.k ≤ 40
  form : z.k = 0 ∨ ¬ z.even
def Nm.okB (z : Nm) : Bool := z.small && decide (0 ≤ z.k) && decide (z.k = 0 ∨ ¬ z.even)
theorem okB_iff {z : Nm} : z.okB = true ↔ z.Ok := by
  simp only [Nm.okB, Bool.and_eq_true, small_iff, decide_eq_true_eq]
  exact ⟨fun ⟨⟨⟨h0, h1⟩, h2⟩, h3⟩ => ⟨h1, h2, h0, h3⟩, fun h => ⟨⟨⟨h.k1, h.fit⟩, h.k0⟩, h.form⟩⟩
/-- A result, or an error's number. -/
abbrev NR := Except Int Nm
def Nm.mk' (z : Nm) : NR := if z.nf.small then .ok z.nf else .error 4

theorem Nm.even_tr (z : Nm) : z.tr.even := ⟨by simp only [Nm.tr]; omega, by simp only [Nm.tr]; omega⟩
theorem Nm.step_tr (z : Nm) : z.tr.step = z := by
  obtain ⟨a, b, c, d, k⟩ := z
  simp only [Nm.tr, Nm.step]
  congr 1 <;> omega
theorem Nm.tr_step {z : Nm} (h : z.even) : z.step.tr = z := by
  obtain ⟨a, b, c, d, k⟩ := z
  obtain ⟨h1, h2⟩ := h
  simp only [Nm.tr, Nm.step] at *
  congr 1 <;> omega
theorem Nm.tr_inj {x y : Nm} (h : x.tr = y.tr) : x = y := by rw [← Nm.step_tr x, h, Nm.step_tr]
theorem Nm.up_tr : ∀ (n : Nat) (z : Nm), Nm.up n z.tr = (Nm.up n z).tr
  | 0, _ => rfl
  | n + 1, z => Nm.up_tr n z.tr
theorem Nm.up_add : ∀ (i j : Nat) (z : Nm), Nm.up i (Nm.up j z) = Nm.up (j + i) z
  | i, 0, z => by rw [Nat.zero_add]; rfl
  | i, j + 1, z => by
    rw [show j + 1 + i = (j + i) + 1 by omega]
    exact Nm.up_add i j z.tr
theorem Nm.up_inj : ∀ (n : Nat) {x y : Nm}, Nm.up n x = Nm.up n y → x = y
  | 0, _, _, h => h
  | n + 1, _, _, h => Nm.tr_inj (Nm.up_inj n h)
theorem Nm.up_k : ∀ (n : Nat) (z : Nm), (Nm.up n z).k = z.k + n
  | 0, z => by simp [Nm.up]
  | n + 1, z => by
    have := Nm.up_k n z.tr
    simp only [Nm.up]
    rw [this]
    simp only [Nm.tr]
    omega
theorem Nm.to_k {m : Int} {z : Nm} (h : z.k ≤ m) : (z.to m).k = m := by unfold Nm.to; rw [Nm.up_k]; omega

/-- The same value. -/
def Eqv (x y : Nm) : Prop := ∃ i j : Nat, Nm.up i x = Nm.up j y
theorem Eqv.refl (x : Nm) : Eqv x x := ⟨0, 0, rfl⟩
theorem Eqv.symm {x y : Nm} (h : Eqv x y) : Eqv y x := let ⟨i, j, h⟩ := h; ⟨j, i, h.symm⟩
theorem Eqv.trans {x y z : Nm} (h : Eqv x y) (k : Eqv y z) : Eqv x z := by
  obtain ⟨i, j, h⟩ := h
  obtain ⟨k, l, k'⟩ := k
  refine ⟨i + k, l + j, ?_⟩
  rw [← Nm.up_add, ← Nm.up_add, h, ← k', Nm.up_add, Nm.up_add, Nat.add_comm]
theorem Eqv.up (n : Nat) (z : Nm) : Eqv (Nm.up n z) z := ⟨0, n, rfl⟩
theorem Eqv.tr (z : Nm) : Eqv z.tr z := ⟨0, 1, rfl⟩
theorem Eqv.to (m : Int) (z : Nm) : Eqv (z.to m) z := Eqv.up _ z
theorem red_eqv : ∀ (n : Nat) (z : Nm), Eqv (red n z) z
  | 0, z => Eqv.refl z
  | n + 1, z => by
    simp only [red]
    split
    · next h => exact (red_eqv n z.step).trans ⟨1, 0, Nm.tr_step h.2⟩
    · exact Eqv.refl z
theorem nf_eqv (z : Nm) : Eqv z.nf z := red_eqv _ z
/-- In form. -/
def Nm.Nf (z : Nm) : Prop := z.k ≤ 0 ∨ ¬ z.even
theorem Nm.Ok.nf {z : Nm} (h : z.Ok) : z.Nf := h.form.imp (by omega) id
theorem red_form : ∀ (n : Nat) (z : Nm), z.k ≤ n → (red n z).Nf
  | 0, z, h => .inl h
  | n + 1, z, h => by
    simp only [red]
    split
    · exact red_form n z.step (by simp only [Nm.step]; omega)
    · next hc =>
      by_cases h0 : 0 < z.k
      · exact .inr fun he => hc ⟨h0, he⟩
      · exact .inl (by omega)
theorem nf_form (z : Nm) : z.nf.Nf := red_form _ z (by omega)
theorem red_k : ∀ (n : Nat) (z : Nm), 0 ≤ z.k → 0 ≤ (red n z).k ∧ (red n z).k ≤ z.k
  | 0, z, h => ⟨h, Int.le_refl _⟩
  | n + 1, z, h => by
    simp only [red]
    split
    · next hc => have := red_k n z.step (by simp only [Nm.step]; omega); simp only [Nm.step] at this ⊢; omega
    · exact ⟨h, Int.le_refl _⟩
theorem nf_k {z : Nm} (h : 0 ≤ z.k) : 0 ≤ z.nf.k ∧ z.nf.k ≤ z.k := red_k _ z h
theorem red_stop {n : Nat} {z : Nm} (h : z.Nf) : red n z = z := by
  cases n with
  | zero => rfl
  | succ n => simp only [red]; rw [if_neg]; rintro ⟨h1, h2⟩; rcases h with h | h; omega; exact h h2
theorem nf_self {z : Nm} (h : z.Nf) : z.nf = z := red_stop h
/-- Forms of one value with exponents of at least 0 are one. -/
theorem form_unique {x y : Nm} (hx : x.Nf) (hy : y.Nf) (h0 : 0 ≤ x.k) (h1 : 0 ≤ y.k) (h : Eqv x y) : x = y := by
  obtain ⟨i, j, h⟩ := h
  have key : ∀ {x y : Nm} {i n : Nat}, x.Nf → 0 ≤ y.k → Nm.up i x = Nm.up (n + 1 + i) y → False := by
    intro x y i n hx hy h
    have e : x = (Nm.up n y).tr := by
      refine Nm.up_inj i ?_
      rw [h, ← Nm.up_tr, Nm.up_add, show n + 1 + i = (n + i) + 1 by omega]
      rfl
    have hk : x.k = y.k + n + 1 := by rw [e]; show (Nm.up n y).k + 1 = _; rw [Nm.up_k]
    rcases hx with hx | hx
    · omega
    · exact hx (by rw [e]; exact Nm.even_tr _)
  rcases Nat.lt_trichotomy i j with hlt | rfl | hlt
  · exact (key (n := j - i - 1) hx h1 (by rw [h]; congr 1; omega)).elim
  · exact Nm.up_inj i h
  · exact (key (n := i - j - 1) hy h0 (by rw [← h]; congr 1; omega)).elim
theorem nf_eq {x y : Nm} (h0 : 0 ≤ x.k) (h1 : 0 ≤ y.k) (h : Eqv x y) : x.nf = y.nf :=
  form_unique (nf_form x) (nf_form y) (nf_k h0).1 (nf_k h1).1 ((nf_eqv x).trans (h.trans (nf_eqv y).symm))
theorem mk_ok {z v : Nm} (h0 : 0 ≤ z.k) (h : z.mk' = .ok v) : v.Ok ∧ v = z.nf ∧ Eqv v z := by
  unfold Nm.mk' at h
  split at h
  · next hs =>
    injection h with h
    subst h
    obtain ⟨s1, s2⟩ := small_iff.1 hs
    have := nf_k h0
    exact ⟨⟨s2, this.1, s1, (nf_form z).imp (by omega) id⟩, rfl, nf_eqv z⟩
  · cases h
theorem mk_err {z : Nm} {c : Int} (h : z.mk' = .error c) : c = 4 := by
  unfold Nm.mk' at h
  split at h
  · cases h
  · injection h with h; exact h.symm
theorem Nm.step_fit {n : Int} {z : Nm} (h : z.Fit n) : z.step.Fit n := by
  obtain ⟨h1, h2, h3, h4, h5, h6, h7, h8⟩ := h
  exact ⟨by simp only [Nm.step]; omega, by simp only [Nm.step]; omega, by simp only [Nm.step]; omega, by simp only [Nm.step]; omega, by simp only [Nm.step]; omega, by simp only [Nm.step]; omega, by simp only [Nm.step]; omega, by simp only [Nm.step]; omega⟩
theorem nf_step {z : Nm} (h : 0 < z.k) (he : z.even) : z.nf = z.step.nf := by
  obtain ⟨n, hn⟩ : ∃ n, z.k.toNat = n + 1 := ⟨z.k.toNat - 1, by omega⟩
  unfold Nm.nf
  have : z.step.k.toNat = n := by simp only [Nm.step]; omega
  rw [this, hn]
  simp only [red]
  rw [if_pos ⟨h, he⟩]
theorem nf_stop {z : Nm} (h : ¬ (0 < z.k ∧ z.even)) : z.nf = z := nf_self (by
  by_cases h0 : 0 < z.k
  · exact .inr fun he => h ⟨h0, he⟩
  · exact .inl (by omega))

/-- Sums, products. -/
def Nm.addR (x y : Nm) : Nm :=
  let u := x.to (max x.k y.k)
  let v := y.to (max x.k y.k)
  ⟨u.a + v.a, u.b + v.b, u.c + v.c, u.d + v.d, max x.k y.k⟩
def Nm.mulR (x y : Nm) : Nm :=
  ⟨x.a * y.a - x.b * y.d - x.c * y.c - x.d * y.b, x.a * y.b + x.b * y.a - x.c * y.d - x.d * y.c, x.a * y.c + x.b * y.b + x.c * y.a - x.d * y.d, x.a * y.d + x.b * y.c + x.c * y.b + x.d * y.a, x.k + y.k⟩
def Nm.add (x y : Nm) : NR := (x.addR y).mk'
def Nm.mul (x y : Nm) : NR := (x.mulR y).mk'
def Nm.sub (x y : Nm) : NR := (x.addR y.neg).mk'
def Nm.halve (x : Nm) (n : Int) : NR := (⟨x.a, x.b, x.c, x.d, x.k + n⟩ : Nm).mk'
theorem zero_ok : Nm.zero.Ok := okB_iff.1 (by decide)
theorem one_ok : Nm.one.Ok := okB_iff.1 (by decide)
theorem conj_ok {z : Nm} (h : z.Ok) : z.conj.Ok := by
  obtain ⟨⟨h1, h2, h3, h4, h5, h6, h7, h8⟩, h9, h10, h11⟩ := h
  refine ⟨⟨h1, h2, ?_, ?_, ?_, ?_, ?_, ?_⟩, h9, h10, h11.imp id fun hn he => hn ⟨?_, ?_⟩⟩ <;> simp only [Nm.conj, Nm.even] at * <;> omega
theorem rot_ok {z : Nm} (h : z.Ok) : z.rot.Ok := by
  obtain ⟨⟨h1, h2, h3, h4, h5, h6, h7, h8⟩, h9, h10, h11⟩ := h
  refine ⟨⟨?_, ?_, h1, h2, h3, h4, h5, h6⟩, h9, h10, h11.imp id fun hn he => hn ⟨?_, ?_⟩⟩ <;> simp only [Nm.rot, Nm.even] at * <;> omega
theorem addR_k {x y : Nm} (hx : 0 ≤ x.k) : 0 ≤ (x.addR y).k := by simp only [Nm.addR]; omega
theorem mulR_k {x y : Nm} (hx : 0 ≤ x.k) (hy : 0 ≤ y.k) : 0 ≤ (x.mulR y).k := by simp only [Nm.mulR]; omega

/-- Sizes: raising by n at most doubles by steps of 2. -/
theorem Nm.fit_mono {m n : Int} {z : Nm} (h : z.Fit m) (hmn : m ≤ n) : z.Fit n := by
  obtain ⟨h1, h2, h3, h4, h5, h6, h7, h8⟩ := h
  exact ⟨by omega, by omega, by omega, by omega, by omega, by omega, by omega, by omega⟩
theorem Nm.tr_fit {n : Int} {z : Nm} (h : z.Fit n) : z.tr.Fit (2 * n) := by
  obtain ⟨h1, h2, h3, h4, h5, h6, h7, h8⟩ := h
  exact ⟨by simp only [Nm.tr]; omega, by simp only [Nm.tr]; omega, by simp only [Nm.tr]; omega, by simp only [Nm.tr]; omega, by simp only [Nm.tr]; omega, by simp only [Nm.tr]; omega, by simp only [Nm.tr]; omega, by simp only [Nm.tr]; omega⟩
theorem Nm.tr2 (z : Nm) : z.tr.tr = ⟨2 * z.a, 2 * z.b, 2 * z.c, 2 * z.d, z.k + 2⟩ := by
  simp only [Nm.tr]
  congr 1 <;> omega
theorem Nm.tr2_fit {n : Int} {z : Nm} (h : z.Fit n) : z.tr.tr.Fit (2 * n) := by
  rw [Nm.tr2]
  obtain ⟨h1, h2, h3, h4, h5, h6, h7, h8⟩ := h
  exact ⟨by dsimp only; omega, by dsimp only; omega, by dsimp only; omega, by dsimp only; omega, by dsimp only; omega, by dsimp only; omega, by dsimp only; omega, by dsimp only; omega⟩
theorem Nm.up_fit : ∀ (m : Nat) {n : Int} {z : Nm}, z.Fit n → (Nm.up (2 * m) z).Fit (2 ^ m * n) ∧ (Nm.up (2 * m + 1) z).Fit (2 ^ (m + 1) * n)
  | 0, n, z, h => ⟨by simpa [Nm.up] using h, by simpa [Nm.up] using Nm.tr_fit h⟩
  | m + 1, n, z, h => by
    obtain ⟨h1, h2⟩ := Nm.up_fit m (Nm.tr2_fit h)
    refine ⟨?_, ?_⟩
    · rw [show 2 ^ (m + 1) * n = 2 ^ m * (2 * n) by rw [Int.pow_succ]; grind]
      exact h1
    · rw [show 2 ^ (m + 1 + 1) * n = 2 ^ (m + 1) * (2 * n) by rw [Int.pow_succ]; grind]
      exact h2
theorem pow2_le {m : Nat} (h : m ≤ 20) : (2 : Int) ^ m ≤ 1048576 := by
  have : m = 0 ∨ m = 1 ∨ m = 2 ∨ m = 3 ∨ m = 4 ∨ m = 5 ∨ m = 6 ∨ m = 7 ∨ m = 8 ∨ m = 9 ∨ m = 10 ∨ m = 11 ∨ m = 12 ∨ m = 13 ∨ m = 14 ∨ m = 15 ∨ m = 16 ∨ m = 17 ∨ m = 18 ∨ m = 19 ∨ m = 20 := by omega
  rcases this with rfl | rfl | rfl | rfl | rfl | rfl | rfl | rfl | rfl | rfl | rfl | rfl | rfl | rfl | rfl | rfl | rfl | rfl | rfl | rfl | rfl <;> decide
theorem Nm.up2_fit {m : Nat} {z : Nm} (h : z.Fit 1000000000) (hm : m ≤ 20) : (Nm.up (2 * m) z).Fit 1048576000000000 :=
  Nm.fit_mono (Nm.up_fit m h).1 (by have := pow2_le hm; omega)
theorem Nm.up40_fit {n : Nat} {z : Nm} (h : z.Fit 1000000000) (hn : n ≤ 40) : (Nm.up n z).Fit 1048576000000000 := by
  rcases (⟨n / 2, by omega⟩ : ∃ m, n = 2 * m ∧ m ≤ 20 ∨ n = 2 * m + 1 ∧ m ≤ 19) with ⟨m, ⟨rfl, hm⟩ | ⟨rfl, hm⟩⟩
  · exact Nm.up2_fit h hm
  · exact Nm.fit_mono (Nm.up_fit m h).2 (by have := pow2_le (m := m + 1) (by omega); omega)
theorem Nm.up_succ2 (m : Nat) (z : Nm) : Nm.up (2 * (m + 1)) z = ⟨(Nm.up (2 * m) z).a * 2, (Nm.up (2 * m) z).b * 2, (Nm.up (2 * m) z).c * 2, (Nm.up (2 * m) z).d * 2, (Nm.up (2 * m) z).k + 2⟩ := by
  rw [show 2 * (m + 1) = 2 * m + 1 + 1 by omega, Nm.up, Nm.up, Nm.up_tr, Nm.up_tr, Nm.tr2]
  congr 1 <;> omega
theorem Nm.up_succ1 (m : Nat) (z : Nm) : Nm.up (m + 1) z = (Nm.up m z).tr := by rw [Nm.up, Nm.up_tr]
theorem addR_ge {x y : Nm} (h : y.k ≤ x.k) : x.addR y = ⟨(y.to x.k).a + x.a, (y.to x.k).b + x.b, (y.to x.k).c + x.c, (y.to x.k).d + x.d, x.k⟩ := by
  have e : max x.k y.k = x.k := by omega
  have e2 : x.to x.k = x := by unfold Nm.to; rw [Int.sub_self]; rfl
  unfold Nm.addR
  dsimp only
  rw [e, e2]
  congr 1 <;> omega
theorem addR_lt {x y : Nm} (h : x.k < y.k) : x.addR y = ⟨(x.to y.k).a + y.a, (x.to y.k).b + y.b, (x.to y.k).c + y.c, (x.to y.k).d + y.d, y.k⟩ := by
  have e : max x.k y.k = y.k := by omega
  have e2 : y.to y.k = y := by unfold Nm.to; rw [Int.sub_self]; rfl
  unfold Nm.addR
  dsimp only
  rw [e, e2]
theorem addR_fit {x y : Nm} (hx : x.Ok) (hy : y.Ok) : (x.addR y).Fit 4611686018427387903 := by
  have h1 := Nm.up40_fit (n := (max x.k y.k - x.k).toNat) hx.fit (by have := hx.k0; have := hx.k1; have := hy.k1; omega)
  have h2 := Nm.up40_fit (n := (max x.k y.k - y.k).toNat) hy.fit (by have := hy.k0; have := hx.k1; have := hy.k1; omega)
  obtain ⟨a1, a2, a3, a4, a5, a6, a7, a8⟩ := h1
  obtain ⟨b1, b2, b3, b4, b5, b6, b7, b8⟩ := h2
  unfold Nm.addR Nm.to
  exact ⟨by dsimp only; omega, by dsimp only; omega, by dsimp only; omega, by dsimp only; omega, by dsimp only; omega, by dsimp only; omega, by dsimp only; omega, by dsimp only; omega⟩
theorem mul_le {a b : Int} (h1 : -1000000000 ≤ a) (h2 : a ≤ 1000000000) (h3 : -1000000000 ≤ b) (h4 : b ≤ 1000000000) : -1000000000000000000 ≤ a * b ∧ a * b ≤ 1000000000000000000 := by
  rcases Int.le_total 0 a with ha | ha
  · have e1 := Int.mul_le_mul_of_nonneg_left h3 ha
    have e2 := Int.mul_le_mul_of_nonneg_left h4 ha
    omega
  · have e1 := Int.mul_le_mul_of_nonneg_left h3 (c := -a) (by omega)
    have e2 := Int.mul_le_mul_of_nonneg_left h4 (c := -a) (by omega)
    rw [Int.neg_mul, Int.neg_mul] at e1 e2
    omega
structure Prods (x y : Nm) : Prop where
  aa : -1000000000000000000 ≤ x.a * y.a ∧ x.a * y.a ≤ 1000000000000000000
  ab : -1000000000000000000 ≤ x.a * y.b ∧ x.a * y.b ≤ 1000000000000000000
  ac : -1000000000000000000 ≤ x.a * y.c ∧ x.a * y.c ≤ 1000000000000000000
  ad : -1000000000000000000 ≤ x.a * y.d ∧ x.a * y.d ≤ 1000000000000000000
  ba : -1000000000000000000 ≤ x.b * y.a ∧ x.b * y.a ≤ 1000000000000000000
  bb : -1000000000000000000 ≤ x.b * y.b ∧ x.b * y.b ≤ 1000000000000000000
  bc : -1000000000000000000 ≤ x.b * y.c ∧ x.b * y.c ≤ 1000000000000000000
  bd : -1000000000000000000 ≤ x.b * y.d ∧ x.b * y.d ≤ 1000000000000000000
  ca : -1000000000000000000 ≤ x.c * y.a ∧ x.c * y.a ≤ 1000000000000000000
  cb : -1000000000000000000 ≤ x.c * y.b ∧ x.c * y.b ≤ 1000000000000000000
  cc : -1000000000000000000 ≤ x.c * y.c ∧ x.c * y.c ≤ 1000000000000000000
  cd : -1000000000000000000 ≤ x.c * y.d ∧ x.c * y.d ≤ 1000000000000000000
  da : -1000000000000000000 ≤ x.d * y.a ∧ x.d * y.a ≤ 1000000000000000000
  db : -1000000000000000000 ≤ x.d * y.b ∧ x.d * y.b ≤ 1000000000000000000
  dc : -1000000000000000000 ≤ x.d * y.c ∧ x.d * y.c ≤ 1000000000000000000
  dd : -1000000000000000000 ≤ x.d * y.d ∧ x.d * y.d ≤ 1000000000000000000
theorem prods {x y : Nm} (hx : x.Fit 1000000000) (hy : y.Fit 1000000000) : Prods x y := by
  obtain ⟨a1, a2, a3, a4, a5, a6, a7, a8⟩ := hx
  obtain ⟨b1, b2, b3, b4, b5, b6, b7, b8⟩ := hy
  exact ⟨mul_le a1 a2 b1 b2, mul_le a1 a2 b3 b4, mul_le a1 a2 b5 b6, mul_le a1 a2 b7 b8, mul_le a3 a4 b1 b2, mul_le a3 a4 b3 b4, mul_le a3 a4 b5 b6, mul_le a3 a4 b7 b8,
    mul_le a5 a6 b1 b2, mul_le a5 a6 b3 b4, mul_le a5 a6 b5 b6, mul_le a5 a6 b7 b8, mul_le a7 a8 b1 b2, mul_le a7 a8 b3 b4, mul_le a7 a8 b5 b6, mul_le a7 a8 b7 b8⟩
theorem mulR_fit {x y : Nm} (hx : x.Fit 1000000000) (hy : y.Fit 1000000000) : (x.mulR y).Fit 4611686018427387903 := by
  obtain ⟨aa, ab, ac, ad, ba, bb, bc, bd, ca, cb, cc, cd, da, db, dc, dd⟩ := prods hx hy
  unfold Nm.mulR
  exact ⟨by dsimp only; omega, by dsimp only; omega, by dsimp only; omega, by dsimp only; omega, by dsimp only; omega, by dsimp only; omega, by dsimp only; omega, by dsimp only; omega⟩
theorem nf_self_iff {z : Nm} (h : 0 ≤ z.k) : z.nf = z ↔ (z.k = 0 ∨ ¬ z.even) := by
  constructor
  · intro e
    have := nf_form z
    rw [e] at this
    exact this.imp (by omega) id
  · intro hh
    exact nf_self (hh.imp (by omega) id)
end Go.Proofs.Ytccbinnlnkpplaa
namespace Go.Proofs.Ytccbinnlnkpplaa
set_option linter.all false

/-- a + b w + c w^2 + d w^3. -/
structure Q4 where
  a : Rat
  b : Rat
  c : Rat
  d : Rat
namespace Q4
theorem ext' {x y : Q4} (h1 : x.a = y.a) (h2 : x.b = y.b) (h3 : x.c = y.c) (h4 : x.d = y.d) : x = y := by cases x; cases y; simp_all
def zero : Q4 := ⟨0, 0, 0, 0⟩
def one : Q4 := ⟨1, 0, 0, 0⟩
def add (x y : Q4) : Q4 := ⟨x.a + y.a, x.b + y.b, x.c + y.c, x.d + y.d⟩
def neg (x : Q4) : Q4 := ⟨-x.a, -x.b, -x.c, -x.d⟩
def mul (x y : Q4) : Q4 := ⟨x.a * y.a - x.b * y.d - x.c * y.c - x.d * y.b, x.a * y.b + x.b * y.a - x.c * y.d - x.d * y.c, x.a * y.c + x.b * y.b + x.c * y.a - x.d * y.d, x.a * y.d + x.b * y.c + x.c * y.b + x.d * y.a⟩
def conj (x : Q4) : Q4 := ⟨x.a, -x.d, -x.c, -x.b⟩
instance : Zero Q4 := ⟨zero⟩
instance : One Q4 := ⟨one⟩
instance : Add Q4 := ⟨add⟩
instance : Mul Q4 := ⟨mul⟩
instance : Neg Q4 := ⟨neg⟩
instance : Sub Q4 := ⟨fun x y => add x (neg y)⟩
theorem za : (0 : Q4).a = 0 := rfl
theorem zb : (0 : Q4).b = 0 := rfl
theorem zc : (0 : Q4).c = 0 := rfl
theorem zd : (0 : Q4).d = 0 := rfl
theorem oa : (1 : Q4).a = 1 := rfl
theorem ob : (1 : Q4).b = 0 := rfl
theorem oc : (1 : Q4).c = 0 := rfl
theorem od : (1 : Q4).d = 0 := rfl
variable (x y z : Q4)
theorem aa : (x + y).a = x.a + y.a := rfl
theorem ab : (x + y).b = x.b + y.b := rfl
theorem ac : (x + y).c = x.c + y.c := rfl
theorem ad : (x + y).d = x.d + y.d := rfl
theorem na : (-x).a = -x.a := rfl
theorem nb : (-x).b = -x.b := rfl
theorem nc : (-x).c = -x.c := rfl
theorem nd : (-x).d = -x.d := rfl
theorem sa : (x - y).a = x.a + -y.a := rfl
theorem sb : (x - y).b = x.b + -y.b := rfl
theorem sc : (x - y).c = x.c + -y.c := rfl
theorem sd : (x - y).d = x.d + -y.d := rfl
theorem ma : (x * y).a = x.a * y.a - x.b * y.d - x.c * y.c - x.d * y.b := rfl
theorem mb : (x * y).b = x.a * y.b + x.b * y.a - x.c * y.d - x.d * y.c := rfl
theorem mc : (x * y).c = x.a * y.c + x.b * y.b + x.c * y.a - x.d * y.d := rfl
theorem md : (x * y).d = x.a * y.d + x.b * y.c + x.c * y.b + x.d * y.a := rfl
theorem ca : (conj x).a = x.a := rfl
theorem cb : (conj x).b = -x.d := rfl
theorem cc : (conj x).c = -x.c := rfl
theorem cd : (conj x).d = -x.b := rfl
theorem add_comm : x + y = y + x := by apply ext' <;> simp only [aa, ab, ac, ad] <;> grind
theorem add_assoc : x + y + z = x + (y + z) := by apply ext' <;> simp only [aa, ab, ac, ad] <;> grind
theorem add_zero : x + 0 = x := by apply ext' <;> simp only [aa, ab, ac, ad, za, zb, zc, zd] <;> grind
theorem zero_add : 0 + x = x := by rw [add_comm, add_zero]
theorem add_neg : x + -x = 0 := by apply ext' <;> simp only [aa, ab, ac, ad, na, nb, nc, nd, za, zb, zc, zd] <;> grind
theorem sub_def : x - y = x + -y := rfl
theorem mul_comm : x * y = y * x := by apply ext' <;> simp only [ma, mb, mc, md] <;> grind
theorem mul_assoc : x * y * z = x * (y * z) := by apply ext' <;> simp only [ma, mb, mc, md] <;> grind
theorem mul_one : x * 1 = x := by apply ext' <;> simp only [ma, mb, mc, md, oa, ob, oc, od] <;> grind
theorem one_mul : 1 * x = x := by rw [mul_comm, mul_one]
theorem mul_zero : x * 0 = 0 := by apply ext' <;> simp only [ma, mb, mc, md, za, zb, zc, zd] <;> grind
theorem zero_mul : 0 * x = 0 := by rw [mul_comm, mul_zero]
theorem mul_add : x * (y + z) = x * y + x * z := by apply ext' <;> simp only [ma, mb, mc, md, aa, ab, ac, ad] <;> grind
theorem add_mul : (x + y) * z = x * z + y * z := by rw [mul_comm, mul_add, mul_comm z x, mul_comm z y]
theorem mul_neg : x * -y = -(x * y) := by apply ext' <;> simp only [ma, mb, mc, md, na, nb, nc, nd] <;> grind
theorem neg_mul : -x * y = -(x * y) := by rw [mul_comm, mul_neg, mul_comm]
theorem neg_add : -(x + y) = -x + -y := by apply ext' <;> simp only [aa, ab, ac, ad, na, nb, nc, nd] <;> grind
theorem neg_zero : -(0 : Q4) = 0 := by apply ext' <;> rfl
theorem conj_add : conj (x + y) = conj x + conj y := by apply ext' <;> simp only [aa, ab, ac, ad, ca, cb, cc, cd] <;> grind
theorem conj_mul : conj (x * y) = conj x * conj y := by apply ext' <;> simp only [ma, mb, mc, md, ca, cb, cc, cd] <;> grind
theorem conj_neg : conj (-x) = -conj x := by apply ext' <;> simp only [na, nb, nc, nd, ca, cb, cc, cd]
theorem conj_conj : conj (conj x) = x := by apply ext' <;> simp only [ca, cb, cc, cd] <;> grind
theorem conj_zero : conj 0 = 0 := by apply ext' <;> rfl
theorem conj_one : conj 1 = 1 := by apply ext' <;> rfl
theorem sub_zero_eq {x y : Q4} (h : x - y = 0) : x = y := by
  have e : x - y + y = x := by apply ext' <;> simp only [aa, ab, ac, ad, sa, sb, sc, sd] <;> grind
  rw [← e, h, zero_add]
theorem sub_self : x - x = 0 := add_neg x
theorem norm_a : (x * conj x).a = x.a * x.a + x.b * x.b + x.c * x.c + x.d * x.d := by simp only [ma, ca, cb, cc, cd]; grind
theorem sq0 (r : Rat) : 0 ≤ r * r := by
  rcases Rat.le_total (a:=0) (b:=r) with h | h
  · exact Rat.mul_nonneg h h
  · have := Rat.mul_nonneg (a := -r) (b := -r) (by grind) (by grind)
    grind
theorem norm_nonneg : 0 ≤ (x * conj x).a := by
  rw [norm_a]
  have := sq0 x.a; have := sq0 x.b; have := sq0 x.c; have := sq0 x.d
  grind
theorem norm_zero {x : Q4} (h : (x * conj x).a = 0) : x = 0 := by
  rw [norm_a] at h
  have h1 := sq0 x.a; have h2 := sq0 x.b; have h3 := sq0 x.c; have h4 := sq0 x.d
  have z : ∀ r : Rat, r * r = 0 → r = 0 := fun r h => by grind
  exact ext' (z _ (by grind)) (z _ (by grind)) (z _ (by grind)) (z _ (by grind))

/-- Divided by r. -/
def dh (x : Q4) : Q4 := ⟨(x.b - x.d) / 2, (x.a + x.c) / 2, (x.b + x.d) / 2, (x.c - x.a) / 2⟩
def dn : Nat → Q4 → Q4
  | 0, x => x
  | n + 1, x => dn n (dh x)
theorem dh_inj {x y : Q4} (h : dh x = dh y) : x = y := by
  have h1 : (dh x).a = (dh y).a := by rw [h]
  have h2 : (dh x).b = (dh y).b := by rw [h]
  have h3 : (dh x).c = (dh y).c := by rw [h]
  have h4 : (dh x).d = (dh y).d := by rw [h]
  simp only [dh] at h1 h2 h3 h4
  apply ext' <;> grind
theorem dn_inj : ∀ (n : Nat) {x y : Q4}, dn n x = dn n y → x = y
  | 0, _, _, h => h
  | n + 1, _, _, h => dh_inj (dn_inj n h)
theorem dh_add : dh (x + y) = dh x + dh y := by apply ext' <;> simp only [dh, aa, ab, ac, ad] <;> grind
theorem dn_add : ∀ (n : Nat) (x y : Q4), dn n (x + y) = dn n x + dn n y
  | 0, _, _ => rfl
  | n + 1, x, y => by simp only [dn]; rw [dh_add, dn_add n]
theorem dh_mul : dh (x * y) = dh x * y := by apply ext' <;> simp only [dh, ma, mb, mc, md] <;> grind
theorem dn_mul : ∀ (n : Nat) (x y : Q4), dn n (x * y) = dn n x * y
  | 0, _, _ => rfl
  | n + 1, x, y => by simp only [dn]; rw [dh_mul, dn_mul n]
theorem dn_dn : ∀ (m n : Nat) (x : Q4), dn m (dn n x) = dn (n + m) x
  | m, 0, x => by rw [Nat.zero_add]; rfl
  | m, n + 1, x => by
    rw [show n + 1 + m = (n + m) + 1 by omega]
    exact dn_dn m n (dh x)
theorem dn_mul2 (m n : Nat) (x y : Q4) : dn (m + n) (x * y) = dn m x * dn n y := by
  rw [← dn_dn, dn_mul, mul_comm, dn_mul, mul_comm]
theorem dh_conj : dh (conj x) = conj (dh x) := by apply ext' <;> simp only [dh, ca, cb, cc, cd] <;> grind
theorem dn_conj : ∀ (n : Nat) (x : Q4), dn n (conj x) = conj (dn n x)
  | 0, _ => rfl
  | n + 1, x => by simp only [dn]; rw [dh_conj, dn_conj n]
theorem dh_neg : dh (-x) = -dh x := by apply ext' <;> simp only [dh, na, nb, nc, nd] <;> grind
theorem dn_neg : ∀ (n : Nat) (x : Q4), dn n (-x) = -dn n x
  | 0, _ => rfl
  | n + 1, x => by simp only [dn]; rw [dh_neg, dn_neg n]
end Q4
def Nm.co (z : Nm) : Q4 := ⟨(z.a : Rat), (z.b : Rat), (z.c : Rat), (z.d : Rat)⟩
/-- The value of a number. -/
def Nm.val (z : Nm) : Q4 := Q4.dn z.k.toNat z.co
theorem co_tr (z : Nm) : Q4.dh z.tr.co = z.co := by
  apply Q4.ext' <;> simp only [Q4.dh, Nm.co, Nm.tr, Rat.intCast_add, Rat.intCast_sub] <;> grind
theorem val_tr {z : Nm} (h : 0 ≤ z.k) : z.tr.val = z.val := by
  unfold Nm.val
  have : z.tr.k.toNat = z.k.toNat + 1 := by simp only [Nm.tr]; omega
  rw [this]
  show Q4.dn z.k.toNat (Q4.dh z.tr.co) = _
  rw [co_tr]
theorem val_up : ∀ (n : Nat) {z : Nm}, 0 ≤ z.k → (Nm.up n z).val = z.val
  | 0, _, _ => rfl
  | n + 1, z, h => by
    have := val_up n (z := z.tr) (by simp only [Nm.tr]; omega)
    show (Nm.up n z.tr).val = _
    rw [this, val_tr h]
theorem val_eqv {x y : Nm} (hx : 0 ≤ x.k) (hy : 0 ≤ y.k) (h : Eqv x y) : x.val = y.val := by
  obtain ⟨i, j, h⟩ := h
  rw [← val_up i hx, h, val_up j hy]
theorem co_inj {x y : Nm} (hk : x.k = y.k) (h : x.co = y.co) : x = y := by
  have h1 : (x.a : Rat) = y.a := by show x.co.a = y.co.a; rw [h]
  have h2 : (x.b : Rat) = y.b := by show x.co.b = y.co.b; rw [h]
  have h3 : (x.c : Rat) = y.c := by show x.co.c = y.co.c; rw [h]
  have h4 : (x.d : Rat) = y.d := by show x.co.d = y.co.d; rw [h]
  obtain ⟨a, b, c, d, k⟩ := x
  obtain ⟨a', b', c', d', k'⟩ := y
  dsimp only at *
  rw [Rat.intCast_inj.1 h1, Rat.intCast_inj.1 h2, Rat.intCast_inj.1 h3, Rat.intCast_inj.1 h4, hk]
theorem eqv_val {x y : Nm} (hx : 0 ≤ x.k) (hy : 0 ≤ y.k) (h : x.val = y.val) : Eqv x y := by
  refine ⟨(y.k).toNat, (x.k).toNat, ?_⟩
  have hk : (Nm.up (y.k).toNat x).k = (Nm.up (x.k).toNat y).k := by rw [Nm.up_k, Nm.up_k]; omega
  refine co_inj hk ?_
  have h1 := val_up (y.k).toNat hx
  have h2 := val_up (x.k).toNat hy
  rw [h, ← h2] at h1
  unfold Nm.val at h1
  rw [hk] at h1
  exact Q4.dn_inj _ h1
theorem val_ok {x y : Nm} (hx : x.Ok) (hy : y.Ok) (h : x.val = y.val) : x = y := form_unique hx.nf hy.nf hx.k0 hy.k0 (eqv_val hx.k0 hy.k0 h)
theorem to_up {x : Nm} {m : Int} (h : 0 ≤ x.k) : (x.to m).val = x.val := val_up _ h
theorem val_addR {x y : Nm} (hx : 0 ≤ x.k) (hy : 0 ≤ y.k) : (x.addR y).val = x.val + y.val := by
  have h1 := to_up (x := x) (m := max x.k y.k) hx
  have h2 := to_up (x := y) (m := max x.k y.k) hy
  have k1 := Nm.to_k (z := x) (m := max x.k y.k) (by omega)
  have k2 := Nm.to_k (z := y) (m := max x.k y.k) (by omega)
  rw [← h1, ← h2]
  unfold Nm.val
  rw [k1, k2, ← Q4.dn_add]
  unfold Nm.addR
  dsimp only
  congr 1
  apply Q4.ext' <;> simp only [Nm.co, Q4.aa, Q4.ab, Q4.ac, Q4.ad, Rat.intCast_add]
theorem val_mulR {x y : Nm} (hx : 0 ≤ x.k) (hy : 0 ≤ y.k) : (x.mulR y).val = x.val * y.val := by
  unfold Nm.val
  have : (x.mulR y).k.toNat = x.k.toNat + y.k.toNat := by simp only [Nm.mulR]; omega
  rw [this, ← Q4.dn_mul2]
  congr 1
  apply Q4.ext' <;> simp only [Nm.co, Nm.mulR, Q4.ma, Q4.mb, Q4.mc, Q4.md, Rat.intCast_add, Rat.intCast_sub, Rat.intCast_mul]
theorem val_conj (x : Nm) : x.conj.val = Q4.conj x.val := by
  have e : x.conj.co = Q4.conj x.co := by apply Q4.ext' <;> simp only [Nm.co, Nm.conj, Q4.ca, Q4.cb, Q4.cc, Q4.cd, Rat.intCast_neg]
  unfold Nm.val
  rw [← Q4.dn_conj, e]
  rfl
theorem val_neg (x : Nm) : x.neg.val = -x.val := by
  have e : x.neg.co = -x.co := by apply Q4.ext' <;> simp only [Nm.co, Nm.neg, Q4.na, Q4.nb, Q4.nc, Q4.nd, Rat.intCast_neg]
  unfold Nm.val
  rw [← Q4.dn_neg, e]
  rfl
theorem val_zero : Nm.zero.val = 0 := rfl
theorem val_one : Nm.one.val = 1 := rfl

/-- A sum. -/
def sumQ : Nat → (Nat → Q4) → Q4
  | 0, _ => 0
  | n + 1, f => sumQ n f + f n
theorem sumQ_congr : ∀ {n : Nat} {f g : Nat → Q4}, (∀ i, i < n → f i = g i) → sumQ n f = sumQ n g
  | 0, _, _, _ => rfl
  | n + 1, f, g, h => by simp only [sumQ]; rw [sumQ_congr fun i hi => h i (by omega), h n (by omega)]
theorem sumQ_add (n : Nat) (f g : Nat → Q4) : sumQ n (fun i => f i + g i) = sumQ n f + sumQ n g := by
  induction n with
  | zero => exact (Q4.add_zero 0).symm
  | succ n ih => simp only [sumQ]; rw [ih, Q4.add_assoc, Q4.add_assoc, ← Q4.add_assoc (sumQ n g), Q4.add_comm (sumQ n g) (f n), Q4.add_assoc]
theorem sumQ_zero (n : Nat) : sumQ n (fun _ => 0) = 0 := by
  induction n with
  | zero => rfl
  | succ n ih => simp only [sumQ]; rw [ih, Q4.add_zero]
theorem sumQ_neg (n : Nat) (f : Nat → Q4) : sumQ n (fun i => -f i) = -sumQ n f := by
  induction n with
  | zero => exact Q4.neg_zero.symm
  | succ n ih => simp only [sumQ]; rw [ih, Q4.neg_add]
theorem sumQ_mul (n : Nat) (x : Q4) (f : Nat → Q4) : sumQ n (fun i => x * f i) = x * sumQ n f := by
  induction n with
  | zero => exact (Q4.mul_zero x).symm
  | succ n ih => simp only [sumQ]; rw [ih, Q4.mul_add]
theorem sumQ_mulr (n : Nat) (x : Q4) (f : Nat → Q4) : sumQ n (fun i => f i * x) = sumQ n f * x := by
  rw [Q4.mul_comm, ← sumQ_mul]
  exact sumQ_congr fun i _ => Q4.mul_comm _ _
theorem sumQ_conj (n : Nat) (f : Nat → Q4) : Q4.conj (sumQ n f) = sumQ n fun i => Q4.conj (f i) := by
  induction n with
  | zero => exact Q4.conj_zero
  | succ n ih => simp only [sumQ]; rw [Q4.conj_add, ih]
theorem sumQ_swap (m n : Nat) (f : Nat → Nat → Q4) : sumQ m (fun i => sumQ n (fun j => f i j)) = sumQ n (fun j => sumQ m (fun i => f i j)) := by
  induction m with
  | zero => exact (sumQ_zero n).symm
  | succ m ih => simp only [sumQ]; rw [ih, ← sumQ_add]
def dl (i j : Nat) : Q4 := if i = j then 1 else 0
theorem sumQ_dl {n j : Nat} (f : Nat → Q4) (h : j < n) : sumQ n (fun i => dl j i * f i) = f j := by
  induction n with
  | zero => omega
  | succ n ih =>
    simp only [sumQ]
    by_cases e : j = n
    · subst e
      have : sumQ j (fun i => dl j i * f i) = sumQ j (fun _ => 0) := sumQ_congr fun i hi => by unfold dl; rw [if_neg (by omega), Q4.zero_mul]
      rw [this, sumQ_zero, Q4.zero_add]
      unfold dl
      rw [if_pos rfl, Q4.one_mul]
    · rw [ih (by omega)]
      unfold dl
      rw [if_neg e, Q4.zero_mul, Q4.add_zero]
theorem dl_comm (i j : Nat) : dl i j = dl j i := by unfold dl; split <;> split <;> simp_all
theorem dl_conj (i j : Nat) : Q4.conj (dl i j) = dl i j := by unfold dl; split; exact Q4.conj_one; exact Q4.conj_zero
theorem sumQ_dlr {n j : Nat} (f : Nat → Q4) (h : j < n) : sumQ n (fun i => f i * dl i j) = f j := by
  rw [← sumQ_dl f h]
  exact sumQ_congr fun i _ => by rw [Q4.mul_comm, dl_comm]
theorem sumQ_a_nonneg : ∀ {n : Nat} {f : Nat → Q4}, (∀ i, i < n → 0 ≤ (f i).a) → 0 ≤ (sumQ n f).a
  | 0, _, _ => by show (0 : Rat) ≤ 0; grind
  | n + 1, f, h => by
    simp only [sumQ, Q4.aa]
    have := sumQ_a_nonneg (n := n) fun i hi => h i (by omega)
    have := h n (by omega)
    grind
theorem sumQ_a_zero : ∀ {n : Nat} {f : Nat → Q4}, (∀ i, i < n → 0 ≤ (f i).a) → (sumQ n f).a = 0 → ∀ i, i < n → (f i).a = 0
  | 0, _, _, _, i, hi => by omega
  | n + 1, f, h, h0, i, hi => by
    simp only [sumQ, Q4.aa] at h0
    have h1 := sumQ_a_nonneg (n := n) fun i hi => h i (by omega)
    have h2 := h n (by omega)
    by_cases e : i = n
    · subst e; grind
    · have h3 : (sumQ n f).a = 0 := by grind
      exact sumQ_a_zero (n := n) (fun i hi => h i (by omega)) h3 i (by omega)

/-- The rows are unit vectors that are orthogonal to each other. -/
def UnR (n : Nat) (m : Nat → Nat → Q4) : Prop := ∀ i j, i < n → j < n → sumQ n (fun k => m i k * Q4.conj (m j k)) = dl i j
def UnC (n : Nat) (m : Nat → Nat → Q4) : Prop := ∀ i j, i < n → j < n → sumQ n (fun k => Q4.conj (m k i) * m k j) = dl i j
theorem unC_of_unR {n : Nat} {m : Nat → Nat → Q4} (h : UnR n m) : UnC n m := by
  let p : Nat → Nat → Q4 := fun i j => sumQ n (fun k => Q4.conj (m k i) * m k j)
  have hpc : ∀ i j, Q4.conj (p i j) = p j i := fun i j => by
    show Q4.conj (sumQ n _) = sumQ n _
    rw [sumQ_conj]
    exact sumQ_congr fun k _ => by rw [Q4.conj_mul, Q4.conj_conj, Q4.mul_comm]
  have hpp : ∀ i j, i < n → j < n → sumQ n (fun k => p i k * p k j) = p i j := fun i j hi hj => by
    have e1 : sumQ n (fun k => p i k * p k j) = sumQ n fun k => sumQ n fun a => sumQ n fun b => (Q4.conj (m a i) * m a k) * (Q4.conj (m b k) * m b j) := sumQ_congr fun k _ => by
      show sumQ n _ * p k j = _
      rw [← sumQ_mulr]
      exact sumQ_congr fun a _ => by rw [← sumQ_mul]
    rw [e1, sumQ_swap]
    have e2 : ∀ a, a < n → sumQ n (fun k => sumQ n fun b => (Q4.conj (m a i) * m a k) * (Q4.conj (m b k) * m b j)) = Q4.conj (m a i) * m a j := fun a ha => by
      rw [sumQ_swap]
      have e3 : ∀ b, b < n → sumQ n (fun k => (Q4.conj (m a i) * m a k) * (Q4.conj (m b k) * m b j)) = dl a b * (Q4.conj (m a i) * m b j) := fun b hb => by
        rw [← h a b ha hb, ← sumQ_mulr]
        exact sumQ_congr fun k _ => by
          rw [Q4.mul_assoc, Q4.mul_comm (Q4.conj (m a i)), ← Q4.mul_assoc (m a k), Q4.mul_assoc (m a k * Q4.conj (m b k)), Q4.mul_comm (m b j)]
      rw [sumQ_congr e3, sumQ_dl (fun b => Q4.conj (m a i) * m b j) ha]
    rw [sumQ_congr e2]
  have htr : sumQ n (fun i => dl i i - p i i) = 0 := by
    have e1 : sumQ n (fun i => p i i) = sumQ n fun i => dl i i := by
      show sumQ n (fun i => sumQ n fun k => Q4.conj (m k i) * m k i) = _
      rw [sumQ_swap]
      exact sumQ_congr fun k hk => by
        rw [← h k k hk hk]
        exact sumQ_congr fun i _ => Q4.mul_comm _ _
    have e2 : sumQ n (fun i => dl i i - p i i) = sumQ n (fun i => dl i i) + -sumQ n (fun i => p i i) := by rw [← sumQ_neg, ← sumQ_add]; rfl
    rw [e2, e1, Q4.add_neg]
  have hx : ∀ i, i < n → sumQ n (fun j => (dl i j - p i j) * Q4.conj (dl i j - p i j)) = dl i i - p i i := fun i hi => by
    have e1 : ∀ j, j < n → (dl i j - p i j) * Q4.conj (dl i j - p i j) = (dl i j * dl j i + -(dl i j * p j i)) + (-(p i j * dl j i) + p i j * p j i) := fun j _ => by
      rw [Q4.sub_def, Q4.conj_add, Q4.conj_neg, hpc, dl_conj, dl_comm i j, Q4.mul_add, Q4.add_mul, Q4.add_mul, Q4.mul_neg, Q4.mul_neg, Q4.neg_mul, Q4.neg_mul, Q4.add_assoc, Q4.add_assoc]
      congr 1
      rw [← Q4.add_assoc, ← Q4.add_assoc, Q4.add_comm (-(p i j * dl j i))]
      congr 1
      apply Q4.ext' <;> simp only [Q4.na, Q4.nb, Q4.nc, Q4.nd] <;> grind
    rw [sumQ_congr e1, sumQ_add, sumQ_add, sumQ_add, sumQ_neg, sumQ_neg, sumQ_dl (fun j => dl j i) hi, sumQ_dl (fun j => p j i) hi, sumQ_dlr (fun j => p i j) hi, hpp i i hi hi, Q4.add_comm (-p i i) (p i i), Q4.add_neg, Q4.add_zero]
    rfl
  have hz : ∀ i, i < n → (dl i i - p i i).a = 0 := sumQ_a_zero (fun i hi => by rw [← hx i hi]; exact sumQ_a_nonneg fun j _ => Q4.norm_nonneg _) (by rw [htr]; rfl)
  intro i j hi hj
  have h1 : (sumQ n (fun j => (dl i j - p i j) * Q4.conj (dl i j - p i j))).a = 0 := by rw [hx i hi]; exact hz i hi
  have h2 := sumQ_a_zero (fun j _ => Q4.norm_nonneg _) h1 j hj
  exact (Q4.sub_zero_eq (Q4.norm_zero h2)).symm
theorem unR_of_unC {n : Nat} {m : Nat → Nat → Q4} (h : UnC n m) : UnR n m := by
  have h1 : UnR n (fun i k => Q4.conj (m k i)) := fun i j hi hj => by
    rw [← h i j hi hj]
    exact sumQ_congr fun k _ => by rw [Q4.conj_conj]
  have h2 := unC_of_unR h1
  intro i j hi hj
  rw [← h2 i j hi hj]
  exact sumQ_congr fun k _ => by rw [Q4.conj_conj]
theorem unR_iff {n : Nat} {m : Nat → Nat → Q4} : UnR n m ↔ UnC n m := ⟨unC_of_unR, unR_of_unC⟩
end Go.Proofs.Ytccbinnlnkpplaa
namespace Go.Proofs.Ytccbinnlnkpplaa
set_option linter.all false

def omQ : Q4 := ⟨0, 1, 0, 0⟩
def imQ : Q4 := ⟨0, 0, 1, 0⟩
/-- 1 / r. -/
def hhQ : Q4 := ⟨0, 1 / 2, 0, -1 / 2⟩
def omP : Nat → Q4
  | 0 => 1
  | n + 1 => omQ * omP n
theorem dh_hh (x : Q4) : Q4.dh x = hhQ * x := by
  apply Q4.ext' <;> simp only [Q4.dh, hhQ, Q4.ma, Q4.mb, Q4.mc, Q4.md] <;> grind
theorem Q4.neg_neg (x : Q4) : -(-x) = x := by apply Q4.ext' <;> simp only [Q4.na, Q4.nb, Q4.nc, Q4.nd] <;> grind
theorem om_unit : Q4.conj omQ * omQ = 1 := by
  apply Q4.ext' <;> simp only [omQ, Q4.ma, Q4.mb, Q4.mc, Q4.md, Q4.ca, Q4.cb, Q4.cc, Q4.cd, Q4.oa, Q4.ob, Q4.oc, Q4.od] <;> grind
theorem mul4c (a b c d : Q4) : a * b * (c * d) = a * c * (b * d) := by
  rw [Q4.mul_assoc, ← Q4.mul_assoc b c d, Q4.mul_comm b c, Q4.mul_assoc c b d, ← Q4.mul_assoc]
theorem omP_unit : ∀ n, Q4.conj (omP n) * omP n = 1
  | 0 => by show Q4.conj 1 * 1 = 1; rw [Q4.mul_one, Q4.conj_one]
  | n + 1 => by
    show Q4.conj (omQ * omP n) * (omQ * omP n) = 1
    rw [Q4.conj_mul, mul4c, om_unit, omP_unit n, Q4.mul_one]
theorem conj_unit_mul {u x y : Q4} (h : Q4.conj u * u = 1) : Q4.conj (u * x) * (u * y) = Q4.conj x * y := by
  rw [Q4.conj_mul, mul4c, h, Q4.one_mul]

abbrev Tb := Nat → Nat → Q4
/-- The place of c when p and the next one are exchanged. -/
def swq (p c : Nat) : Nat := if c = p then p + 1 else if c = p + 1 then p else c
def phQ (p : Nat) (u : Q4) (m : Tb) : Tb := fun i k => if i = p then u * m i k else m i k
def crQ (p : Nat) (m : Tb) : Tb := fun i k => m (swq p i) k
def cpQ (p : Nat) (m : Tb) : Tb := fun i k => if i = p then hhQ * (m p k + imQ * m (p + 1) k) else if i = p + 1 then hhQ * (imQ * m p k + m (p + 1) k) else m i k

theorem sumQ_two {p : Nat} {f g : Nat → Q4} (h : ∀ i, i ≠ p → i ≠ p + 1 → f i = g i) (h2 : f p + f (p + 1) = g p + g (p + 1)) : ∀ n, p + 1 < n → sumQ n f = sumQ n g
  | 0, hn => absurd hn (by omega)
  | n + 1, hn => by
    by_cases e : n = p + 1
    · subst e
      simp only [sumQ]
      rw [Q4.add_assoc, Q4.add_assoc, h2, sumQ_congr fun i hi => h i (by omega) (by omega)]
    · simp only [sumQ]
      rw [sumQ_two h h2 n (by omega), h n (by omega) (by omega)]
theorem ph_un {n p : Nat} {u : Q4} {m : Tb} (hu : Q4.conj u * u = 1) (h : UnC n m) : UnC n (phQ p u m) := fun i j hi hj => by
  rw [← h i j hi hj]
  refine sumQ_congr fun k _ => ?_
  unfold phQ
  split
  · exact conj_unit_mul hu
  · rfl
theorem cr_un {n p : Nat} {m : Tb} (hp : p + 1 < n) (h : UnC n m) : UnC n (crQ p m) := fun i j hi hj => by
  rw [← h i j hi hj]
  have e1 : swq p p = p + 1 := if_pos rfl
  have e2 : swq p (p + 1) = p := by unfold swq; rw [if_neg (by omega), if_pos rfl]
  refine sumQ_two (p := p) (fun k h1 h2 => ?_) ?_ n hp
  · unfold crQ swq
    rw [if_neg h1, if_neg h2]
  · unfold crQ
    rw [e1, e2, Q4.add_comm]
theorem cp_norm (a b c d : Q4) : Q4.conj (hhQ * (a + imQ * b)) * (hhQ * (c + imQ * d)) + Q4.conj (hhQ * (imQ * a + b)) * (hhQ * (imQ * c + d)) = Q4.conj a * c + Q4.conj b * d := by
  have e1 : Q4.conj hhQ * hhQ = ⟨1 / 2, 0, 0, 0⟩ := by
    apply Q4.ext' <;> simp only [hhQ, Q4.ma, Q4.mb, Q4.mc, Q4.md, Q4.ca, Q4.cb, Q4.cc, Q4.cd] <;> grind
  have e2 : ∀ x y : Q4, Q4.conj (hhQ * x) * (hhQ * y) = ⟨1 / 2, 0, 0, 0⟩ * (Q4.conj x * y) := fun x y => by rw [Q4.conj_mul, mul4c, e1]
  rw [e2, e2]
  have e3 : Q4.conj imQ * imQ = 1 := by
    apply Q4.ext' <;> simp only [imQ, Q4.ma, Q4.mb, Q4.mc, Q4.md, Q4.ca, Q4.cb, Q4.cc, Q4.cd, Q4.oa, Q4.ob, Q4.oc, Q4.od] <;> grind
  have e4 : Q4.conj imQ = -imQ := by
    apply Q4.ext' <;> simp only [imQ, Q4.ca, Q4.cb, Q4.cc, Q4.cd, Q4.na, Q4.nb, Q4.nc, Q4.nd] <;> grind
  have e5 : Q4.conj (a + imQ * b) * (c + imQ * d) + Q4.conj (imQ * a + b) * (imQ * c + d) = (Q4.conj a * c + Q4.conj b * d) + (Q4.conj a * c + Q4.conj b * d) := by
    rw [Q4.conj_add, Q4.conj_add, Q4.add_mul, Q4.add_mul, Q4.mul_add, Q4.mul_add, Q4.mul_add, Q4.mul_add, conj_unit_mul e3, conj_unit_mul e3, Q4.conj_mul, Q4.conj_mul, e4]
    generalize Q4.conj a = a'
    generalize Q4.conj b = b'
    have f1 : a' * (imQ * d) = imQ * (a' * d) := by rw [← Q4.mul_assoc, Q4.mul_comm a', Q4.mul_assoc]
    have f2 : b' * (imQ * c) = imQ * (b' * c) := by rw [← Q4.mul_assoc, Q4.mul_comm b', Q4.mul_assoc]
    rw [f1, f2, Q4.neg_mul, Q4.neg_mul, Q4.neg_mul, Q4.neg_mul, Q4.mul_assoc, Q4.mul_assoc]
    generalize a' * c = x
    generalize b' * d = y
    generalize imQ * (a' * d) = s
    generalize imQ * (b' * c) = t
    apply Q4.ext' <;> simp only [Q4.aa, Q4.ab, Q4.ac, Q4.ad, Q4.na, Q4.nb, Q4.nc, Q4.nd] <;> grind
  rw [← Q4.mul_add, e5]
  generalize Q4.conj a * c + Q4.conj b * d = z
  apply Q4.ext' <;> simp only [Q4.aa, Q4.ab, Q4.ac, Q4.ad, Q4.ma, Q4.mb, Q4.mc, Q4.md] <;> grind
theorem cp_un {n p : Nat} {m : Tb} (hp : p + 1 < n) (h : UnC n m) : UnC n (cpQ p m) := fun i j hi hj => by
  rw [← h i j hi hj]
  refine sumQ_two (p := p) (fun k h1 h2 => ?_) ?_ n hp
  · unfold cpQ
    rw [if_neg h1, if_neg h2, if_neg h1, if_neg h2]
  · unfold cpQ
    rw [if_pos rfl, if_pos rfl, if_neg (show ¬ p + 1 = p by omega), if_pos rfl, if_neg (show ¬ p + 1 = p by omega), if_pos rfl]
    exact cp_norm _ _ _ _

/-! ### Exponents -/
/-- A whole sum divided by r^K. -/
def InQ (K : Nat) (v : Q4) : Prop := ∃ z : Nm, z.k = K ∧ z.val = v
theorem InQ.up {K : Nat} {v : Q4} (h : InQ K v) : InQ (K + 1) v := by
  obtain ⟨z, hk, hv⟩ := h
  exact ⟨z.tr, by show z.k + 1 = _; omega, by rw [val_tr (by omega)]; exact hv⟩
theorem InQ.mono {K L : Nat} {v : Q4} (h : InQ K v) (hl : K ≤ L) : InQ L v := by
  obtain ⟨d, rfl⟩ := Nat.le.dest hl
  clear hl
  induction d with
  | zero => exact h
  | succ d ih => exact ih.up
theorem InQ.zero (K : Nat) : InQ K 0 := InQ.mono (K := 0) ⟨Nm.zero, rfl, val_zero⟩ (Nat.zero_le _)
theorem InQ.one (K : Nat) : InQ K 1 := InQ.mono (K := 0) ⟨Nm.one, rfl, val_one⟩ (Nat.zero_le _)
theorem valK (K : Nat) (z : Nm) (h : z.k = K) : z.val = Q4.dn K z.co := by unfold Nm.val; rw [h, Int.toNat_natCast]
theorem InQ.add {K : Nat} {u v : Q4} (hu : InQ K u) (hv : InQ K v) : InQ K (u + v) := by
  obtain ⟨x, hx, rfl⟩ := hu
  obtain ⟨y, hy, rfl⟩ := hv
  refine ⟨⟨x.a + y.a, x.b + y.b, x.c + y.c, x.d + y.d, K⟩, rfl, ?_⟩
  rw [valK K _ rfl, valK K x hx, valK K y hy, ← Q4.dn_add]
  congr 1
  apply Q4.ext' <;> simp only [Nm.co, Q4.aa, Q4.ab, Q4.ac, Q4.ad, Rat.intCast_add]
theorem rot_val (z : Nm) : z.rot.val = omQ * z.val := by
  have hk : z.rot.k = z.k := rfl
  unfold Nm.val
  rw [hk, Q4.mul_comm, ← Q4.dn_mul]
  congr 1
  apply Q4.ext' <;> simp only [Nm.co, Nm.rot, omQ, Q4.ma, Q4.mb, Q4.mc, Q4.md, Rat.intCast_neg] <;> grind
theorem InQ.om {K : Nat} {v : Q4} (h : InQ K v) : InQ K (omQ * v) := by
  obtain ⟨z, hk, rfl⟩ := h
  exact ⟨z.rot, hk, rot_val z⟩
theorem InQ.omn {K : Nat} {v : Q4} (h : InQ K v) : ∀ n, InQ K (omP n * v)
  | 0 => by show InQ K (1 * v); rw [Q4.one_mul]; exact h
  | n + 1 => by
    show InQ K (omQ * omP n * v)
    rw [Q4.mul_assoc]
    exact (InQ.omn h n).om
theorem om_im : omQ * omQ = imQ := by
  apply Q4.ext' <;> simp only [omQ, imQ, Q4.ma, Q4.mb, Q4.mc, Q4.md] <;> grind
theorem InQ.im {K : Nat} {v : Q4} (h : InQ K v) : InQ K (imQ * v) := by
  rw [← om_im, Q4.mul_assoc]
  exact h.om.om
theorem dn_hh : ∀ (n : Nat) (x : Q4), Q4.dn (n + 1) x = hhQ * Q4.dn n x
  | n, x => by
    show Q4.dn n (Q4.dh x) = _
    rw [dh_hh, Q4.mul_comm, Q4.dn_mul, Q4.mul_comm]
theorem val_hh (a b c d : Int) (K : Nat) : (⟨a, b, c, d, (K : Int) + 1⟩ : Nm).val = hhQ * (⟨a, b, c, d, K⟩ : Nm).val := by
  rw [valK (K + 1) ⟨a, b, c, d, (K : Int) + 1⟩ (by show (K : Int) + 1 = _; omega), valK K ⟨a, b, c, d, K⟩ rfl, dn_hh]
  rfl
theorem InQ.hh {K : Nat} {v : Q4} (h : InQ K v) : InQ (K + 1) (hhQ * v) := by
  obtain ⟨z, hk, rfl⟩ := h
  refine ⟨⟨z.a, z.b, z.c, z.d, (K : Int) + 1⟩, by show (K : Int) + 1 = _; omega, ?_⟩
  rw [val_hh, ← hk]
/-- The form of a number that has a form with the exponent K. -/
theorem nf_in {K : Nat} {v : Q4} (h : InQ K v) : ∃ z : Nm, z.Nf ∧ 0 ≤ z.k ∧ z.k ≤ K ∧ z.val = v := by
  obtain ⟨z, hk, rfl⟩ := h
  have h0 : 0 ≤ z.k := by omega
  have h1 := nf_k h0
  exact ⟨z.nf, nf_form z, h1.1, by omega, val_eqv h1.1 h0 (nf_eqv z)⟩
theorem nf_val {x y : Nm} (hx : x.Nf) (hx0 : 0 ≤ x.k) (hy : y.Nf) (hy0 : 0 ≤ y.k) (h : x.val = y.val) : x = y := form_unique hx hy hx0 hy0 (eqv_val hx0 hy0 h)
theorem le_in {K : Nat} {z : Nm} (hz : z.Nf) (h0 : 0 ≤ z.k) (h : InQ K z.val) : z.k ≤ K := by
  obtain ⟨x, hx, hx0, hxK, hv⟩ := nf_in h
  rw [← nf_val hx hx0 hz h0 hv]
  exact hxK
theorem in_le {K : Nat} {z : Nm} (h0 : 0 ≤ z.k) (h : z.k ≤ K) : InQ K z.val := InQ.mono (K := z.k.toNat) ⟨z, by omega, rfl⟩ (by omega)
end Go.Proofs.Ytccbinnlnkpplaa
