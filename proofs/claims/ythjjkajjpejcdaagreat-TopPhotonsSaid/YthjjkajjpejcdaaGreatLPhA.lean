/- Texts in one: Eag, Hd, Tr, Ord, Sx, Sr, Sl, Sh, Fa, Sq, Zt, Frm. -/
import Derived.Test.YthjjkajjpejcdaaGreatRows
import Derived.WalkKit
import Derived.Deep.RegionHeld3
import Derived.WalkLawsBesides
import Derived.Handy
import Derived.Lib.Hide
import Derived.Deep.Light
import Derived.Outline
import Derived.Deep.QuietTactic
import Derived.BigQuiet
import Derived.LoopN
import Derived.LoopNIn
import Derived.RangeFuncLeaves
import Derived.RangeFuncRecord
import Derived.TacticsIn
import Derived.IntWalk
import Derived.Deep.MidRow
import Derived.Laws.BitsAllLaws
import Derived.ProofKit
import Derived.OpenShut
import Derived.ChangeSame
import Derived.Carry
namespace Go.Proofs.YthjjkajjpejcdaaGreat
set_option linter.all false
set_option maxRecDepth 100000
set_option maxHeartbeats 1000000
open Go.RowKit
section
variable {P : Program} {ops : Array Oper} {Q : Exit → Act → World → Prop} {md : Region.Mode} {S : World → Prop}
theorem wpOp_of_list {K : Act → World → Prop} {i : Nat} {a : Act} {w : World} {o : Oper} (ho : ops[i]? = some o) (h : wpList P ops (Exit.then K Q) [o] a w) : wpOp P ops Q i K a w := by
  unfold wpOp
  simp only [ho]
  unfold wpList at h
  split
  · rename_i hw
    rw [if_pos hw] at h
    rcases h with h | h
    · refine .inl ?_
      unfold Oper.wp at *
      generalize (execOp a.eval o).run P w = r at *
      cases r with
      | ok n w' =>
        cases n <;> simp only [Oper.upon] at h ⊢ <;>
          first
            | exact h
            | exact Calls.mono h (fun e w'' he => by cases e <;> first | exact he | (obtain ⟨a₀, w₀, h₀⟩ := he; exact ⟨a₀, w₀, h₀⟩))
      | halt x w' => cases x <;> simp only [Oper.upon] at h ⊢ <;> exact h
    · obtain ⟨h1, a₀, w₀, h2⟩ := h
      exact .inr ⟨h1, a₀, w₀, h2⟩
  · rename_i hw
    rw [if_neg hw] at h
    exact h
section
variable {l : List (Oper × Bool)} {a : Act} {w : World} {d : Option Tmp} {op : Op} {t : TypeId} {p : String} {af : Array Edge} {v : Value}
end
section
variable {u : Oper} {l : List (Oper × Nat)} {a : Act} {w : World} {d : Option Tmp} {op : Op} {t : TypeId} {p : String} {af : Array Edge} {v : Value}
end
end
theorem qs {α : Type} : (∀ (xs : List α) (i : Nat) (a : α), xs.toArray.setIfInBounds i a = (xs.set i a).toArray) ∧ (∀ (x : α) (xs : List α) (a : α), (x :: xs).set 0 a = a :: xs) ∧ (∀ (x : α) (xs : List α) (a : α) (n : Nat), (x :: xs).set (n + 1) a = x :: xs.set n a) ∧ (∀ (xs : Array α) (i : Nat) (d : α), xs.getD i d = xs[i]?.getD d) ∧ (∀ (xs : List α) (i : Nat), xs.toArray[i]? = xs[i]?) ∧ (∀ (x : α) (xs : List α), (x :: xs)[0]? = some x) ∧ (∀ (x : α) (xs : List α) (n : Nat), (x :: xs)[n + 1]? = xs[n]?) ∧ (∀ (x y : α), (some x).getD y = x) :=
  ⟨fun _ _ _ => List.setIfInBounds_toArray .., fun _ _ _ => rfl, fun _ _ _ _ => rfl, fun _ _ _ => Array.getD_eq_getD_getElem? .., fun _ _ => List.getElem?_toArray .., fun _ _ => rfl, fun _ _ _ => rfl, fun _ _ => rfl⟩
theorem qm {α : Type} : (∀ {β : Type} (f : α → β) (xs : List α), xs.toArray.map f = (xs.map f).toArray) ∧ (∀ {β : Type} (f : α → β) (x : α) (xs : List α), (x :: xs).map f = f x :: xs.map f) ∧ (∀ {β : Type} (f : α → β), ([] : List α).map f = []) :=
  ⟨fun _ _ => List.map_toArray .., fun _ _ _ => rfl, fun _ => rfl⟩
def Hd (w : World) (g : Nat) (t : TypeId) (cs : Array Value) : Prop := w.heap[g]? = some (.cells cs t (0, 0))
section
variable {w w' : World} {g : Nat} {t : TypeId} {cs : Array Value}
theorem Hd.lt (h : Hd w g t cs) : g < w.heap.size := by
 rcases Nat.lt_or_ge g w.heap.size with hlt | hge
 ·exact hlt
 ·unfold Hd at h; rw [Array.getElem?_eq_none hge] at h; cases h
theorem Hd.cell (h : Hd w g t cs) (i : Nat) : w.cell? ⟨g, i, none⟩ = cs[i]? := cell_of_row w g i cs t (0, 0) h
theorem Hd.free (h : Hd w g t cs) (i : Nat) : w.frozen? ⟨g, i, none⟩ = false := by
 unfold Hd at h
 simp [World.frozen?, h]
theorem Hd.facts (h : Hd w g t cs) : (∀ i, w.cell? ⟨g, i, none⟩ = cs[i]?) ∧ (∀ i, w.frozen? ⟨g, i, none⟩ = false) := ⟨h.cell, h.free⟩
theorem Hd.new {g : Nat} (hg : g = w.heap.size) : Hd (w.alloc (.cells cs t)) g t cs := by subst hg; exact heap_alloc_new w _
theorem Hd.drew (h : Hd w g t cs) : Hd w.drew g t cs := h
theorem Hd.alloc (h : Hd w g t cs) (o : Obj) : Hd (w.alloc o) g t cs := (Below.heap_alloc w o g h.lt).trans h
theorem Hd.set (h : Hd w g t cs) (i : Nat) (u : Value) : Hd (w.setCell ⟨g, i, none⟩ u) g t (cs.setIfInBounds i u) := by
 unfold Hd at h ⊢
 simp [World.setCell, Array.getElem?_modify, h]
theorem Hd.set' {cs' : Array Value} {i : Nat} {u : Value} (h : Hd w g t cs) (e : cs.setIfInBounds i u = cs') : Hd (w.setCell ⟨g, i, none⟩ u) g t cs' := e ▸ h.set i u
theorem Hd.far (h : Hd w g t cs) {p : Addr} (hp : g ≠ p.block) (u : Value) : Hd (w.setCell p u) g t cs := (Below.heap_setCell w p u g hp).trans h
theorem Hd.below {B : Nat} (h : Hd w g t cs) (hb : Below B w w') (hg : g < B) : Hd w' g t cs := (hb.block g hg).trans h
theorem Hd.call (h : Hd w g t cs) (hb : Below w.heap.size w w') : Hd w' g t cs := h.below hb h.lt
theorem Hd.ne {g' : Nat} {t' : TypeId} {cs' : Array Value} (h : Hd w g t cs) (h' : Hd w g' t' cs') (hne : cs ≠ cs') : g ≠ g' := by
 rintro rfl
 unfold Hd at h h'
 rw [h] at h'
 injection h' with h'
 injection h' with h1 _
 exact hne h1
end
section
variable {w w' : World} {g : Nat} {t : TypeId} {cs cs' : Array Value} {o : Obj} {i : Nat} {u : Value} {p : Addr}
theorem hdN (hg : g = w.heap.size) : Hd (w.alloc (.cells cs t)) g t cs := Hd.new hg
theorem hdA (h : Hd w g t cs) : Hd (w.alloc o) g t cs := h.alloc o
theorem hdD (h : Hd w g t cs) : Hd w.drew g t cs := h
theorem hdS (h : Hd w g t cs) (e : cs.setIfInBounds i u = cs') : Hd (w.setCell ⟨g, i, none⟩ u) g t cs' := h.set' e
theorem hdF (h : Hd w g t cs) (hp : g ≠ p.block) : Hd (w.setCell p u) g t cs := h.far hp u
end
theorem sA (w : World) (o : Obj) : (w.alloc o).heap.size = w.heap.size + 1 := World.size_alloc w o
theorem sS (w : World) (a : Addr) (u : Value) : (w.setCell a u).heap.size = w.heap.size := World.size_setCell w a u
theorem sD (w : World) : w.drew.heap.size = w.heap.size := World.size_drew w
def isRow : TypeDesc → Bool
  | .struct _ => true
  | .array _ _ => true
  | _ => false
section
variable {P : Program} {w : World}
theorem run_load_hd {g t ty : Nat} {cs : Array Value} {d : TypeDesc} (hg : Hd w g t cs) (hu : P.underlying ty = some d) (hr : isRow d = true)
    (hs : (P.info? ty).map (·.size) = some cs.size) : (loadVar ty ⟨g, 0, none⟩).run P w = .ok (.agg cs) w := by
  refine run_loadVar_row w g t ty cs (0, 0) d hg hu ?_ hs
  cases d <;> first | rfl | cases hr
theorem run_results1 {fn : Func} {k ty : Nat} {tmps : Array Value} {g t : Nat} {cs : Array Value} {d : TypeDesc} (hres : fn.results = #[.cell k ty])
    (hk : tmps.getD k undef = .pointer (some ⟨g, 0, none⟩)) (hg : Hd w g t cs) (hu : P.underlying ty = some d) (hr : isRow d = true)
    (hs : (P.info? ty).map (·.size) = some cs.size) : (results fn tmps).run P w = .ok (.agg cs) w := by
  have := run_load_hd hg hu hr hs
  have hk0 : tmps[k]?.getD undef = .pointer (some ⟨g, 0, none⟩) := by simpa using hk
  simp [results, hres, hk0, asAddr, this]
theorem run_results2 {fn : Func} {k ty u : Nat} {tmps : Array Value} {g t : Nat} {cs : Array Value} {d : TypeDesc} (hres : fn.results = #[.cell k ty, .tmp u])
    (hk : tmps.getD k undef = .pointer (some ⟨g, 0, none⟩)) (hg : Hd w g t cs) (hu : P.underlying ty = some d) (hr : isRow d = true)
    (hs : (P.info? ty).map (·.size) = some cs.size) : (results fn tmps).run P w = .ok (.tuple #[.agg cs, tmps.getD u undef]) w := by
  have := run_load_hd hg hu hr hs
  have hk0 : tmps[k]?.getD undef = .pointer (some ⟨g, 0, none⟩) := by simpa using hk
  simp [results, hres, hk0, asAddr, this]
theorem run_results3 {fn : Func} {k ty u v : Nat} {tmps : Array Value} {g t : Nat} {cs : Array Value} {d : TypeDesc} (hres : fn.results = #[.cell k ty, .tmp u, .tmp v])
    (hk : tmps.getD k undef = .pointer (some ⟨g, 0, none⟩)) (hg : Hd w g t cs) (hu : P.underlying ty = some d) (hr : isRow d = true)
    (hs : (P.info? ty).map (·.size) = some cs.size) : (results fn tmps).run P w = .ok (.tuple #[.agg cs, tmps.getD u undef, tmps.getD v undef]) w := by
  have := run_load_hd hg hu hr hs
  have hk0 : tmps[k]?.getD undef = .pointer (some ⟨g, 0, none⟩) := by simpa using hk
  simp [results, hres, hk0, asAddr, this]
end
theorem hdx {P : Prop} (h : P := by (with_reducible repeat' (first | assumption | (apply hdN; (try simp only [sA, sS, sD]); done) | apply hdA | apply hdD | apply hdS | (apply hdF; case hp => first | (simp; done) | (simp; omega)) | with_unfolding_all rfl))) : P := h
def wpT (P : Program) (md : Region.Mode) (ops : Array Oper) (Q : Exit → Act → World → Prop) (S : World → Prop) (fuel : Nat) (listed : Array Bool) (a : Act) (w : World) : Prop :=
  wpAnyH P md ops Q S fuel listed a w
section
variable {P : Program} {ops : Array Oper} {Q : Exit → Act → World → Prop} {md : Region.Mode} {S : World → Prop} {fuel : Nat} {listed : Array Bool} {a : Act} {w : World}
theorem tr_hard1 {i : Nat} {o : Oper} (hr : Region.ready md ops listed = [i]) (ho : ops[i]? = some o)
    (h : wpList P ops (Exit.then (fun a' w' => S w' ∧ wpT P md ops Q S fuel (listed.setIfInBounds i true) a' w') Q) [o] a w) : wpT P md ops Q S (fuel + 1) listed a w := by
  refine wpAnyH_all hr (by simp) fun k hk => ?_
  obtain rfl : k = i := by simpa using hk
  exact wpOp_of_list ho h
theorem tr_hard2 {i j : Nat} {o u : Oper} (hr : Region.ready md ops listed = [i, j]) (ho : ops[i]? = some o) (hu : ops[j]? = some u)
    (h : wpList P ops (Exit.then (fun a' w' => S w' ∧ wpT P md ops Q S fuel (listed.setIfInBounds i true) a' w') Q) [o] a w)
    (h' : wpList P ops (Exit.then (fun a' w' => S w' ∧ wpT P md ops Q S fuel (listed.setIfInBounds j true) a' w') Q) [u] a w) : wpT P md ops Q S (fuel + 1) listed a w := by
  refine wpAnyH_all hr (by simp) fun k hk => ?_
  have hk' : k = i ∨ k = j := by simpa using hk
  rcases hk' with rfl | rfl
  · exact wpOp_of_list ho h
  · exact wpOp_of_list hu h'
theorem tr_nil (hr : (Region.ready md ops listed).isEmpty = true) (h : Q .normal a w) : wpT P md ops Q S 0 listed a w := ⟨by simpa using hr, h⟩
theorem wp_region_tr {id : Nat} (S : World → Prop) (hm : P.follows .mixedOrders = true) (h : wpT P .any ops Q S ops.size (Array.replicate ops.size false) a w.drew) : (Code.region id ops true).wp P Q a w :=
  wp_region_held hm h
end
section
variable {P : Program} {ops : Array Oper} {Q : Exit → Act → World → Prop} {md : Region.Mode}
def wpAnyF (P : Program) (md : Region.Mode) (ops : Array Oper) (Q : Exit → Act → World → Prop) (S : Array Bool → World → Prop) : Nat → Array Bool → Act → World → Prop
  | 0, listed, a, w => Region.ready md ops listed = [] ∧ Q .normal a w
  | fuel + 1, listed, a, w =>
    (Region.ready md ops listed = [] → Q .normal a w) ∧
    ∀ i ∈ Region.ready md ops listed, wpOp P ops Q i (fun a' w' => S (listed.setIfInBounds i true) w' ∧ wpAnyF P md ops Q S fuel (listed.setIfInBounds i true) a' w') a w
theorem wpAny_of_F {S : Array Bool → World → Prop} : ∀ (fuel : Nat) (listed : Array Bool) (a : Act) (w : World), wpAnyF P md ops Q S fuel listed a w → wpAny P md ops Q fuel listed a w
  | 0, _, _, _, h => h
  | fuel + 1, _, _, _, h => ⟨h.1, fun i hi => wpOp_mono (fun a' w' h' => wpAny_of_F fuel _ a' w' h'.2) (h.2 i hi)⟩
theorem wpAnyF_first {S : Array Bool → World → Prop} {T : World → Prop} {i : Nat} {oi : Oper} {v : Value} (hi : ops[i]? = some oi) (hsel : ∀ (j : Nat) (o : Oper) cs b, ops[j]? = some o → o.op ≠ .select cs b)
    (hQ : ∀ c a w, Q (.panic c) (a.put oi.dst v) w → Q (.panic c) a w)
    (hSi : ∀ listed w, S (listed.setIfInBounds i true) w ↔ S listed w)
    (hSj : ∀ j oj, ops[j]? = some oj → (∀ e ∈ oj.after, Region.binds md e = true → e.on ≠ i) → ∀ listed, (∀ w, S listed w → T w) → ∀ w, S (listed.setIfInBounds j true) w → T w) :
    ∀ (fuel : Nat) (listed : Array Bool) (a : Act) (w : World), (∀ w, S listed w → T w) →
      (∀ j oj, ops[j]? = some oj → j ≠ i → listed.getD j true = false → (∀ e ∈ oj.after, Region.binds md e = true → e.on ≠ i) → oi.apart ops oj = true) →
      i ∈ Region.ready md ops listed → YieldsIf P ops T oi v a → S listed w →
      wpAnyF P md ops Q S fuel (listed.setIfInBounds i true) (a.put oi.dst v) w → wpAnyF P md ops Q S (fuel + 1) listed a w := by
  intro fuel
  induction fuel with
  | zero =>
    intro listed a w hT _ hr hy hS H
    refine ⟨fun h => (by rw [h] at hr; cases hr), fun j hj => ?_⟩
    by_cases hji : j = i
    · subst hji; exact hy.wpOp hi (hT w hS) ⟨(hSi _ _).2 hS, H⟩
    · have := ready_mono hj hji
      rw [H.1] at this
      cases this
  | succ fuel ih =>
    intro listed a w hT hfree hr hy hS H
    refine ⟨fun h => (by rw [h] at hr; cases hr), fun j hj => ?_⟩
    by_cases hji : j = i
    · subst hji; exact hy.wpOp hi (hT w hS) ⟨(hSi _ _).2 hS, H⟩
    · have h1 := H.2 j (ready_mono hj hji)
      obtain ⟨hjun, oj, hoj, hall⟩ := mem_ready.1 hj
      have hnot : ∀ e ∈ oj.after, Region.binds md e = true → e.on ≠ i := fun e he hb heq => by
        have h1 := hall e he hb
        have h0 := (mem_ready.1 hr).1
        rw [heq] at h1
        rcases Nat.lt_or_ge i listed.size with h' | h'
        · simp [h'] at h0 h1; rw [h0] at h1; cases h1
        · simp [Array.getElem?_eq_none h'] at h1
      have h2 := wpOp_putIf hoj (hfree j oj hoj hji hjun hnot) (fun cs b => hsel i oi cs b hi) (fun cs b => hsel j oj cs b hoj) hQ hy h1
      have hfree' : ∀ k ok, ops[k]? = some ok → k ≠ i → (listed.setIfInBounds j true).getD k true = false →
          (∀ e ∈ ok.after, Region.binds md e = true → e.on ≠ i) → oi.apart ops ok = true := fun k ok hk hki hun hno => by
        refine hfree k ok hk hki ?_ hno
        by_cases hjk : j = k
        · subst hjk; exact hjun
        · rw [getD_set_ne true hjk] at hun; exact hun
      have hSjj := hSj j oj hoj hnot listed hT
      refine wpOp_mono (fun a' w' h3 => ?_) h2
      have hS3 : S (listed.setIfInBounds j true) w' := by
        have := h3.2.1
        rw [Array.setIfInBounds_comm _ _ (Ne.symm hji)] at this
        exact (hSi _ _).1 this
      refine ⟨hS3, ih (listed.setIfInBounds j true) a' w' hSjj hfree' (ready_mono hr (Ne.symm hji)) h3.1 hS3 ?_⟩
      rw [Array.setIfInBounds_comm _ _ hji]
      exact h3.2.2
def sOf : List (Nat × (World → Prop)) → (World → Prop) → Array Bool → World → Prop
  | [], b, _ => b
  | (m, p) :: r, b, listed => if listed.getD m false then sOf r p listed else b
theorem sOf_other {j : Nat} : ∀ (l : List (Nat × (World → Prop))) (b : World → Prop) (listed : Array Bool), (∀ x ∈ l, x.1 ≠ j) → sOf l b (listed.setIfInBounds j true) = sOf l b listed
  | [], _, _, _ => rfl
  | (m, p) :: r, b, listed, h => by
    have hm : j ≠ m := Ne.symm (h (m, p) (by simp))
    simp only [sOf]
    rw [getD_set_ne false hm, sOf_other r p listed (fun x hx => h x (by simp [hx]))]
def wpEagF (P : Program) (ops : Array Oper) (Q : Exit → Act → World → Prop) (c : World → Prop) : List (Nat × Nat) → List (Nat × (World → Prop)) → (World → Prop) → Act → World → Prop
  | [], _, _, a, w => Q .normal a w
  | (i, 0) :: l, m, b, a, w => ∃ o v, ops[i]? = some o ∧ YieldsIf P ops b o v a ∧ wpEagF P ops Q c l m b (a.put o.dst v) w
  | (i, 1) :: l, m, b, a, w => wpOp P ops Q i (fun a' w' => b w' ∧ wpEagF P ops Q c l m b a' w') a w
  | (i, 2) :: l, m, b, a, w => match m with
    | [] => False
    | (_, p) :: r => wpOp P ops Q i (fun a' w' => p w' ∧ wpEagF P ops Q c l r p a' w') a w
  | (i, _ + 3) :: l, m, b, a, w => ∃ o v, ops[i]? = some o ∧ YieldsIf P ops c o v a ∧ wpEagF P ops Q c l m b (a.put o.dst v) w
def eagF (md : Region.Mode) (ops : Array Oper) : List (Nat × Nat) → List Nat → Array Bool → Bool
  | [], ms, listed => (Region.ready md ops listed).isEmpty
  | (i, 0) :: l, ms, listed => (Region.ready md ops listed).contains i && (Region.free md ops listed i &&
      ((ms.all fun m => m != i && ((ops[m]?).map fun o => o.after.any fun e => Region.binds md e && e.on == i).getD false) && eagF md ops l ms (listed.setIfInBounds i true)))
  | (i, 1) :: l, ms, listed => decide (Region.ready md ops listed = [i]) && (!ms.contains i && eagF md ops l ms (listed.setIfInBounds i true))
  | (i, 2) :: l, ms, listed => match ms with
    | [] => false
    | m :: r => decide (Region.ready md ops listed = [i]) && (m == i && (decide (i < listed.size) && (!r.contains i && eagF md ops l r (listed.setIfInBounds i true))))
  | (i, _ + 3) :: l, ms, listed => (Region.ready md ops listed).contains i && (Region.free md ops listed i && (!ms.contains i && eagF md ops l ms (listed.setIfInBounds i true)))
theorem wpAnyF_congr {S S' : Array Bool → World → Prop} (p : Array Bool → Prop) (hp : ∀ listed i, p listed → p (listed.setIfInBounds i true)) (he : ∀ listed, p listed → S listed = S' listed) :
    ∀ (fuel : Nat) (listed : Array Bool) (a : Act) (w : World), p listed → wpAnyF P md ops Q S fuel listed a w → wpAnyF P md ops Q S' fuel listed a w
  | 0, _, _, _, _, h => h
  | fuel + 1, listed, _, _, hl, h => ⟨h.1, fun i hi => wpOp_mono (fun a' w' h' => ⟨(he _ (hp _ i hl)) ▸ h'.1, wpAnyF_congr p hp he fuel _ a' w' (hp _ i hl) h'.2⟩) (h.2 i hi)⟩
theorem sOf_c {c : World → Prop} : ∀ (m : List (Nat × (World → Prop))) (b : World → Prop) (listed : Array Bool), (∀ w, b w → c w) → (∀ x ∈ m, ∀ w, x.2 w → c w) → ∀ w, sOf m b listed w → c w
  | [], _, _, hb, _, w, h => hb w h
  | (m, p) :: r, b, listed, hb, hm, w, h => by
    simp only [sOf] at h
    split at h
    · exact sOf_c r p listed (hm (m, p) (by simp)) (fun x hx => hm x (by simp [hx])) w h
    · exact hb w h
theorem wpAnyF_of_eag {c : World → Prop} (hs : Region.noSelect ops = true) (hQ : ∀ c d v a w, Q (.panic c) (Act.put a d v) w → Q (.panic c) a w) :
    ∀ (l : List (Nat × Nat)) (m : List (Nat × (World → Prop))) (b : World → Prop) (listed : Array Bool) (a : Act) (w : World), (∀ x ∈ m, listed.getD x.1 false = false) →
      (∀ w, b w → c w) → (∀ x ∈ m, ∀ w, x.2 w → c w) → eagF md ops l (m.map (·.1)) listed = true → b w → wpEagF P ops Q c l m b a w → wpAnyF P md ops Q (sOf m b) l.length listed a w
  | [], m, b, listed, a, w, hm, _, _, hB, _, h => ⟨by simpa [eagF] using hB, h⟩
  | (i, 0) :: l, m, b, listed, a, w, hm, hc, hcm, hB, hb, h => by
    simp only [eagF, Bool.and_eq_true] at hB
    obtain ⟨hr, hf, hms, hB'⟩ := hB
    obtain ⟨o, v, ho, hy, hrest⟩ := h
    have hbase : ∀ listed' : Array Bool, (∀ x ∈ m, listed'.getD x.1 false = false) → sOf m b listed' = b := by
      intro listed' h'
      cases m with
      | nil => rfl
      | cons x r => simp only [sOf]; rw [if_neg (by rw [h' x (by simp)]; simp)]
    have hmi : ∀ x ∈ m, x.1 ≠ i := fun x hx e => by
      have := List.all_eq_true.1 hms x.1 (List.mem_map.2 ⟨x, hx, rfl⟩)
      simp [e] at this
    have hmw : ∀ j oj, ops[j]? = some oj → (∀ e ∈ oj.after, Region.binds md e = true → e.on ≠ i) → ∀ x ∈ m, x.1 ≠ j := fun j oj hoj hno x hx e => by
      have := List.all_eq_true.1 hms x.1 (List.mem_map.2 ⟨x, hx, rfl⟩)
      rw [e, hoj] at this
      simp only [Option.map_some, Option.getD_some, Bool.and_eq_true, Array.any_eq_true] at this
      obtain ⟨_, n, hn, h1, h2⟩ := this
      exact hno _ (Array.getElem_mem hn) h1 (by simpa using h2)
    refine wpAnyF_first (T := b) ho (Region.noSelect_spec hs) (fun c a w => hQ c _ _ a w) (fun listed w => by rw [sOf_other m b listed hmi]) (fun j oj hoj hno listed h w hw => h w (by rw [sOf_other m b listed (hmw j oj hoj hno)] at hw; exact hw))
      l.length listed a w (by rw [hbase listed hm]; exact fun _ h => h) (Region.free_spec ho hf) (by simpa using hr) hy (by rw [hbase listed hm]; exact hb) ?_
    exact wpAnyF_of_eag hs hQ l m b _ _ _ (fun x hx => by rw [getD_set_ne false (Ne.symm (hmi x hx))]; exact hm x hx) hc hcm hB' hb hrest
  | (i, n + 3) :: l, m, b, listed, a, w, hm, hc, hcm, hB, hb, h => by
    simp only [eagF, Bool.and_eq_true, Bool.not_eq_true'] at hB
    obtain ⟨hr, hf, hni, hB'⟩ := hB
    obtain ⟨o, v, ho, hy, hrest⟩ := h
    have hmi : ∀ x ∈ m, x.1 ≠ i := fun x hx e => by
      have : (m.map (·.1)).contains i = true := by simp only [List.contains_iff_mem]; exact List.mem_map.2 ⟨x, hx, e⟩
      rw [this] at hni; cases hni
    have hbase : ∀ listed' : Array Bool, (∀ x ∈ m, listed'.getD x.1 false = false) → sOf m b listed' = b := by
      intro listed' h'
      cases m with
      | nil => rfl
      | cons x r => simp only [sOf]; rw [if_neg (by rw [h' x (by simp)]; simp)]
    refine wpAnyF_first (T := c) ho (Region.noSelect_spec hs) (fun c a w => hQ c _ _ a w) (fun listed w => by rw [sOf_other m b listed hmi]) (fun _ _ _ _ _ _ => sOf_c m b _ hc hcm)
      l.length listed a w (sOf_c m b _ hc hcm) (Region.free_spec ho hf) (by simpa using hr) hy (by rw [hbase listed hm]; exact hb) ?_
    exact wpAnyF_of_eag hs hQ l m b _ _ _ (fun x hx => by rw [getD_set_ne false (Ne.symm (hmi x hx))]; exact hm x hx) hc hcm hB' hb hrest
  | (i, 1) :: l, m, b, listed, a, w, hm, hc, hcm, hB, hb, h => by
    simp only [eagF, Bool.and_eq_true, decide_eq_true_eq, Bool.not_eq_true'] at hB
    obtain ⟨hr, hni, hB'⟩ := hB
    have hmi : ∀ x ∈ m, x.1 ≠ i := fun x hx e => by
      have : (m.map (·.1)).contains i = true := by simp only [List.contains_iff_mem]; exact List.mem_map.2 ⟨x, hx, e⟩
      rw [this] at hni; cases hni
    have hm' : ∀ x ∈ m, (listed.setIfInBounds i true).getD x.1 false = false := fun x hx => by rw [getD_set_ne false (Ne.symm (hmi x hx))]; exact hm x hx
    have hbase : sOf m b (listed.setIfInBounds i true) = b := by
      cases m with
      | nil => rfl
      | cons x r => simp only [sOf]; rw [if_neg (by rw [hm' x (by simp)]; simp)]
    refine ⟨fun h0 => (by rw [h0] at hr; cases hr), fun j hj => ?_⟩
    rw [hr] at hj
    have hji : j = i := by simpa using hj
    subst hji
    refine wpOp_mono (fun a' w' h' => ⟨by rw [hbase]; exact h'.1, wpAnyF_of_eag hs hQ l m b _ _ _ hm' hc hcm hB' h'.1 h'.2⟩) h
  | (i, 2) :: l, [], b, listed, a, w, hm, hc, hcm, hB, hb, h => by simp [eagF] at hB
  | (i, 2) :: l, (m, p) :: r, b, listed, a, w, hm, hc, hcm, hB, hb, h => by
    simp only [eagF, List.map_cons, Bool.and_eq_true, decide_eq_true_eq, beq_iff_eq, Bool.not_eq_true'] at hB
    obtain ⟨hr, hmi, hlt, hni, hB'⟩ := hB
    subst hmi
    have hri : ∀ x ∈ r, x.1 ≠ m := fun x hx e => by
      have : (r.map (·.1)).contains m = true := by simp only [List.contains_iff_mem]; exact List.mem_map.2 ⟨x, hx, e⟩
      rw [this] at hni; cases hni
    have hm' : ∀ x ∈ r, (listed.setIfInBounds m true).getD x.1 false = false := fun x hx => by rw [getD_set_ne false (Ne.symm (hri x hx))]; exact hm x (by simp [hx])
    have hset : ∀ (listed' : Array Bool), listed'.getD m false = true → sOf ((m, p) :: r) b listed' = sOf r p listed' := fun listed' h' => by simp only [sOf]; rw [if_pos h']
    have hgot : (listed.setIfInBounds m true).getD m false = true := by simp [Array.getD_eq_getD_getElem?, hlt]
    have hbase : sOf r p (listed.setIfInBounds m true) = p := by
      cases r with
      | nil => rfl
      | cons x r => simp only [sOf]; rw [if_neg (by rw [hm' x (by simp)]; simp)]
    refine ⟨fun h0 => (by rw [h0] at hr; cases hr), fun j hj => ?_⟩
    rw [hr] at hj
    have hji : j = m := by simpa using hj
    subst hji
    have h : wpOp P ops Q j (fun a' w' => p w' ∧ wpEagF P ops Q c l r p a' w') a w := by simpa only [wpEagF] using h
    refine wpOp_mono (fun a' w' h' => ⟨by rw [hset _ hgot, hbase]; exact h'.1, ?_⟩) h
    refine wpAnyF_congr (S := sOf r p) (fun listed' => listed'.getD j false = true) ?_ (fun listed' h' => (hset listed' h').symm) _ _ _ _ hgot (wpAnyF_of_eag hs hQ l r p _ _ _ hm' (hcm (j, p) (by simp)) (fun x hx => hcm x (by simp [hx])) hB' h'.1 h'.2)
    intro listed' k hk
    by_cases hkj : k = j
    · subst hkj
      rcases Nat.lt_or_ge k listed'.size with h' | h'
      · simp [Array.getD_eq_getD_getElem?, h']
      · rw [show listed'.setIfInBounds k true = listed' from by simp [Array.setIfInBounds, Nat.not_lt.2 h']]; exact hk
    · rw [getD_set_ne false hkj]; exact hk
theorem wp_region_eagF {id : Nat} {a : Act} {w : World} {l : List Oper} {c : World → Prop} (m : List (Nat × (World → Prop))) (b : World → Prop) (ord : List (Nat × Nat)) (hm : P.follows .mixedOrders = true)
    (hB : (Region.noSelect l.toArray && (decide (ord.length = l.length) && eagF .any l.toArray ord (m.map (·.1)) (Array.replicate l.length false))) = true)
    (hQ : ∀ c d v a w, Q (.panic c) (Act.put a d v) w → Q (.panic c) a w) (hb : b w.drew) (hc : ∀ w, b w → c w) (hcm : ∀ x ∈ m, ∀ w, x.2 w → c w)
    (h : wpEagF P l.toArray Q c ord m b a w.drew) : (Code.region id l.toArray true).wp P Q a w := by
  simp only [Bool.and_eq_true, decide_eq_true_eq] at hB
  obtain ⟨hs, hl, hB⟩ := hB
  refine wp_region_any hm ?_
  have hx : ∀ x ∈ m, (Array.replicate l.length false).getD x.1 false = false := fun x _ => by
    rw [Array.getD_eq_getD_getElem?]
    rcases Nat.lt_or_ge x.1 l.length with h' | h' <;> simp [h', Array.getElem?_replicate]
  have := wpAnyF_of_eag (md := .any) hs hQ ord m b _ a w.drew hx hc hcm hB hb h
  rw [hl] at this
  exact wpAny_of_F _ _ _ _ (by simpa using this)
end
abbrev Blk := Nat × Obj
structure Kn (B : World) (F : List Nat) (s : List Blk) (w : World) : Prop where
  os : w.os = B.os
  tape : w.tape = B.tape
  output : w.output = B.output
  size : B.heap.size ≤ w.heap.size
  old : ∀ k, k < B.heap.size → k ∉ F → w.heap[k]? = B.heap[k]?
  own : ∀ b ∈ s, w.heap[b.1]? = some b.2
  new : ∀ b ∈ s, b.1 ∈ F ∨ B.heap.size ≤ b.1
  nodup : (s.map (·.1)).Nodup
section
variable {B w w' : World} {F : List Nat} {s s' : List Blk} {g t : Nat} {cs : Array Value}
theorem Kn.start (w : World) : Kn w [] [] w :=
  ⟨rfl, rfl, rfl, Nat.le_refl _, fun _ _ _ => rfl, (fun _ h => nomatch h), (fun _ h => nomatch h), List.nodup_nil⟩
theorem Kn.below (h : Kn B [] s w) : Below B.heap.size B w := ⟨h.os, h.tape, h.output, h.size, fun k hk => h.old k hk (by simp)⟩
theorem Kn.hd (h : Kn B F s w) (hm : (g, Obj.cells cs t) ∈ s) : Hd w g t cs := h.own _ hm
theorem Kn.hd0 (h : Kn B F ((g, .cells cs t) :: s) w) : Hd w g t cs := h.own (g, .cells cs t) (by simp)
theorem Kn.tl {b : Blk} (h : Kn B F (b :: s) w) : Kn B F s w :=
  ⟨h.os, h.tape, h.output, h.size, h.old, fun c hc => h.own c (by simp [hc]), fun c hc => h.new c (by simp [hc]), (List.nodup_cons.1 h.nodup).2⟩
theorem Kn.sub (h : Kn B F s w) (hs : s'.Sublist s) : Kn B F s' w :=
  ⟨h.os, h.tape, h.output, h.size, h.old, fun b hb => h.own b (hs.subset hb), fun b hb => h.new b (hs.subset hb), (hs.map _).nodup h.nodup⟩
theorem Kn.drew (h : Kn B F s w) : Kn B F s w.drew := ⟨h.os, h.tape, h.output, h.size, h.old, h.own, h.new, h.nodup⟩
theorem ob_lt {o : Obj} (h : w.heap[g]? = some o) : g < w.heap.size := by
  rcases Nat.lt_or_ge g w.heap.size with hlt | hge
  · exact hlt
  · rw [Array.getElem?_eq_none hge] at h; cases h
theorem Kn.lt (h : Kn B F s w) {b : Blk} (hb : b ∈ s) : b.1 < w.heap.size := ob_lt (h.own b hb)
theorem Kn.call (h : Kn B F s w) (hb : Below w.heap.size w w') : Kn B F s w' :=
  ⟨hb.os.trans h.os, hb.tape.trans h.tape, hb.output.trans h.output, Nat.le_trans h.size hb.size,
    fun k hk hF => (hb.block k (Nat.lt_of_lt_of_le hk h.size)).trans (h.old k hk hF), fun b hm => (hb.block b.1 (h.lt hm)).trans (h.own b hm), h.new, h.nodup⟩
structure Made (w : World) (u : List Blk) (w' : World) : Prop where
  below : Below w.heap.size w w'
  own : ∀ b ∈ u, w'.heap[b.1]? = some b.2
  new : ∀ b ∈ u, w.heap.size ≤ b.1
  nodup : (u.map (·.1)).Nodup
theorem Made.nil (h : Below w.heap.size w w') : Made w [] w' := ⟨h, (fun _ h => nomatch h), (fun _ h => nomatch h), List.nodup_nil⟩
theorem Made.one {o : Obj} (h : Below w.heap.size w w') (hd : w'.heap[g]? = some o) (hn : w.heap.size ≤ g) : Made w [(g, o)] w' :=
  ⟨h, (fun b hb => by simp at hb; subst hb; exact hd), (fun b hb => by simp at hb; subst hb; exact hn), by simp⟩
theorem Kn.made (h : Kn B [] s w) (hs : s'.Sublist s) : Made B s' w :=
  ⟨h.below, fun b hb => h.own b (hs.subset hb), fun b hb => (h.new b (hs.subset hb)).resolve_left (by simp), (hs.map _).nodup h.nodup⟩
theorem Kn.add (h : Kn B F s w) (hm : Made w s' w') : Kn B F (s' ++ s) w' := by
  have h1 := h.call hm.below
  refine ⟨h1.os, h1.tape, h1.output, h1.size, h1.old, ?_, ?_, ?_⟩
  · intro b hb
    rcases List.mem_append.1 hb with hb | hb
    · exact hm.own b hb
    · exact h1.own b hb
  · intro b hb
    rcases List.mem_append.1 hb with hb | hb
    · exact .inr (Nat.le_trans h.size (hm.new b hb))
    · exact h1.new b hb
  · rw [List.map_append]
    refine List.nodup_append.2 ⟨hm.nodup, h.nodup, ?_⟩
    intro a ha c hc e
    subst e
    obtain ⟨x, hx, rfl⟩ := List.mem_map.1 ha
    obtain ⟨y, hy, hxy⟩ := List.mem_map.1 hc
    have := hm.new x hx
    have := h.lt hy
    omega
theorem Kn.alloc (h : Kn B F s w) (o : Obj) : Kn B F ((w.heap.size, o) :: s) (w.alloc o) :=
  h.add (s' := [(w.heap.size, o)]) (Made.one ((Below.refl _ w).alloc (Nat.le_refl _) _) (heap_alloc_new w o) (Nat.le_refl _))
inductive Upd (g i : Nat) (u : Value) : List Blk → List Blk → Prop
  | here (t : Nat) (cs : Array Value) (s : List Blk) : Upd g i u ((g, .cells cs t) :: s) ((g, .cells (cs.setIfInBounds i u) t) :: s)
  | there (b : Blk) {s s' : List Blk} : Upd g i u s s' → Upd g i u (b :: s) (b :: s')
theorem Upd.names {i : Nat} {u : Value} (h : Upd g i u s s') : s'.map (·.1) = s.map (·.1) := by
  induction h with
  | here => rfl
  | there b _ ih => simp [ih]
theorem Upd.mem {i : Nat} {u : Value} (h : Upd g i u s s') : ∃ t cs, (g, Obj.cells cs t) ∈ s := by
  induction h with
  | here t cs s => exact ⟨t, cs, by simp⟩
  | there b _ ih => obtain ⟨t, cs, h⟩ := ih; exact ⟨t, cs, by simp [h]⟩
theorem Upd.spec {i : Nat} {u : Value} (h : Upd g i u s s') (hn : (s.map (·.1)).Nodup) : ∀ b ∈ s', (b ∈ s ∧ b.1 ≠ g) ∨ ∃ t cs, (g, Obj.cells cs t) ∈ s ∧ b = (g, Obj.cells (cs.setIfInBounds i u) t) := by
  induction h with
  | here t cs s =>
    intro b hb
    rcases List.mem_cons.1 hb with rfl | hb
    · exact .inr ⟨t, cs, by simp, rfl⟩
    · refine .inl ⟨by simp [hb], fun e => ?_⟩
      simp only [List.map_cons, List.nodup_cons] at hn
      exact hn.1 (e ▸ List.mem_map.2 ⟨b, hb, rfl⟩)
  | there c h ih =>
    intro b hb
    simp only [List.map_cons, List.nodup_cons] at hn
    rcases List.mem_cons.1 hb with rfl | hb
    · refine .inl ⟨by simp, fun e => ?_⟩
      obtain ⟨t, cs, hm⟩ := h.mem
      exact hn.1 (List.mem_map.2 ⟨_, hm, e.symm⟩)
    · rcases ih hn.2 b hb with ⟨h1, h2⟩ | ⟨t, cs, h1, h2⟩
      · exact .inl ⟨by simp [h1], h2⟩
      · exact .inr ⟨t, cs, by simp [h1], h2⟩
theorem Kn.set {i : Nat} {u : Value} (h : Kn B F s w) (hu : Upd g i u s s') : Kn B F s' (w.setCell ⟨g, i, none⟩ u) := by
  have hsp := hu.spec h.nodup
  obtain ⟨t, cs, hm⟩ := hu.mem
  have hg := h.new _ hm
  refine ⟨h.os, h.tape, h.output, by rw [World.size_setCell]; exact h.size, ?_, ?_, ?_, by rw [hu.names]; exact h.nodup⟩
  · intro k hk hF
    refine (Below.heap_setCell w ⟨g, i, none⟩ u k ?_).trans (h.old k hk hF)
    show k ≠ g
    rcases hg with hg | hg
    · exact fun e => hF (e ▸ hg)
    · simp at hg; omega
  · intro b hb
    rcases hsp b hb with ⟨h1, h2⟩ | ⟨t, cs, h1, rfl⟩
    · exact (Below.heap_setCell w ⟨g, i, none⟩ u b.1 h2).trans (h.own b h1)
    · exact (Kn.hd h h1).set i u
  · intro b hb
    rcases hsp b hb with ⟨h1, _⟩ | ⟨t, cs, h1, rfl⟩
    · exact h.new b h1
    · exact h.new (g, .cells cs t) h1
theorem Kn.put {i : Nat} {u : Value} (hu : Upd g i u s s') (h : Kn B F s w) : Kn B F s' (w.setCell ⟨g, i, none⟩ u) := h.set hu
theorem Kn.cellB (h : Kn B F s w) {k : Nat} (hk : k < B.heap.size) (hF : k ∉ F) (i : Nat) : w.cell? ⟨k, i, none⟩ = B.cell? ⟨k, i, none⟩ :=
  World.cell?_of_block (w := B) (h.old k hk hF)
theorem Kn.hdB (h : Kn B F s w) (hd : Hd B g t cs) (hF : g ∉ F) : Hd w g t cs := (h.old g hd.lt hF).trans hd
end
abbrev FR (R : Option Nat) : Fence := { Fence.wide with round := R }
section
variable {R : Option Nat} {P : Program} {Q : Exit → Act → World → Prop} {B : World} {F : List Nat} {a : Act} {s : List Blk}
def Wk (R : Option Nat) (P : Program) (B : World) (F : List Nat) (Q : Exit → Act → World → Prop) (a : Act) (s : List Blk) (c : Code) : Prop := ∀ w, Kn B F s w → c.wpIn (FR R) 0 P Q a w
def Ek (B : World) (F : List Nat) (Q : Exit → Act → World → Prop) (e : Exit) (a : Act) (s : List Blk) : Prop := ∀ w, Kn B F s w → Q e a w
theorem wk_start {c : Code} {w : World} (h : Wk none P w [] Q a [] c) : c.wp P Q a w := wpIn_wide.1 (h w (Kn.start w))
theorem wk_startF {c : Code} {w : World} {s : List Blk} {F : List Nat} (K : Kn w F s w) (h : Wk none P w F Q a s c) : c.wp P Q a w := wpIn_wide.1 (h w K)
theorem wk_sub {c : Code} {s' : List Blk} (hs : s'.Sublist s) (h : Wk R P B F Q a s' c) : Wk R P B F Q a s c := fun w K => h w (K.sub hs)
theorem wk_seq {x y : Code} (h : Wk R P B F (Exit.then (y.wpIn (FR R) 0 P Q) Q) a s x) : Wk R P B F Q a s (.seq x y) := fun w K => wpIn_seq (h w K)
theorem wk_block {id : Nat} {c : Code} (h : Wk R P B F (Exit.inBlock id Q) a s c) : Wk R P B F Q a s (.block id c) := fun w K => wpIn_block (h w K)
theorem wk_skip (h : Ek B F Q .normal a s) : Wk R P B F Q a s .skip := fun w K => wpIn_skip (h w K)
theorem wk_ret (h : Ek B F Q .ret a s) : Wk R P B F Q a s .ret := fun w K => wpIn_ret (h w K)
theorem wk_exit {id : Nat} (h : Ek B F Q (.exit id) a s) : Wk R P B F Q a s (.exit id) := fun w K => wpIn_exit (h w K)
theorem wk_cond {c : Operand} {x y : Code} {t : Bool} (hc : a.eval c = .bool t) (ht : t = true → Wk R P B F Q a s x) (hf : t = false → Wk R P B F Q a s y) :
    Wk R P B F Q a s (.cond c x y) := fun w K => wpIn_cond_split hc (fun h => ht h w K) (fun h => hf h w K)
theorem wk_cond_t {c : Operand} {x y : Code} (hc : a.eval c = .bool true) (h : Wk R P B F Q a s x) : Wk R P B F Q a s (.cond c x y) := fun w K => wpIn_cond_true hc (h w K)
theorem wk_cond_f {c : Operand} {x y : Code} (hc : a.eval c = .bool false) (h : Wk R P B F Q a s y) : Wk R P B F Q a s (.cond c x y) := fun w K => wpIn_cond_false hc (h w K)
theorem ek_next {y : Code} (h : Wk R P B F Q a s y) : Ek B F (Exit.then (y.wpIn (FR R) 0 P Q) Q) .normal a s := h
theorem ek_then_ret {K : Act → World → Prop} (h : Ek B F Q .ret a s) : Ek B F (Exit.then K Q) .ret a s := h
theorem ek_then_exit {K : Act → World → Prop} {id : Nat} (h : Ek B F Q (.exit id) a s) : Ek B F (Exit.then K Q) (.exit id) a s := h
theorem ek_block {id : Nat} (h : Ek B F Q .normal a s) : Ek B F (Exit.inBlock id Q) .normal a s := h
theorem ek_block_ret {id : Nat} (h : Ek B F Q .ret a s) : Ek B F (Exit.inBlock id Q) .ret a s := h
theorem ek_block_exit {id : Nat} (h : Ek B F Q .normal a s) : Ek B F (Exit.inBlock id Q) (.exit id) a s := fun w K => by simp only [Exit.inBlock, if_true]; exact h w K
def Mid (B : World) (F : List Nat) (M : Act → List Blk → Prop) (a : Act) (w : World) : Prop := ∃ s, Kn B F s w ∧ M a s
theorem ek_mid {M : Act → List Blk → Prop} (h : M a s) : Ek B F (Exit.then (Mid B F M) Q) .normal a s := fun _ K => ⟨s, K, h⟩
theorem wk_cut {x y : Code} (M : Act → List Blk → Prop) (h1 : Wk R P B F (Exit.then (Mid B F M) Q) a s x) (h2 : ∀ a s, M a s → Wk R P B F Q a s y) : Wk R P B F Q a s (.seq x y) :=
  wk_seq fun w K => wpIn_mono (h1 w K) fun e a' w' h => by
    cases e with
    | normal => obtain ⟨s', K', hM⟩ := h; exact h2 a' s' hM w' K'
    | _ => exact h
theorem least_nat (p : Nat → Prop) (h : ∃ n, p n) : ∃ n, p n ∧ ∀ m, p m → n ≤ m := by
  obtain ⟨n, hn⟩ := h
  induction n using Nat.strongRecOn with
  | _ n ih =>
    by_cases hx : ∃ m, m < n ∧ p m
    · obtain ⟨m, hm, hp⟩ := hx; exact ih m hm hp
    · exact ⟨n, hn, fun m hm => Nat.le_of_not_lt fun hlt => hx ⟨m, hlt, hm⟩⟩
def Rnd (B : World) (F : List Nat) (I : Nat → Act → List Blk → Prop) (n : Nat) (a : Act) (w : World) : Prop := ∃ m s, m < n ∧ Kn B F s w ∧ I m a s
theorem ek_round {I : Nat → Act → List Blk → Prop} {n : Nat} (m : Nat) (hm : m < n) (h : I m a s) : Ek B F (Exit.then (Rnd B F I n) Q) .normal a s := fun _ K => ⟨m, s, hm, K, h⟩
theorem wk_loop {c : Code} (I : Nat → Act → List Blk → Prop) (n : Nat) (h0 : I n a s)
    (round : ∀ n a s, I n a s → Wk R P B F (Exit.then (Rnd B F I n) Q) a s c) : Wk R P B F Q a s (.loop c) := by
  intro w K
  classical
  let p : Act → World → Nat → Prop := fun a w n => ∃ s, Kn B F s w ∧ I n a s
  let μ : Act → World → Nat := fun a w => if h : ∃ n, p a w n then Classical.choose (least_nat _ h) else 0
  have hμ : ∀ a w n, p a w n → p a w (μ a w) ∧ μ a w ≤ n := by
    intro a w n hp
    have h : ∃ n, p a w n := ⟨n, hp⟩
    have hs := Classical.choose_spec (least_nat _ h)
    simp only [μ, dif_pos h]
    exact ⟨hs.1, hs.2 n hp⟩
  refine wpIn_loop (fun a w => ∃ n, p a w n) μ ⟨n, s, K, h0⟩ ?_
  rintro a w ⟨n, hp⟩
  obtain ⟨⟨s, K, hI⟩, _⟩ := hμ a w n hp
  refine wpIn_mono (round _ a s hI w K) fun e a' w' h => ?_
  cases e with
  | normal =>
    obtain ⟨m, s', hm, K', hI'⟩ := h
    exact ⟨⟨m, s', K', hI'⟩, Nat.lt_of_le_of_lt (hμ a' w' m ⟨s', K', hI'⟩).2 hm⟩
  | _ => exact h
end
section
variable {R : Option Nat} {P : Program} {Q : Exit → Act → World → Prop} {B : World} {F : List Nat} {a : Act} {s : List Blk}
def Act.puts (a : Act) (W : List Nat) (vs : List Value) : Act := ⟨(W.zip vs).foldl (fun t p => t.setIfInBounds p.1 p.2) a.tmps, a.defers⟩
def Act.vals (a : Act) (W : List Nat) : List Value := W.map fun k => a.tmps.getD k undef
def RelS (W : List Nat) (a0 : Act) (J : Nat → List Value → List Blk → Prop) : Nat → Act → List Blk → Prop := fun n a s => ∃ vs, a = Act.puts a0 W vs ∧ J n vs s
theorem wk_loopS {c : Code} (W : List Nat) (J : Nat → List Value → List Blk → Prop) (n : Nat) (h0 : J n (Act.vals a W) s) (ha : a = Act.puts a W (Act.vals a W))
    (round : ∀ n vs s, J n vs s → Wk R P B F (Exit.then (Rnd B F (RelS W a J) n) Q) (Act.puts a W vs) s c) : Wk R P B F Q a s (.loop c) :=
  wk_loop (RelS W a J) n ⟨_, ha, h0⟩ fun n a' s' h => by
    obtain ⟨vs, rfl, hJ⟩ := h
    exact round n vs s' hJ
theorem ek_roundS {W : List Nat} {a0 : Act} {J : Nat → List Value → List Blk → Prop} {n : Nat} (m : Nat) (hm : m < n) (ha : a = Act.puts a0 W (Act.vals a W)) (h : J m (Act.vals a W) s) :
    Ek B F (Exit.then (Rnd B F (RelS W a0 J) n) Q) .normal a s := ek_round m hm ⟨_, ha, h⟩
theorem ek_sub {x : Exit} {s' : List Blk} (hs : s'.Sublist s) (h : Ek B F Q x a s') : Ek B F Q x a s := fun w K => h w (K.sub hs)
theorem wk_unroll {c : Code} (n : Nat) (h : Wk R P B F (Exit.then (Code.roundsIn (FR R) 0 P c Q n) Q) a s c) : Wk R P B F Q a s (.loop c) :=
  fun w K => wpIn_loop_rounds (n + 1) (by rw [roundsIn_succ]; exact h w K)
theorem ek_again {c : Code} {n : Nat} (h : Wk R P B F (Exit.then (Code.roundsIn (FR R) 0 P c Q n) Q) a s c) : Ek B F (Exit.then (Code.roundsIn (FR R) 0 P c Q (n + 1)) Q) .normal a s :=
  fun w K => by show Code.roundsIn (FR R) 0 P c Q (n + 1) a w; rw [roundsIn_succ]; exact h w K
end
section
variable {R : Option Nat} {P : Program} {ops : Array Oper} {Q : Exit → Act → World → Prop} {B : World} {F : List Nat} {s0 : Option (List Blk × List Blk)}
def hop (P : Program) (ops : Array Oper) (Q : Exit → Act → World → Prop) (K : Act → World → Prop) (o : Oper) (a : Act) (w : World) : Prop :=
  if Region.wanted o (yielded ops a.tmps) then o.wp P a w K Q else K (a.put o.dst undef) w
def hopR (R : Option Nat) (P : Program) (ops : Array Oper) (Q : Exit → Act → World → Prop) (K : Act → World → Prop) (o : Oper) (a : Act) (w : World) : Prop :=
  Region.wanted o (yielded ops a.tmps) = true ∧ o.uponIn (FR R) 0 P a K Q ((execOp a.eval o).run P w)
def zOf (s0 : Option (List Blk × List Blk)) (s : List Blk) : List Blk := match s0 with | none => s | some z => z.1
def yOf (s0 : Option (List Blk × List Blk)) (s : List Blk) : List Blk := match s0 with | none => s | some z => z.2
def Rg (R : Option Nat) (P : Program) (ops : Array Oper) (Q : Exit → Act → World → Prop) (B : World) (F : List Nat) : Option (List Blk × List Blk) → List (Oper × Nat) → Act → List Blk → Prop
  | _, [], a, s => Ek B F Q .normal a s
  | s0, (o, 0) :: l, a, s => ∃ v, YieldsIf P ops (Kn B F (zOf s0 s)) o v a ∧ Rg R P ops Q B F s0 l (a.put o.dst v) s
  | s0, (o, 1) :: l, a, s =>
    (∀ w, Kn B F s w → hop P ops Q (fun a' w' => ∃ s', Kn B F s' w' ∧ (∀ z ∈ s0, z.1.Sublist s') ∧ Rg R P ops Q B F s0 l a' s') o a w) ∨
    (s0 = none ∧ ∀ w, Kn B F s w → hopR R P ops Q (fun a' w' => ∃ s', Kn B F s' w' ∧ Rg R P ops Q B F s0 l a' s') o a w)
  | s0, (o, 2) :: l, a, s => ∃ z, s0 = some z ∧ ∀ w, Kn B F s w → hop P ops Q (fun a' w' => ∃ s', Kn B F s' w' ∧ z.2.Sublist s' ∧ Rg R P ops Q B F (some (z.2, z.2)) l a' s') o a w
  | s0, (o, _ + 3) :: l, a, s => ∃ v, YieldsIf P ops (Kn B F (yOf s0 s)) o v a ∧ Rg R P ops Q B F s0 l (a.put o.dst v) s
theorem hop_mono {K K' : Act → World → Prop} {o : Oper} {a : Act} {w : World} (hk : ∀ a w, K a w → K' a w) (h : hop P ops Q K o a w) : hop P ops Q K' o a w := by
  unfold hop at *
  split
  · rename_i hw; rw [if_pos hw] at h; exact Oper.wp_mono hk h
  · rename_i hw; rw [if_neg hw] at h; exact hk _ _ h
theorem hop_list {K : Act → World → Prop} {o : Oper} {a : Act} {w : World} (h : hop P ops Q K o a w) : wpList P ops (Exit.then K Q) [o] a w := by
  unfold hop at h
  unfold wpList
  split
  · rename_i hw
    rw [if_pos hw] at h
    refine .inl ?_
    unfold Oper.wp at *
    generalize (execOp a.eval o).run P w = r at *
    cases r with
    | ok n w' =>
      cases n <;> simp only [Oper.upon] at h ⊢ <;>
        first
          | exact h
          | exact Calls.mono h (fun e w'' he => by cases e <;> first | exact he | (obtain ⟨a₀, w₀, h₀⟩ := he; exact ⟨a₀, w₀, h₀⟩))
    | halt x w' => cases x <;> simp only [Oper.upon] at h ⊢ <;> exact h
  · rename_i hw
    rw [if_neg hw] at h
    exact h
def noDefer (l : List Oper) : Bool := l.all fun o => match o.op with | .defer _ => false | _ => true
theorem semAt_exec {o : Oper} (h : (match o.op with | .defer _ => false | _ => true) = true) (ρ : Operand → Value) : o.semAt R ρ = execOp ρ o := by
  cases R with
  | none => rfl
  | some l => exact Oper.semAt_some l ρ o (fun c hc => by rw [hc] at h; cases h)
theorem calls_FR {f : Nat} {args : Array Value} {w : World} {X : Ending → World → Prop} (h : Calls P f args w X) : CallsIn (FR R) 0 P f args w X := callsIn_wide.2 h
theorem callsIn_FR {f : Nat} {args : Array Value} {w : World} {X : Ending → World → Prop} {n : Nat} (h : CallsIn (FR R) n P f args w X) : Calls P f args w X := callsIn_wide.1 h
theorem rows_FR {f : String} {args : Array Value} {w : World} {X : Value → World → Prop} (h : Rows P f args w X) : RowsIn (FR R) 0 P f args w X :=
  fun c cs _ => let ⟨v, w', r, st⟩ := h c cs; ⟨v, w', r, stepsIn_wide.2 st⟩
theorem hop_in {K : Act → World → Prop} {o : Oper} {l : List Oper} {a : Act} {w : World} (hd : noDefer (o :: l) = true) (h : hop P ops Q K o a w) (hK : ∀ a w, K a w → wpListIn (FR R) 0 P ops Q l a w) :
    wpListIn (FR R) 0 P ops Q (o :: l) a w := by
  have hd1 : (match o.op with | .defer _ => false | _ => true) = true := by simp only [noDefer, List.all_cons, Bool.and_eq_true] at hd; exact hd.1
  unfold hop at h
  unfold wpListIn
  split
  · rename_i hw
    rw [if_pos hw] at h
    refine ⟨fun _ _ => trivial, ?_⟩
    have hsem : o.semAt (FR R).round a.eval = execOp a.eval o := semAt_exec (R := R) hd1 _
    rw [hsem]
    unfold Oper.wp at h
    generalize (execOp a.eval o).run P w = r at *
    cases r with
    | ok n w' =>
      cases n <;> simp only [Oper.upon, Oper.uponIn] at h ⊢ <;>
        first
          | exact hK _ _ h
          | exact ⟨(fun hh => nomatch hh), calls_FR (h.mono fun e w'' he => by cases e <;> first | exact hK _ _ he | exact he)⟩
          | exact ⟨(fun hh => nomatch hh), rows_FR (h.mono fun _ _ he => hK _ _ he)⟩
    | halt x w' => cases x <;> simp only [Oper.upon, Oper.uponIn] at h ⊢ <;> exact h
  · rename_i hw
    rw [if_neg hw] at h
    exact ⟨fun _ _ => trivial, hK _ _ h⟩
theorem hopR_in {K : Act → World → Prop} {o : Oper} {l : List Oper} {a : Act} {w : World} (hd : noDefer (o :: l) = true) (h : hopR R P ops Q K o a w) (hK : ∀ a w, K a w → wpListIn (FR R) 0 P ops Q l a w) :
    wpListIn (FR R) 0 P ops Q (o :: l) a w := by
  have hd1 : (match o.op with | .defer _ => false | _ => true) = true := by simp only [noDefer, List.all_cons, Bool.and_eq_true] at hd; exact hd.1
  obtain ⟨hw, h⟩ := h
  unfold wpListIn
  rw [if_pos hw]
  refine ⟨fun _ _ => trivial, ?_⟩
  have hsem : o.semAt (FR R).round a.eval = execOp a.eval o := semAt_exec (R := R) hd1 _
  rw [hsem]
  generalize (execOp a.eval o).run P w = r at *
  cases r with
  | ok n w' =>
    cases n <;> simp only [Oper.uponIn] at h ⊢ <;>
      first
        | exact hK _ _ h
        | exact h
        | exact ⟨h.1, h.2.mono fun e w'' he => by cases e <;> first | exact hK _ _ he | exact he⟩
        | exact ⟨h.1, h.2.mono fun _ _ he => hK _ _ he⟩
  | halt x w' => cases x <;> simp only [Oper.uponIn] at h ⊢ <;> exact h
theorem rg_text : ∀ (l : List (Oper × Nat)) (a : Act) (s : List Blk), noDefer (l.map (·.1)) = true → Rg R P ops Q B F none l a s → ∀ w, Kn B F s w → wpListIn (FR R) 0 P ops Q (l.map (·.1)) a w
  | [], _, _, _, h, w, K => h w K
  | (o, 0) :: l, a, s, hd, ⟨v, hy, h⟩, w, K => by
    have hd2 : noDefer (l.map (·.1)) = true := by simp only [noDefer, List.map_cons, List.all_cons, Bool.and_eq_true] at hd; exact hd.2
    simp only [List.map_cons] at hd ⊢
    refine hop_in (K := fun a' w' => a' = a.put o.dst v ∧ w' = w) hd ?_ (fun a' w' ⟨ha, hw⟩ => by subst ha hw; exact rg_text l _ s hd2 h _ K)
    unfold hop
    rcases hy with ⟨hw, hv⟩ | ⟨hw, rfl⟩
    · rw [if_pos hw]; unfold Oper.wp; rw [hv w K]; exact ⟨rfl, rfl⟩
    · rw [if_neg (by simp [hw])]; exact ⟨rfl, rfl⟩
  | (o, 1) :: l, a, s, hd, h, w, K => by
    have hd2 : noDefer (l.map (·.1)) = true := by simp only [noDefer, List.map_cons, List.all_cons, Bool.and_eq_true] at hd; exact hd.2
    simp only [List.map_cons] at hd ⊢
    rcases h with h | ⟨_, h⟩
    · exact hop_in hd (h w K) (fun a' w' ⟨s', K', _, h'⟩ => rg_text l a' s' hd2 h' w' K')
    · exact hopR_in hd (h w K) (fun a' w' ⟨s', K', h'⟩ => rg_text l a' s' hd2 h' w' K')
  | (o, 2) :: l, a, s, hd, h, w, K => by obtain ⟨z, hz, _⟩ := h; cases hz
  | (o, n + 3) :: l, a, s, hd, ⟨v, hy, h⟩, w, K => by
    have hd2 : noDefer (l.map (·.1)) = true := by simp only [noDefer, List.map_cons, List.all_cons, Bool.and_eq_true] at hd; exact hd.2
    simp only [List.map_cons] at hd ⊢
    refine hop_in (K := fun a' w' => a' = a.put o.dst v ∧ w' = w) hd ?_ (fun a' w' ⟨ha, hw⟩ => by subst ha hw; exact rg_text l _ s hd2 h _ K)
    unfold hop
    rcases hy with ⟨hw, hv⟩ | ⟨hw, rfl⟩
    · rw [if_pos hw]; unfold Oper.wp; rw [hv w K]; exact ⟨rfl, rfl⟩
    · rw [if_neg (by simp [hw])]; exact ⟨rfl, rfl⟩
theorem wpOp_of_list1 {K : Act → World → Prop} {i : Nat} {a : Act} {w : World} {o : Oper} (ho : ops[i]? = some o) (h : hop P ops Q K o a w) : wpOp P ops Q i K a w := by
  unfold wpOp
  simp only [ho]
  unfold hop at h
  split
  · rename_i hw; rw [if_pos hw] at h; exact .inl h
  · rename_i hw; rw [if_neg hw] at h; exact h
theorem rg_eag (lo : List Oper) (hlo : ops = lo.toArray) (mk : Nat) : ∀ (ord : List (Nat × Nat)) (z : List Blk × List Blk) (a : Act) (s : List Blk) (m : List (Nat × (World → Prop))),
    (m = [(mk, Kn B F z.2)] ∨ (m = [] ∧ z.1 = z.2 ∧ ∀ p ∈ ord, p.2 ≠ 2)) → (ord.map (·.2)).filter (· == 2) = (if m = [] then [] else [2]) →
    (ord.all fun p => decide (p.1 < lo.length)) = true → Rg R P ops Q B F (some z) (ord.map fun p => (lo.getD p.1 default, p.2)) a s → ∀ w, Kn B F s w → wpEagF P ops Q (Kn B F z.2) ord m (Kn B F z.1) a w
  | [], _, _, _, _, _, _, _, h, w, K => h w K
  | (i, 0) :: l, z, a, s, m, hm, hf, hi, ⟨v, hy, h⟩, w, K => by
    simp only [List.all_cons, Bool.and_eq_true, decide_eq_true_eq] at hi
    have ho : ops[i]? = some (lo.getD i default) := by subst hlo; simp [List.getD_eq_getElem?_getD, hi.1]
    exact ⟨_, v, ho, hy, rg_eag lo hlo mk l z _ s m (hm.imp id fun ⟨x, y, q⟩ => ⟨x, y, fun p hp => q p (by simp [hp])⟩) (by simpa using hf) (by simpa using hi.2) h w K⟩
  | (i, n + 3) :: l, z, a, s, m, hm, hf, hi, ⟨v, hy, h⟩, w, K => by
    simp only [List.all_cons, Bool.and_eq_true, decide_eq_true_eq] at hi
    have ho : ops[i]? = some (lo.getD i default) := by subst hlo; simp [List.getD_eq_getElem?_getD, hi.1]
    exact ⟨_, v, ho, hy, rg_eag lo hlo mk l z _ s m (hm.imp id fun ⟨x, y, q⟩ => ⟨x, y, fun p hp => q p (by simp [hp])⟩) (by simpa [show (n + 3 == 2) = false from by simp] using hf) (by simpa using hi.2) h w K⟩
  | (i, 1) :: l, z, a, s, m, hm, hf, hi, h, w, K => by
    simp only [List.all_cons, Bool.and_eq_true, decide_eq_true_eq] at hi
    have ho : ops[i]? = some (lo.getD i default) := by subst hlo; simp [List.getD_eq_getElem?_getD, hi.1]
    rcases h with h | ⟨hn, _⟩
    · exact wpOp_of_list1 ho (hop_mono (fun a' w' ⟨s', K', hz, h'⟩ => ⟨K'.sub (hz z rfl), rg_eag lo hlo mk l z a' s' m (hm.imp id fun ⟨x, y, q⟩ => ⟨x, y, fun p hp => q p (by simp [hp])⟩) (by simpa using hf) (by simpa using hi.2) h' w' K'⟩) (h w K))
    · cases hn
  | (i, 2) :: l, z, a, s, m, hm, hf, hi, h, w, K => by
    simp only [List.all_cons, Bool.and_eq_true, decide_eq_true_eq] at hi
    have ho : ops[i]? = some (lo.getD i default) := by subst hlo; simp [List.getD_eq_getElem?_getD, hi.1]
    rcases hm with rfl | ⟨rfl, _, q⟩
    · obtain ⟨z', hz', h⟩ := h
      cases hz'
      have h4 : (l.map (·.2)).filter (· == 2) = [] := by
        have := hf
        simp at this
        simpa using this
      have hl1 : ∀ p ∈ l, p.2 ≠ 2 := fun p hp e => by
        have : p.2 ∈ (l.map (·.2)).filter (· == 2) := List.mem_filter.2 ⟨List.mem_map.2 ⟨p, hp, rfl⟩, by simp [e]⟩
        rw [h4] at this; cases this
      show wpOp P ops Q i (fun a' w' => Kn B F z.2 w' ∧ wpEagF P ops Q (Kn B F z.2) l [] (Kn B F z.2) a' w') a w
      exact wpOp_of_list1 ho (hop_mono (fun a' w' ⟨s', K', hz, h'⟩ => ⟨K'.sub hz, rg_eag lo hlo mk l (z.2, z.2) a' s' [] (.inr ⟨rfl, rfl, hl1⟩) (by rw [if_pos rfl]; exact h4) (by simpa using hi.2) h' w' K'⟩) (h w K))
    · exact absurd rfl (q (i, 2) (by simp))
theorem wk_region {id : Nat} {a : Act} {s : List Blk} {l : List Oper} (f : List Nat) (hf : f.length = l.length) (hd : noDefer l = true)
    (h : Rg R P l.toArray Q B F none (l.zip f) a s) : Wk R P B F Q a s (Code.region id l.toArray false) := fun w K =>
  wpIn_region_lit (by have := rg_text (l.zip f) a s (by rw [List.map_fst_zip (by omega)]; exact hd) h w K; rwa [List.map_fst_zip (by omega)] at this)
theorem wk_draws {id : Nat} {a : Act} {s : List Blk} {l : List Oper} (z z1 : List Blk) (ord : List (Nat × Nat)) (mk : List Nat) (hm : P.follows .mixedOrders = true)
    (hB : ((Region.noSelect l.toArray && (decide (ord.length = l.length) && eagF .any l.toArray ord mk (Array.replicate l.length false))) &&
      ((ord.all fun p => decide (p.1 < l.length)) && (decide (mk.length ≤ 1) && decide ((ord.map (·.2)).filter (· == 2) = mk.map fun _ => 2)))) = true)
    (hQ : ∀ c d v a w, Q (.panic c) (Act.put a d v) w → Q (.panic c) a w) (hz : z.Sublist s) (hzz : mk = [] → z = z1)
    (h : Rg none P l.toArray Q B F (some (z, z1)) (ord.map fun p => (l.getD p.1 default, p.2)) a s) (hy : z1.Sublist z := by exact List.Sublist.refl _) : Wk none P B F Q a s (Code.region id l.toArray true) := fun w K => by
  simp only [Bool.and_eq_true, decide_eq_true_eq, List.all_eq_true] at hB
  obtain ⟨hB1, h1, h3, h4⟩ := hB
  refine wpIn_wide.2 ?_
  match mk, h3, h4, hB1, hzz with
  | [], _, h4, hB1, hzz =>
    refine wp_region_eagF [] (Kn B F z) ord hm (by simp only [Bool.and_eq_true, decide_eq_true_eq]; exact hB1) hQ (K.drew.sub hz) (fun w K => K.sub hy) (fun x hx => nomatch hx) ?_
    refine rg_eag l rfl 0 ord (z, z1) a s [] (.inr ⟨rfl, hzz rfl, fun p hp e => ?_⟩) (by rw [if_pos rfl]; exact h4) (by simpa [List.all_eq_true] using h1) h w.drew K.drew
    have : p.2 ∈ (ord.map (·.2)).filter (· == 2) := List.mem_filter.2 ⟨List.mem_map.2 ⟨p, hp, rfl⟩, by simp [e]⟩
    rw [h4] at this; cases this
  | [x], _, h4, hB1, _ =>
    refine wp_region_eagF [(x, Kn B F z1)] (Kn B F z) ord hm (by simp only [Bool.and_eq_true, decide_eq_true_eq]; exact hB1) hQ (K.drew.sub hz) (fun w K => K.sub hy) (fun x hx w K => by simp only [List.mem_singleton] at hx; subst hx; exact K) ?_
    exact rg_eag l rfl x ord (z, z1) a s [(x, Kn B F z1)] (.inl rfl) (by rw [if_neg (by simp)]; exact h4) (by simpa [List.all_eq_true] using h1) h w.drew K.drew
  | _ :: _ :: _, h3, _, _, _ => simp at h3
theorem wk_draws_m {id : Nat} {a : Act} {s z1 : List Blk} (hz1 : z1.Sublist s) {l : List Oper} (ord : List (Nat × Nat)) (mk : Nat) (hm : P.follows .mixedOrders = true)
    (hB : ((Region.noSelect l.toArray && (decide (ord.length = l.length) && eagF .any l.toArray ord [mk] (Array.replicate l.length false))) &&
      ((ord.all fun p => decide (p.1 < l.length)) && (decide ([mk].length ≤ 1) && decide ((ord.map (·.2)).filter (· == 2) = [mk].map fun _ => 2)))) = true)
    (hQ : ∀ c d v a w, Q (.panic c) (Act.put a d v) w → Q (.panic c) a w)
    (h : Rg none P l.toArray Q B F (some (s, z1)) (ord.map fun p => (l.getD p.1 default, p.2)) a s) : Wk none P B F Q a s (Code.region id l.toArray true) :=
  wk_draws s z1 ord [mk] hm hB hQ (List.Sublist.refl _) (fun e => nomatch e) h hz1
def isGo (P : Program) (f : Nat) : Bool := match P.funcs[f]? with | some fn => !(fn.name == "runtime.NumGoroutine") && !fn.body.isNone | none => false
theorem run_callFunc_go {f : Nat} (h : isGo P f = true) (args : Array Value) (w : World) : (callFunc f args).run P w = .ok (.enter f args) w := by
  unfold isGo at h
  cases hf : P.funcs[f]? with
  | none => rw [hf] at h; cases h
  | some fn =>
    rw [hf] at h
    simp only [Bool.and_eq_true, Bool.not_eq_true'] at h
    have h1 : ¬ fn.name = "runtime.NumGoroutine" := by simpa using h.1
    have h2 : ¬ fn.body = none := fun e => by rw [e] at h; exact absurd h.2 (by simp)
    simp [callFunc, go_sem, hf, h1, h2]
section
variable {l : List (Oper × Nat)} {a : Act} {s : List Blk} {d : Option Tmp} {op : Op} {t : TypeId} {p : String} {af : Array Edge} {v : Value}
def Yld (r : Result Next) (v : Value) (w : World) : Prop := r = .ok (.value v) w
theorem Yld.mk (v : Value) (w : World) : Yld (.ok (.value v) w) v w := rfl
def Dne (r : Result Next) (w : World) : Prop := r = .ok .skip w
theorem Dne.mk (w : World) : Dne (.ok .skip w) w := rfl
theorem rg_nil (h : Ek B F Q .normal a s) : Rg R P ops Q B F s0 [] a s := h
theorem rg_soft (hy : ∀ w, Kn B F (zOf s0 s) w → Yld ((execOp a.eval ⟨d, op, t, p, af, none⟩).run P w) v w) (h : Rg R P ops Q B F s0 l (a.put d v) s) :
    Rg R P ops Q B F s0 ((⟨d, op, t, p, af, none⟩, 0) :: l) a s := ⟨v, .inl ⟨by simp [Region.wanted], hy⟩, h⟩
theorem rg_move {x : Operand} (h : Rg R P ops Q B F s0 l (a.put d (a.eval x)) s) : Rg R P ops Q B F s0 ((⟨d, .move x, t, p, af, none⟩, 0) :: l) a s :=
  rg_soft (fun w _ => BigFrame.run_move x rfl w) h
theorem rg_assign {x : Operand} (h : Rg R P ops Q B F s0 l (a.put d (a.eval x)) s) : Rg R P ops Q B F s0 ((⟨d, .assign x, t, p, af, none⟩, 0) :: l) a s :=
  rg_soft (fun w _ => BigFrame.run_assign x rfl w) h
theorem rg_soft_g {g : Nat × Bool} (hg : Region.wanted ⟨d, op, t, p, af, some g⟩ (yielded ops a.tmps) = true)
    (hy : ∀ w, Kn B F (zOf s0 s) w → Yld ((execOp a.eval ⟨d, op, t, p, af, some g⟩).run P w) v w) (h : Rg R P ops Q B F s0 l (a.put d v) s) :
    Rg R P ops Q B F s0 ((⟨d, op, t, p, af, some g⟩, 0) :: l) a s := ⟨v, .inl ⟨hg, hy⟩, h⟩
theorem rg_skip {g : Nat × Bool} (hg : Region.wanted ⟨d, op, t, p, af, some g⟩ (yielded ops a.tmps) = false)
    (h : Rg R P ops Q B F s0 l (a.put d undef) s) : Rg R P ops Q B F s0 ((⟨d, op, t, p, af, some g⟩, 0) :: l) a s := ⟨undef, .inr ⟨hg, rfl⟩, h⟩
theorem rg_softP (hy : ∀ w, Kn B F (yOf s0 s) w → Yld ((execOp a.eval ⟨d, op, t, p, af, none⟩).run P w) v w) (h : Rg R P ops Q B F s0 l (a.put d v) s) :
    Rg R P ops Q B F s0 ((⟨d, op, t, p, af, none⟩, 3) :: l) a s := ⟨v, .inl ⟨by simp [Region.wanted], hy⟩, h⟩
theorem rg_moveP {x : Operand} (h : Rg R P ops Q B F s0 l (a.put d (a.eval x)) s) : Rg R P ops Q B F s0 ((⟨d, .move x, t, p, af, none⟩, 3) :: l) a s :=
  rg_softP (fun w _ => BigFrame.run_move x rfl w) h
theorem rg_softb {b : Bool} (hy : ∀ w, Kn B F (zOf s0 s) w → Yld ((execOp a.eval ⟨d, op, t, p, af, none⟩).run P w) (.bool b) w) (h : ∀ x, b = x → Rg R P ops Q B F s0 l (a.put d (.bool x)) s) :
    Rg R P ops Q B F s0 ((⟨d, op, t, p, af, none⟩, 0) :: l) a s := rg_soft hy (h b rfl)
theorem rg_softb_g {b : Bool} {g : Nat × Bool} (hg : Region.wanted ⟨d, op, t, p, af, some g⟩ (yielded ops a.tmps) = true)
    (hy : ∀ w, Kn B F (zOf s0 s) w → Yld ((execOp a.eval ⟨d, op, t, p, af, some g⟩).run P w) (.bool b) w) (h : ∀ x, b = x → Rg R P ops Q B F s0 l (a.put d (.bool x)) s) :
    Rg R P ops Q B F s0 ((⟨d, op, t, p, af, some g⟩, 0) :: l) a s := rg_soft_g hg hy (h b rfl)
theorem rg_run {g : Option (Nat × Bool)} (hg : Region.wanted ⟨d, op, t, p, af, g⟩ (yielded ops a.tmps) = true)
    (h : ∀ w, Kn B F s w → ∃ v w' s', ((execOp a.eval ⟨d, op, t, p, af, g⟩).run P w = .ok (.value v) w' ∨ (v = undef ∧ (execOp a.eval ⟨d, op, t, p, af, g⟩).run P w = .ok .skip w')) ∧ Kn B F s' w' ∧ (∀ z ∈ s0, z.1.Sublist s') ∧ Rg R P ops Q B F s0 l (a.put d v) s') :
    Rg R P ops Q B F s0 ((⟨d, op, t, p, af, g⟩, 1) :: l) a s := by
  refine .inl fun w K => ?_
  obtain ⟨v, w', s', hr, K', hz, h'⟩ := h w K
  unfold hop
  rw [if_pos hg]
  unfold Oper.wp
  rcases hr with hr | ⟨rfl, hr⟩ <;> rw [hr]
  · exact ⟨s', K', hz, h'⟩
  · exact ⟨s', K', hz, h'⟩
theorem rg_sub : ∀ {s0 : Option (List Blk × List Blk)} {l : List (Oper × Nat)} {a : Act} {s s' : List Blk}, s'.Sublist s → (∀ z ∈ s0, z.1.Sublist s') → Rg R P ops Q B F s0 l a s' → Rg R P ops Q B F s0 l a s
  | _, [], _, _, _, hs, _, h => fun w K => h w (K.sub hs)
  | s0, (o, 0) :: l, a, s, s', hs, hz, ⟨v, hy, h⟩ => ⟨v, (by
      cases s0 with
      | none => exact hy.imp (fun ⟨x, y⟩ => ⟨x, fun w K => y w (K.sub hs)⟩) id
      | some z => exact hy), rg_sub hs hz h⟩
  | s0, (o, 1) :: l, a, s, s', hs, hz, h => h.imp (fun h w K => h w (K.sub hs)) (fun ⟨e, h⟩ => ⟨e, fun w K => h w (K.sub hs)⟩)
  | s0, (o, 2) :: l, a, s, s', hs, hz, h => let ⟨z, e, h⟩ := h; ⟨z, e, fun w K => h w (K.sub hs)⟩
  | s0, (o, n + 3) :: l, a, s, s', hs, hz, ⟨v, hy, h⟩ => ⟨v, (by
      cases s0 with
      | none => exact hy.imp (fun ⟨x, y⟩ => ⟨x, fun w K => y w (K.sub hs)⟩) id
      | some z => exact hy), rg_sub hs hz h⟩
theorem rg_skip_h {g : Nat × Bool} (hg : Region.wanted ⟨d, op, t, p, af, some g⟩ (yielded ops a.tmps) = false) (hz : ∀ z ∈ s0, z.1.Sublist s)
    (h : Rg R P ops Q B F s0 l (a.put d undef) s) : Rg R P ops Q B F s0 ((⟨d, op, t, p, af, some g⟩, 1) :: l) a s :=
  .inl fun w K => by unfold hop; rw [if_neg (by simp [hg])]; exact ⟨s, K, hz, h⟩
theorem rg_new {cs : Array Value} {ty : Nat} {gd : Option (Nat × Bool)} (hg : Region.wanted ⟨d, op, t, p, af, gd⟩ (yielded ops a.tmps) = true) (hr : ∀ w : World, (execOp a.eval ⟨d, op, t, p, af, gd⟩).run P w = .ok (.value (.pointer (some ⟨w.heap.size, 0, none⟩))) (w.alloc (.cells cs ty)))
    (hz : ∀ z ∈ s0, z.1.Sublist s) (h : ∀ g, Rg R P ops Q B F s0 l (a.put d (.pointer (some ⟨g, 0, none⟩))) ((g, .cells cs ty) :: s)) :
    Rg R P ops Q B F s0 ((⟨d, op, t, p, af, gd⟩, 1) :: l) a s :=
  rg_run hg fun w K => ⟨_, _, _, .inl (hr w), K.alloc _, fun z hz' => (hz z hz').cons _, h _⟩
theorem rg_store {s' : List Blk} (hr : ∀ w, Kn B F s w → ∃ w', Dne ((execOp a.eval ⟨d, op, t, p, af, none⟩).run P w) w' ∧ Kn B F s' w')
    (hz : ∀ z ∈ s0, z.1.Sublist s') (h : Rg R P ops Q B F s0 l (a.put d undef) s') :
    Rg R P ops Q B F s0 ((⟨d, op, t, p, af, none⟩, 1) :: l) a s :=
  rg_run (by simp [Region.wanted]) fun w K => let ⟨w', h1, h2⟩ := hr w K; ⟨undef, w', s', .inr ⟨rfl, h1⟩, h2, hz, h⟩
theorem rg_storeM {z : List Blk × List Blk} {s' : List Blk} (hr : ∀ w, Kn B F s w → ∃ w', Dne ((execOp a.eval ⟨d, op, t, p, af, none⟩).run P w) w' ∧ Kn B F s' w')
    (hz : z.2.Sublist s') (h : Rg R P ops Q B F (some (z.2, z.2)) l (a.put d undef) s') :
    Rg R P ops Q B F (some z) ((⟨d, op, t, p, af, none⟩, 2) :: l) a s :=
  ⟨z, rfl, fun w K => by
    obtain ⟨w', h1, h2⟩ := hr w K
    unfold hop
    rw [if_pos (by simp [Region.wanted])]
    unfold Oper.wp
    rw [h1]
    exact ⟨s', h2, hz, h⟩⟩
theorem rg_call {f : Nat} {cargs : Array Operand} {at_ : Array TypeId} {args : Array Value} {gd : Option (Nat × Bool)} (hg : Region.wanted ⟨d, .call ⟨.value (.func f), cargs, at_⟩, t, p, af, gd⟩ (yielded ops a.tmps) = true) (hgo : isGo P f = true) (hargs : cargs.map a.eval = args)
    (h : ∀ w, Kn B F s w → Calls P f args w (fun e w' => ∃ v s', e = .returned v ∧ Kn B F s' w' ∧ (∀ z ∈ s0, z.1.Sublist s') ∧ Rg R P ops Q B F s0 l (a.put d v) s')) :
    Rg R P ops Q B F s0 ((⟨d, .call ⟨.value (.func f), cargs, at_⟩, t, p, af, gd⟩, 1) :: l) a s := by
  refine .inl fun w K => ?_
  unfold hop
  rw [if_pos hg]
  unfold Oper.wp
  have hr : (execOp a.eval ⟨d, .call ⟨.value (.func f), cargs, at_⟩, t, p, af, gd⟩).run P w = .ok (.enter f args) w := by
    have he : #[] ++ cargs.map a.eval ++ #[] = args := by simpa using hargs
    rw [execOp_call_go, he]
    exact run_callFunc_go hgo args w
  rw [hr]
  refine (h w K).mono fun e w' he => ?_
  obtain ⟨v, s', rfl, K', hz, h'⟩ := he
  exact ⟨s', K', hz, h'⟩
theorem rg_pure {f : Nat} {cargs : Array Operand} {at_ : Array TypeId} {args : Array Value} {v : Value} {gd : Option (Nat × Bool)} (hg : Region.wanted ⟨d, .call ⟨.value (.func f), cargs, at_⟩, t, p, af, gd⟩ (yielded ops a.tmps) = true) (hgo : isGo P f = true)
    (h : ∀ w, Kn B F s w → Calls P f args w (fun e w' => e = .returned v ∧ Below w.heap.size w w')) (hargs : cargs.map a.eval = args)
    (hz : ∀ z ∈ s0, z.1.Sublist s) (k : Rg R P ops Q B F s0 l (a.put d v) s) :
    Rg R P ops Q B F s0 ((⟨d, .call ⟨.value (.func f), cargs, at_⟩, t, p, af, gd⟩, 1) :: l) a s :=
  rg_call hg hgo hargs fun w K => (h w K).mono fun e w' ⟨he, hb⟩ => ⟨v, s, he, K.call hb, hz, k⟩
theorem rg_pureb {f : Nat} {cargs : Array Operand} {at_ : Array TypeId} {args : Array Value} {b : Bool} {gd : Option (Nat × Bool)} (hg : Region.wanted ⟨d, .call ⟨.value (.func f), cargs, at_⟩, t, p, af, gd⟩ (yielded ops a.tmps) = true) (hgo : isGo P f = true)
    (h : ∀ w, Kn B F s w → Calls P f args w (fun e w' => e = .returned (.bool b) ∧ Below w.heap.size w w')) (hargs : cargs.map a.eval = args)
    (hz : ∀ z ∈ s0, z.1.Sublist s) (k : ∀ x, b = x → Rg R P ops Q B F s0 l (a.put d (.bool x)) s) :
    Rg R P ops Q B F s0 ((⟨d, .call ⟨.value (.func f), cargs, at_⟩, t, p, af, gd⟩, 1) :: l) a s := rg_pure hg hgo h hargs hz (k b rfl)
theorem rg_made {f : Nat} {cargs : Array Operand} {at_ : Array TypeId} {args : Array Value} {T : Value → List Blk → Prop} {gd : Option (Nat × Bool)} (hg : Region.wanted ⟨d, .call ⟨.value (.func f), cargs, at_⟩, t, p, af, gd⟩ (yielded ops a.tmps) = true) (hgo : isGo P f = true)
    (h : ∀ w, Kn B F s w → Calls P f args w (fun e w' => ∃ v u, e = .returned v ∧ T v u ∧ Made w u w')) (hargs : cargs.map a.eval = args)
    (hz : ∀ z ∈ s0, z.1.Sublist s) (k : ∀ v u, T v u → Rg R P ops Q B F s0 l (a.put d v) (u ++ s)) :
    Rg R P ops Q B F s0 ((⟨d, .call ⟨.value (.func f), cargs, at_⟩, t, p, af, gd⟩, 1) :: l) a s :=
  rg_call hg hgo hargs fun w K => (h w K).mono fun e w' ⟨v, u, he, hT, hm⟩ => ⟨v, u ++ s, he, K.add hm, fun z hz' => (hz z hz').trans (List.sublist_append_right _ _), k v u hT⟩
end
theorem res_t {fn : Func} {tmps : Array Value} {w : World} (k : Nat) (h : fn.results = #[.tmp k]) : (results fn tmps).run P w = .ok (tmps.getD k undef) w := by
  simp [results, h]
theorem res_0 {fn : Func} {tmps : Array Value} {w : World} (h : fn.results = #[]) : (results fn tmps).run P w = .ok (.tuple #[]) w := by
  simp [results, h]
theorem res_tt {fn : Func} {tmps : Array Value} {w : World} (k j : Nat) (h : fn.results = #[.tmp k, .tmp j]) : (results fn tmps).run P w = .ok (.tuple #[tmps.getD k undef, tmps.getD j undef]) w := by
  simp [results, h]
theorem ek_ret {fn : Func} {R : Ending → World → Prop} {a : Act} {s : List Blk} (h : ∀ w, Kn B F s w → a.defers = [] ∧ ∃ v, (results fn a.tmps).run P w = .ok v w ∧ R (.returned v) w) :
    Ek B F (bodyPost P fn R) .ret a s := h
end
inductive Rep (g : Nat) (o o' : Obj) : List Blk → List Blk → Prop
  | here (s : List Blk) : Rep g o o' ((g, o) :: s) ((g, o') :: s)
  | there (b : Blk) {s s' : List Blk} : Rep g o o' s s' → Rep g o o' (b :: s) (b :: s')
section
variable {B w w' : World} {F : List Nat} {s s' : List Blk} {g : Nat} {o o' : Obj}
theorem Rep.names (h : Rep g o o' s s') : s'.map (·.1) = s.map (·.1) := by
 induction h with
 | here => rfl
 | there b _ ih => simp [ih]
theorem Rep.mem (h : Rep g o o' s s') : (g, o) ∈ s := by
 induction h with
 | here s => simp
 | there b _ ih => simp [ih]
theorem Rep.spec (h : Rep g o o' s s') (hn : (s.map (·.1)).Nodup) : ∀ b ∈ s', (b ∈ s ∧ b.1 ≠ g) ∨ b = (g, o') := by
 induction h with
 | here s =>
  intro b hb
  rcases List.mem_cons.1 hb with rfl | hb
  ·exact .inr rfl
  ·refine .inl ⟨by simp [hb], fun e => ?_⟩
   simp only [List.map_cons, List.nodup_cons] at hn
   exact hn.1 (e ▸ List.mem_map.2 ⟨b, hb, rfl⟩)
 | there c h ih =>
  intro b hb
  simp only [List.map_cons, List.nodup_cons] at hn
  rcases List.mem_cons.1 hb with rfl | hb
  ·refine .inl ⟨by simp, fun e => ?_⟩
   exact hn.1 (List.mem_map.2 ⟨_, h.mem, e.symm⟩)
  ·rcases ih hn.2 b hb with ⟨h1, h2⟩ | h1
   ·exact .inl ⟨by simp [h1], h2⟩
   ·exact .inr h1
theorem Kn.rep (h : Kn B F s w) (hr : Rep g o o' s s') : Kn B F s' (w.putObj g o') := by
 have hsp := hr.spec h.nodup
 have hg := h.new _ hr.mem
 have hlt : g < w.heap.size := h.lt hr.mem
 refine ⟨h.os, h.tape, h.output, by rw [World.putObj_size]; exact h.size, ?_, ?_, ?_, by rw [hr.names]; exact h.nodup⟩
 ·intro k hk hF
  refine (World.putObj_heap_other ?_).trans (h.old k hk hF)
  rcases hg with hg | hg
  ·exact fun e => hF (e ▸ hg)
  ·simp at hg; omega
 ·intro b hb
  rcases hsp b hb with ⟨h1, h2⟩ | rfl
  ·exact (World.putObj_heap_other h2).trans (h.own b h1)
  ·exact World.putObj_heap_same hlt
 ·intro b hb
  rcases hsp b hb with ⟨h1, _⟩ | rfl
  ·exact h.new b h1
  ·exact hg
end
section
variable {R : Option Nat} {P : Program} {ops : Array Oper} {Q : Exit → Act → World → Prop} {B : World} {F : List Nat} {a : Act} {s s' : List Blk} {X : Ending → World → Prop} {l : Nat} {r : Loop}
theorem roundIn_kn {tmps : Array Value} (hrep : Rep l (.loop r) (.loop { r with state := .busy }) s s') (hr : r.state = .ready)
    (h : Wk (some l) P B F (Exit.then (fun a₁ w₁ => Kn B F s w₁ ∧ Wk (some l) P B F (roundPost P l X) a₁ s' r.body) (fun _ _ _ => False)) ⟨tmps, []⟩ s r.assign)
    {w : World} (K : Kn B F s w) : RoundIn (FR R) 0 P l r.fn tmps r.assign r.body w X := by
  refine roundIn_of_wpIn trivial (wpIn_mono (h w K) fun e a₁ w₁ hq => ?_)
  cases e with
  | normal =>
    obtain ⟨K₁, hb⟩ := hq
    exact ⟨_, run_beginRound (K₁.own _ hrep.mem) hr, hb _ (K₁.rep hrep)⟩
  | _ => exact hq
theorem ek_asg {c : Code} (h : Wk (some l) P B F (roundPost P l X) a s' c) :
    Ek B F (Exit.then (fun a₁ w₁ => Kn B F s w₁ ∧ Wk (some l) P B F (roundPost P l X) a₁ s' c) (fun _ _ _ => False)) .normal a s := fun _ K => ⟨K, h⟩
theorem ek_roundEnd (hrep : Rep l (.loop r) (.loop { r with state := .ready, pending := none }) s s') (h : ∀ w, Kn B F s' w → X (.returned (.bool true)) w) :
    Ek B F (roundPost P l X) .normal a s := fun w K => ⟨_, _, run_endRound none (K.own _ hrep.mem), h _ (K.rep hrep)⟩
theorem run_call_yield {d : Option Tmp} {fo : Operand} {cargs : Array Operand} {at_ : Array TypeId} {t : TypeId} {p : String} {af : Array Edge} {gd : Option (Nat × Bool)} {vs : Array Value} {w : World}
    (hf : a.eval fo = .func (.yield l) #[] #[]) (hargs : cargs.map a.eval = vs) (hl : w.heap[l]? = some (.loop r)) (hsz : vs.size = r.params.size) :
    (execOp a.eval ⟨d, .call ⟨.value fo, cargs, at_⟩, t, p, af, gd⟩).run P w =
      .ok (.round l r.fn ((r.params.zip vs).foldl (fun tmps (t, a) => tmps.setIfInBounds t a) r.tmps) r.assign r.body) w := by
  have hx : execOp a.eval ⟨d, .call ⟨.value fo, cargs, at_⟩, t, p, af, gd⟩ = (do let d ← resolve a.eval ⟨.value fo, cargs, at_⟩ t; invoke d.target d.args) := rfl
  have hv : (resolve a.eval ⟨.value fo, cargs, at_⟩ t) = pure { target := .fn (.yield l) #[], args := #[] ++ vs } := by
    simp only [resolve, hf, hargs, Deferred.ofValue]
  rw [hx, hv]
  have : (#[] ++ vs : Array Value) = vs := by simp
  rw [this]
  exact run_yield hl hsz
theorem rg_yield {d : Option Tmp} {fo : Operand} {cargs : Array Operand} {at_ : Array TypeId} {t : TypeId} {p : String} {af : Array Edge} {gd : Option (Nat × Bool)} {lst : List (Oper × Nat)} {vs : Array Value}
    (hg : Region.wanted ⟨d, .call ⟨.value fo, cargs, at_⟩, t, p, af, gd⟩ (yielded ops a.tmps) = true)
    (hf : a.eval fo = .func (.yield l) #[] #[]) (hargs : cargs.map a.eval = vs) (hsz : vs.size = r.params.size) (hm : (l, Obj.loop r) ∈ s)
    (h : ∀ w, Kn B F s w → RoundIn (FR R) 0 P l r.fn ((r.params.zip vs).foldl (fun tmps (t, a) => tmps.setIfInBounds t a) r.tmps) r.assign r.body w
      (fun e w' => ∃ v s', e = .returned v ∧ Kn B F s' w' ∧ Rg R P ops Q B F none lst (a.put d v) s')) :
    Rg R P ops Q B F none ((⟨d, .call ⟨.value fo, cargs, at_⟩, t, p, af, gd⟩, 1) :: lst) a s := by
  refine .inr ⟨rfl, fun w K => ⟨hg, ?_⟩⟩
  rw [run_call_yield hf hargs (K.own _ hm) hsz]
  refine ⟨(fun hh => nomatch hh), (h w K).mono fun e w' he => ?_⟩
  obtain ⟨v, s', rfl, K', hr⟩ := he
  exact ⟨s', K', hr⟩
def Ranged (P : Program) (B : World) (F : List Nat) (Q : Exit → Act → World → Prop) (a : Act) (l d : Nat) (e : Ending) (w : World) : Prop :=
  ∃ v s' r' s'', e = .returned v ∧ Kn B F s' w ∧ Rep l (.loop r') (.loop { r' with state := .exhausted }) s' s'' ∧ r'.state ≠ .busy ∧
    (match r'.pending with
     | none => Ek B F Q .normal { a with defers := ⟨.collected d, #[]⟩ :: a.defers } s''
     | some c => Wk none P B F Q { a with defers := ⟨.collected d, #[]⟩ :: a.defers } s'' c)
theorem wk_rangeFunc {g : Operand} {ps : Array Tmp} {assign body : Code} {f : Nat} {caps : Array Value} (hf : a.eval g = .func (.func f) #[] caps) (hgo : isGo P f = true)
    (h : ∀ (fn d l : Nat) (w : World), Kn B F ((l, .loop { state := .ready, pending := none, fn, tmps := a.tmps, params := ps, assign, body, defers := d }) :: (d, .deferred (some [])) :: s) w →
      Calls P f (#[.func (.yield l) #[] #[]] ++ caps) w (Ranged P B F Q a l d)) :
    Wk none P B F Q a s (.rangeFunc g ps assign body) := by
  intro w K
  refine wpIn_rangeFunc fun fn _ => ?_
  have he := run_enterLoop_outer (P := P) (w := w) fn a.tmps ps assign body
  generalize hW : (w.alloc (.deferred (some []))).alloc (.loop { state := .ready, pending := none, fn, tmps := a.tmps, params := ps, assign, body, defers := w.heap.size }) = W at he
  refine ⟨w.heap.size + 1, [{ target := .collected w.heap.size, args := #[] }], W, { target := .fn (.func f) caps, args := #[.func (.yield (w.heap.size + 1)) #[] #[]] }, W, f,
    #[.func (.yield (w.heap.size + 1)) #[] #[]] ++ caps, W, he, ?_, (fun _ _ => trivial), ?_, (fun hh => nomatch hh), ?_⟩
  · have hv : (resolve a.eval (rangeCall g (w.heap.size + 1)) 0) = pure { target := .fn (.func f) caps, args := #[] ++ #[.func (.yield (w.heap.size + 1)) #[] #[]] } := by
      have hc : ∀ v, a.eval (.const v) = v := fun _ => rfl
      simp only [resolve, hf, Deferred.ofValue, List.map_toArray, List.map_cons, List.map_nil, hc]
    rw [hv]
    rfl
  · show (callFunc f (_ ++ caps)).run P _ = _
    exact run_callFunc_go hgo _ _
  · have K1 := (K.alloc (.deferred (some []))).alloc (.loop { state := .ready, pending := none, fn, tmps := a.tmps, params := ps, assign, body, defers := w.heap.size })
    rw [sA, hW] at K1
    refine calls_FR ((h fn w.heap.size (w.heap.size + 1) _ K1).mono fun e w' he => ?_)
    obtain ⟨v, s', r', s'', rfl, K', hrep, hb, hq⟩ := he
    refine ⟨r'.pending, _, run_endLoop (K'.own _ hrep.mem) hb, ?_⟩
    have K2 := K'.rep hrep
    cases hp : r'.pending with
    | none => rw [hp] at hq K2; exact hq _ K2
    | some c => rw [hp] at hq K2; exact hq _ K2
theorem calls_marksF {f : Nat} {fn : Func} {c : Code} {args : Array Value} {w : World} {s : List Blk} {F : List Nat} (K : Kn w F s w) (hf : P.funcs[f]? = some fn) (hb : fn.body = some c)
    (h : Wk none P w F (bodyPostM (FR none) 0 P fn X) { tmps := args ++ Array.replicate (fn.ntmps - args.size) undef, defers := [] } s c) : Calls P f args w X :=
  callsIn_FR (R := none) (callsIn_of_wp_marks hf hb trivial (h w K))
theorem ek_retM0 {fn : Func} {tmps : Array Value} (h : ∀ w, Kn B F s w → ∃ v, (results fn tmps).run P w = .ok v w ∧ X (.returned v) w) :
    Ek B F (bodyPostM (FR none) 0 P fn X) .ret ⟨tmps, []⟩ s := fun w K => h w K
end
section
variable {B w w' : World} {F G : List Nat} {s u rest : List Blk}
theorem Kn.eff (K : Kn B F s w) (hc : Kn w G u w') (hsub : rest.Sublist s) (hG : ∀ g ∈ G, g ∈ s.map (·.1)) (hrest : ∀ b ∈ rest, b.1 ∉ G) : Kn B F (u ++ rest) w' := by
 have hGn : ∀ g ∈ G, g ∈ F ∨ B.heap.size ≤ g := fun g hg => by
  obtain ⟨b, hb, rfl⟩ := List.mem_map.1 (hG g hg)
  exact K.new b hb
 refine ⟨hc.os.trans K.os, hc.tape.trans K.tape, hc.output.trans K.output, Nat.le_trans K.size hc.size, ?_, ?_, ?_, ?_⟩
 ·intro k hk hF
  refine (hc.old k (Nat.lt_of_lt_of_le hk K.size) fun hg => ?_).trans (K.old k hk hF)
  rcases hGn k hg with h | h
  ·exact hF h
  ·omega
 ·intro b hb
  rcases List.mem_append.1 hb with hb | hb
  ·exact hc.own b hb
  ·have hbs := hsub.subset hb
   exact (hc.old b.1 (K.lt hbs) (hrest b hb)).trans (K.own b hbs)
 ·intro b hb
  rcases List.mem_append.1 hb with hb | hb
  ·rcases hc.new b hb with h | h
   ·exact hGn _ h
   ·exact .inr (Nat.le_trans K.size h)
  ·exact K.new b (hsub.subset hb)
 ·rw [List.map_append]
  refine List.nodup_append.2 ⟨hc.nodup, (hsub.map _).nodup K.nodup, ?_⟩
  intro x hx y hy e
  subst e
  obtain ⟨p, hp, rfl⟩ := List.mem_map.1 hx
  obtain ⟨q, hq, hqp⟩ := List.mem_map.1 hy
  rcases hc.new p hp with h | h
  ·exact hrest q hq (hqp ▸ h)
  ·have := K.lt (hsub.subset hq)
   omega
theorem Kn.effApp {v : List Blk} (K : Kn B F (v ++ rest) w) (hc : Kn w (v.map (·.1)) u w') : Kn B F (u ++ rest) w' := by
 refine K.eff hc (List.sublist_append_right _ _) (fun g hg => by rw [List.map_append]; exact List.mem_append_left _ hg) (fun b hb hg => ?_)
 have := K.nodup
 rw [List.map_append] at this
 exact (List.nodup_append.1 this).2.2 _ hg _ (List.mem_map.2 ⟨b, hb, rfl⟩) rfl
theorem Kn.self {v : List Blk} (K : Kn B F (v ++ rest) w) : Kn w (v.map (·.1)) v w :=
  ⟨rfl, rfl, rfl, Nat.le_refl _, fun _ _ _ => rfl, fun b hb => K.own b (List.mem_append_left _ hb), fun b hb => .inl (List.mem_map.2 ⟨b, hb, rfl⟩),
    (List.nodup_append.1 (by have := K.nodup; rwa [List.map_append] at this)).1⟩
theorem Kn.perm {s' : List Blk} (K : Kn B F s w) (h : s.Perm s') : Kn B F s' w :=
  ⟨K.os, K.tape, K.output, K.size, K.old, fun b hb => K.own b (h.mem_iff.2 hb), fun b hb => K.new b (h.mem_iff.2 hb), (h.map _).nodup K.nodup⟩
end
def AS (w : World) (a : Option Addr) (xs : List Value) : Prop := xs ≠ [] → ∃ b off, a = some ⟨b, off, none⟩ ∧ b < w.heap.size ∧ ∀ j, j < xs.length → w.cell? ⟨b, off + j, none⟩ = xs[j]?
section
variable {B w w' : World} {F : List Nat} {s : List Blk} {a : Option Addr} {xs : List Value}
theorem AS.nil : AS w a [] := fun h => absurd rfl h
theorem AS.below (h : AS w a xs) (hb : Below w.heap.size w w') : AS w' a xs := fun hne => by
  obtain ⟨b, off, rfl, hlt, hc⟩ := h hne
  exact ⟨b, off, rfl, Nat.lt_of_lt_of_le hlt hb.size, fun j hj => (hb.cell (p := ⟨b, off + j, none⟩) hlt).trans (hc j hj)⟩
theorem AS.kn (h : AS B a xs) (K : Kn B F s w) (hF : ∀ b off, a = some ⟨b, off, none⟩ → b ∉ F) : AS w a xs := fun hne => by
  obtain ⟨b, off, rfl, hlt, hc⟩ := h hne
  exact ⟨b, off, rfl, Nat.lt_of_lt_of_le hlt K.size, fun j hj => (K.cellB hlt (hF b off rfl) _).trans (hc j hj)⟩
theorem AS.kn0 (h : AS B a xs) (K : Kn B [] s w) : AS w a xs := h.kn K (fun _ _ _ => by simp)
theorem Kn.tlU {u : List Blk} (K : Kn B F (u ++ s) w) : Kn B F s w := K.sub (List.sublist_append_right _ _)
theorem Upd.app {g i : Nat} {x : Value} {s s' : List Blk} (u : List Blk) (h : Upd g i x s s') : Upd g i x (u ++ s) (u ++ s') := by
  induction u with
  | nil => exact h
  | cons b u ih => exact .there b ih
theorem Rep.app {g : Nat} {o o' : Obj} {s s' : List Blk} (u : List Blk) (h : Rep g o o' s s') : Rep g o o' (u ++ s) (u ++ s') := by
  induction u with
  | nil => exact h
  | cons b u ih => exact .there b ih
theorem Kn.mod {g : Nat} {o o' : Obj} (K : Kn B F ((g, o) :: s) w) (h1 : w'.os = w.os) (h2 : w'.tape = w.tape) (h3 : w'.output = w.output) (h4 : w.heap.size ≤ w'.heap.size)
    (h5 : ∀ k, k < w.heap.size → k ≠ g → w'.heap[k]? = w.heap[k]?) (h6 : w'.heap[g]? = some o') : Kn B F ((g, o') :: s) w' := by
  have hn := List.nodup_cons.1 K.nodup
  refine ⟨h1.trans K.os, h2.trans K.tape, h3.trans K.output, Nat.le_trans K.size h4, ?_, ?_, ?_, List.nodup_cons.2 hn⟩
  · intro k hk hF
    refine (h5 k (Nat.lt_of_lt_of_le hk K.size) fun e => ?_).trans (K.old k hk hF)
    subst e
    rcases K.new (k, o) (by simp) with h | h
    · exact hF h
    · simp at h; omega
  · intro b hb
    rcases List.mem_cons.1 hb with rfl | hb
    · exact h6
    · refine (h5 b.1 (K.lt (by simp [hb])) fun e => ?_).trans (K.own b (by simp [hb]))
      exact hn.1 (e ▸ List.mem_map.2 ⟨b, hb, rfl⟩)
  · intro b hb
    rcases List.mem_cons.1 hb with rfl | hb
    · exact K.new (g, o) (by simp)
    · exact K.new b (by simp [hb])
end
def Own (e size : Nat) (u : List Blk) (v : Value) (n : Nat) (xs : List Value) : Prop :=
  xs.length = n * size ∧ ((u = [] ∧ v = .slice none 0 0 ∧ n = 0) ∨
    ∃ g cap cur, u = [(g, .cells cur e)] ∧ v = .slice (some ⟨g, 0, none⟩) n cap ∧ n ≤ cap ∧ cap ≤ maxLen ∧ cur.size = cap * size ∧ cur.toList.take (n * size) = xs)
theorem Own.nil (e size : Nat) : Own e size [] (.slice none 0 0) 0 [] := ⟨by simp, .inl ⟨rfl, rfl, rfl⟩⟩
theorem Own.whole {e size g n : Nat} {cur : Array Value} (h : cur.size = n * size) (hn : n ≤ maxLen) : Own e size [(g, .cells cur e)] (.slice (some ⟨g, 0, none⟩) n n) n cur.toList :=
  ⟨by simpa using h, .inr ⟨g, n, cur, rfl, rfl, Nat.le_refl _, hn, h, List.take_of_length_le (by simp [h])⟩⟩
theorem Own.as {e size : Nat} {u s : List Blk} {v : Value} {n : Nat} {xs : List Value} {B w : World} {F : List Nat} (h : Own e size u v n xs) (K : Kn B F (u ++ s) w) : ∃ a cap, v = .slice a n cap ∧ AS w a xs := by
  obtain ⟨hl, ⟨rfl, rfl, rfl⟩ | ⟨g, cap, cur, rfl, rfl, hc, hm, hs, ht⟩⟩ := h
  · have : xs = [] := List.eq_nil_of_length_eq_zero (by simpa using hl)
    subst this
    exact ⟨none, 0, rfl, AS.nil⟩
  · have hd : Hd w g e cur := Kn.hd0 K
    refine ⟨_, cap, rfl, fun hne => ⟨g, 0, rfl, hd.lt, fun j hj => ?_⟩⟩
    rw [hd.cell, ← ht, List.getElem?_take, if_pos (by omega)]
    simp
theorem Own.val {e size : Nat} {u : List Blk} {v : Value} {n : Nat} {xs : List Value} (h : Own e size u v n xs) : ∃ a cap, v = .slice a n cap ∧ n ≤ cap := by
  obtain ⟨hl, ⟨rfl, rfl, rfl⟩ | ⟨g, cap, cur, rfl, rfl, hc, hm, hs, ht⟩⟩ := h
  · exact ⟨none, 0, rfl, Nat.le_refl _⟩
  · exact ⟨_, _, rfl, hc⟩
section
variable {R : Option Nat} {P : Program} {ops : Array Oper} {Q : Exit → Act → World → Prop} {B : World} {F : List Nat} {s0 : Option (List Blk × List Blk)}
variable {l : List (Oper × Nat)} {a : Act} {s S : List Blk} {d : Option Tmp} {op : Op} {t : TypeId} {p : String} {af : Array Edge} {v : Value}
theorem rg_newS {cs : Array Value} {ty n c : Nat} {gd : Option (Nat × Bool)} (hg : Region.wanted ⟨d, op, t, p, af, gd⟩ (yielded ops a.tmps) = true) (hr : ∀ w : World, (execOp a.eval ⟨d, op, t, p, af, gd⟩).run P w = .ok (.value (.slice (some ⟨w.heap.size, 0, none⟩) n c)) (w.alloc (.cells cs ty)))
    (hz : ∀ z ∈ s0, z.1.Sublist s) (h : ∀ g, Rg R P ops Q B F s0 l (a.put d (.slice (some ⟨g, 0, none⟩) n c)) ((g, .cells cs ty) :: s)) :
    Rg R P ops Q B F s0 ((⟨d, op, t, p, af, gd⟩, 1) :: l) a s :=
  rg_run hg fun w K => ⟨_, _, _, .inl (hr w), K.alloc _, fun z hz' => (hz z hz').cons _, h _⟩
theorem rg_make {lo co : Operand} {ty e : Nat} {i : TypeInfo} {z : Value} {n : Nat} {kl kc : IntKind} {gd : Option (Nat × Bool)} (hg : Region.wanted ⟨d, .makeSlice ty lo co, t, p, af, gd⟩ (yielded ops a.tmps) = true) (ht : P.underlying ty = some (.slice e)) (hi : P.info? e = some i) (hz : i.zero = some z)
    (hl : a.eval lo = .int kl n) (hc : a.eval co = .int kc n) (hb : (i.bytes : Int) * n ≤ 281474976710656) (hn : (n : Int) ≤ 9223372036854775807)
    (hzz : ∀ z ∈ s0, z.1.Sublist s) (h : ∀ g, Rg R P ops Q B F s0 l (a.put d (.slice (some ⟨g, 0, none⟩) n n)) ((g, .cells (madeCells z.cells (n * i.size)) e) :: s)) :
    Rg R P ops Q B F s0 ((⟨d, .makeSlice ty lo co, t, p, af, gd⟩, 1) :: l) a s := by
  refine rg_newS hg (fun w => ?_) hzz h
  have hr := run_make (P := P) w ty e i z ht hi hz kl kc n n (by omega) (Int.le_refl _) hb hn
  simp only [Int.toNat_natCast] at hr
  have hx : execOp a.eval ⟨d, .makeSlice ty lo co, t, p, af, gd⟩ = (do pure (.value (← Instr.makeSlice ty (a.eval lo) (a.eval co)))) := rfl
  rw [hx, hl, hc, Sem.run_bind, hr]
  rfl
theorem rg_append {u : List Blk} {so xo : Operand} {ty e : Nat} {i : TypeInfo} {z : Value} {size bytes n m c : Nat} {xs news : List Value} {ad : Addr} {gd : Option (Nat × Bool)} (hg : Region.wanted ⟨d, .call ⟨.builtin .append, #[so, xo], #[ty, ty]⟩, t, p, af, gd⟩ (yielded ops a.tmps) = true)
    (ht : P.underlying ty = some (.slice e)) (hi : P.info? e = some i) (hz : i.zero = some z) (hsize : i.size = size) (hby : i.bytes = bytes) (hzs : z.cells.size = size) (hsz : 0 < size)
    (hs : a.eval so = v) (hown : Own e size u v n xs) (hx : a.eval xo = .slice (some ad) m c) (hl : news.length = m * size)
    (hnews : ∀ w, Kn B F S w → ∀ j x, news[j]? = some x → w.cell? (ad.add j) = some x) (h1 : ∀ x ∈ news, x.oneCell' = true)
    (h63 : n + m ≤ maxLen) (hbytes : (n + m) * bytes ≤ 140737488355328) (hp : S.Perm (u ++ s)) (hzz : ∀ z ∈ s0, z.1.Sublist s)
    (h : ∀ u' v', Own e size u' v' (n + m) (xs ++ news) → (v' = .slice none 0 0 ↔ v = .slice none 0 0 ∧ m = 0) → Rg R P ops Q B F s0 l (a.put d v') (u' ++ s)) :
    Rg R P ops Q B F s0 ((⟨d, .call ⟨.builtin .append, #[so, xo], #[ty, ty]⟩, t, p, af, gd⟩, 1) :: l) a S := by
  refine rg_run hg fun w K => ?_
  have hnews := hnews w K
  have K' := K.perm hp
  have key : ∃ v' w' u', (Builtin.append_ #[ty, ty] t #[v, .slice (some ad) m c]).run P w = .ok v' w' ∧ Own e size u' v' (n + m) (xs ++ news) ∧ Kn B F (u' ++ s) w' ∧
      (v' = .slice none 0 0 ↔ v = .slice none 0 0 ∧ m = 0) := by
    subst hsize
    subst hby
    have hsmall : n + m ≤ 9223372036854775807 := by simp only [maxLen] at h63; omega
    have hxl := hown.1
    have hlen : (xs ++ news).length = (n + m) * i.size := by rw [List.length_append, hxl, hl, Nat.add_mul]
    have grown : ∀ old : Nat, old < n + m → Own e i.size [(w.heap.size, .cells (xs.toArray ++ news.toArray ++ Builtin.zeroCells z.cells (grownCap w (n + m) old e - (n + m))) e)]
        (.slice (some ⟨w.heap.size, 0, none⟩) (n + m) (grownCap w (n + m) old e)) (n + m) (xs ++ news) := by
      intro old ho
      have hge := grownCap_ge w (n + m) old e
      have hcm : grownCap w (n + m) old e ≤ maxLen := grownCap_le_maxLen w (n + m) old e h63
      refine ⟨hlen, .inr ⟨w.heap.size, _, _, rfl, rfl, hge, hcm, ?_, ?_⟩⟩
      · simp only [Array.size_append, List.size_toArray, size_zeroCells, hzs, hxl, hl, ← Nat.add_mul]
        congr 1
        omega
      · simp only [Array.toList_append, List.append_assoc]
        rw [← List.append_assoc, ← hlen]
        exact List.take_left
    rcases hown.2 with ⟨rfl, rfl, rfl⟩ | ⟨g, cap, cur, rfl, rfl, hnc, hcm, hcs, htake⟩
    · have hx0 : xs = [] := List.eq_nil_of_length_eq_zero (by simpa using hxl)
      subst hx0
      by_cases hm : m = 0
      · subst hm
        have hn0 : news = [] := List.eq_nil_of_length_eq_zero (by simpa using hl)
        subst hn0
        refine ⟨.slice none 0 0, w, [], ?_, Own.nil e i.size, K', by simp⟩
        simp [Builtin.append_, run_underlying ht, sizeOf, typeInfo, hi, Builtin.lenOf, Builtin.firstCells, loadCells, loadCellsFrom]
      · have hr := run_append_nil (P := P) w ty t e i z ht hi hz ad m c news hl hnews (by omega) (by omega) (by have hb := hbytes; simp only [Nat.zero_add] at hb; omega)
        have hgr := grown 0 (by omega)
        simp only [Nat.zero_add, List.nil_append, Array.empty_append] at hgr ⊢
        exact ⟨_, _, _, hr, hgr, K'.drew.alloc _, by simp [hm]⟩
    · have hd : w.heap[g]? = some (.cells cur e (0, 0)) := Kn.hd0 K'
      by_cases hroom : n + m ≤ cap
      · have hfit : n * i.size + news.length ≤ cur.size := by rw [hl, hcs, ← Nat.add_mul]; exact Nat.mul_le_mul_right _ hroom
        have hr := run_append_room (P := P) w ty t e i ht hi g n cap cur hd ad m c news hl hnews h1 hroom hfit
        refine ⟨_, _, _, hr, ⟨hlen, .inr ⟨g, cap, _, rfl, rfl, hroom, hcm, ?_, ?_⟩⟩, Kn.mod K' rfl rfl rfl (by simp) (fun k _ hk => setRow_other w g k _ (fun e => hk e)) (setRow_heap w g cur _ e _ hd), by simp⟩
        · simp only [List.size_toArray, List.length_append, List.length_take, List.length_drop, Array.length_toList]
          omega
        · rw [htake, ← hlen]
          exact List.take_left
      · have holds : ∀ j x, xs[j]? = some x → w.cell? ((⟨g, 0, none⟩ : Addr).add j) = some x := by
          intro j x hj
          have hlt : j < xs.length := (List.getElem?_eq_some_iff.1 hj).1
          have : (⟨g, 0, none⟩ : Addr).add j = ⟨g, j, none⟩ := by unfold Addr.add; split <;> simp_all
          rw [this, (Kn.hd0 K' : Hd w g e cur).cell, ← hj, ← htake, List.getElem?_take, if_pos (by omega)]
          simp
        have hr := run_append_grow (P := P) w ty t e i z ht hi hz ⟨g, 0, none⟩ n cap xs hxl holds ad m c news hl hnews (by omega) (by omega) (growslice_fits (by omega) hbytes)
        have hgr := grown cap (by omega)
        exact ⟨_, _, _, hr, hgr, (K'.tl).drew.alloc _, by simp⟩
  obtain ⟨v', w', u', hr, hO, hK, hnil⟩ := key
  refine ⟨v', w', u' ++ s, .inl ?_, hK, fun z hz' => (hzz z hz').trans (List.sublist_append_right _ _), h u' v' hO hnil⟩
  have hx1 : execOp a.eval ⟨d, .call ⟨.builtin .append, #[so, xo], #[ty, ty]⟩, t, p, af, gd⟩ = (do let d ← resolve a.eval ⟨.builtin .append, #[so, xo], #[ty, ty]⟩ t; invoke d.target d.args) := rfl
  rw [hx1]
  simp only [resolve, invoke, builtin, Sem.run_bind, Sem.run_pure, Result.andThen_ok, List.map_toArray, List.map_cons, List.map_nil, hs, hx, hr]
end
set_option maxHeartbeats 1000000
theorem q1 {α : Type} {xs : List α} {i : Nat} {a : α} : xs.toArray.setIfInBounds i a = (xs.set i a).toArray := List.setIfInBounds_toArray ..
theorem q2 {α : Type} {x a : α} {xs : List α} : (x :: xs).set 0 a = a :: xs := rfl
theorem q3 {α : Type} {x a : α} {xs : List α} {n : Nat} : (x :: xs).set (n + 1) a = x :: xs.set n a := rfl
theorem q4 {α : Type} {xs : Array α} {i : Nat} {d : α} : xs.getD i d = xs[i]?.getD d := Array.getD_eq_getD_getElem? ..
theorem q5 {α : Type} {xs : List α} {i : Nat} : xs.toArray[i]? = xs[i]? := List.getElem?_toArray ..
theorem q6 {α : Type} {x : α} {xs : List α} : (x :: xs)[0]? = some x := rfl
theorem q7 {α : Type} {x : α} {xs : List α} {n : Nat} : (x :: xs)[n + 1]? = xs[n]? := rfl
theorem q8 {α : Type} {x y : α} : (some x).getD y = x := rfl
theorem sn {α : Type} : ([] : List α).Sublist [] := .slnil
theorem sc {α : Type} {l m : List α} (a : α) (h : l.Sublist m) : (a :: l).Sublist (a :: m) := h.cons₂ a
theorem sk {α : Type} {l m : List α} (a : α) (h : l.Sublist m) : l.Sublist (a :: m) := .cons a h
section
variable {R : Option Nat} {P : Program} {ops : Array Oper} {Q : Exit → Act → World → Prop} {B : World} {F : List Nat} {s0 : Option (List Blk × List Blk)}
variable {l : List (Oper × Nat)} {a : Act} {s s' : List Blk} {d : Option Tmp} {op : Op} {t : TypeId} {p : String} {af : Array Edge} {v : Value} {gd : Option (Nat × Bool)} {m : Nat}
def Act.putF (a : Act) (W : List Nat) (f : Nat → Value) : Act := ⟨W.foldl (fun t k => t.setIfInBounds k (f k)) a.tmps, a.defers⟩
def Act.valF (a : Act) : Nat → Value := fun k => a.tmps.getD k undef
section
variable {R : Option Nat} {P : Program} {Q : Exit → Act → World → Prop} {B : World} {F : List Nat} {a : Act} {s : List Blk}
def RelF (W : List Nat) (a0 : Act) (J : Nat → (Nat → Value) → List Blk → Prop) : Nat → Act → List Blk → Prop := fun n a s => ∃ f, a = Act.putF a0 W f ∧ J n f s
theorem wk_loopF {c : Code} (W : List Nat) (J : Nat → (Nat → Value) → List Blk → Prop) (n : Nat) (h0 : J n (Act.valF a) s) (ha : a = Act.putF a W (Act.valF a))
    (round : ∀ n f s, J n f s → Wk R P B F (Exit.then (Rnd B F (RelF W a J) n) Q) (Act.putF a W f) s c) : Wk R P B F Q a s (.loop c) :=
  wk_loop (RelF W a J) n ⟨_, ha, h0⟩ fun n a' s' h => by
    obtain ⟨f, rfl, hJ⟩ := h
    exact round n f s' hJ
theorem ek_roundF {W : List Nat} {a0 : Act} {J : Nat → (Nat → Value) → List Blk → Prop} {n : Nat} (m : Nat) (hm : m < n) (ha : a = Act.putF a0 W (Act.valF a)) (h : J m (Act.valF a) s) :
    Ek B F (Exit.then (Rnd B F (RelF W a0 J) n) Q) .normal a s := ek_round m hm ⟨_, ha, h⟩
def MidF (W : List Nat) (a0 : Act) (J : (Nat → Value) → List Blk → Prop) : Act → List Blk → Prop := fun a s => ∃ f, a = Act.putF a0 W f ∧ J f s
theorem wk_cutF {x y : Code} (W : List Nat) (J : (Nat → Value) → List Blk → Prop) (h1 : Wk R P B F (Exit.then (Mid B F (MidF W a J)) Q) a s x)
    (h2 : ∀ f s, J f s → Wk R P B F Q (Act.putF a W f) s y) : Wk R P B F Q a s (.seq x y) :=
  wk_cut (MidF W a J) h1 fun a' s' h => by
    obtain ⟨f, rfl, hJ⟩ := h
    exact h2 f s' hJ
theorem ek_midF {W : List Nat} {a0 : Act} {J : (Nat → Value) → List Blk → Prop} (ha : a = Act.putF a0 W (Act.valF a)) (h : J (Act.valF a) s) :
    Ek B F (Exit.then (Mid B F (MidF W a0 J)) Q) .normal a s := ek_mid ⟨_, ha, h⟩
end
def bsel (b : Bool) (x y : Value) : Value := match b with
  | true => x
  | false => y
def cellAt (v : Value) (j : Nat) : Value := v.cells.getD j undef
def soft03 (m : Nat) : Bool := m == 0 || decide (3 ≤ m)
theorem rg_any (hm : soft03 m = true) (hg : Region.wanted ⟨d, op, t, p, af, gd⟩ (yielded ops a.tmps) = true) (hy : ∀ w, Yld ((execOp a.eval ⟨d, op, t, p, af, gd⟩).run P w) v w) (h : Rg R P ops Q B F s0 l (a.put d v) s) :
    Rg R P ops Q B F s0 ((⟨d, op, t, p, af, gd⟩, m) :: l) a s := by
  match m, hm with
  | 0, _ => exact ⟨v, .inl ⟨hg, fun w _ => hy w⟩, h⟩
  | n + 3, _ => exact ⟨v, .inl ⟨hg, fun w _ => hy w⟩, h⟩
def kOf : Nat → Option (List Blk × List Blk) → List Blk → List Blk
  | 0, s0, s => zOf s0 s
  | _ + 1, s0, s => yOf s0 s
theorem rg_read (hm : soft03 m = true) (hg : Region.wanted ⟨d, op, t, p, af, gd⟩ (yielded ops a.tmps) = true) (hy : ∀ w, Kn B F (kOf m s0 s) w → Yld ((execOp a.eval ⟨d, op, t, p, af, gd⟩).run P w) v w) (h : Rg R P ops Q B F s0 l (a.put d v) s) :
    Rg R P ops Q B F s0 ((⟨d, op, t, p, af, gd⟩, m) :: l) a s := by
  match m, hm with
  | 0, _ => exact ⟨v, .inl ⟨hg, hy⟩, h⟩
  | n + 3, _ => exact ⟨v, .inl ⟨hg, hy⟩, h⟩
theorem rf_field {T k : Nat} {x : Operand} {g i j n : Nat} {fs : Array Field} {f : Field} (hm : soft03 m = true) (hg : Region.wanted ⟨d, .fieldAddr T x k, t, p, af, gd⟩ (yielded ops a.tmps) = true)
    (hx : a.eval x = .pointer (some ⟨g, i, none⟩)) (hu : P.underlying T = some (.struct fs)) (hf : fs[k]? = some f) (hs : (P.info? f.type).map (·.size) = some (n + 1)) (hj : i + f.offset = j)
    (h : Rg R P ops Q B F s0 l (a.put d (.pointer (some ⟨g, j, none⟩))) s) : Rg R P ops Q B F s0 ((⟨d, .fieldAddr T x k, t, p, af, gd⟩, m) :: l) a s := by
  refine rg_any hm hg (fun w => ?_) h
  unfold Yld
  cases hq : P.info? f.type with
  | none => simp [hq] at hs
  | some q =>
    have hs' : q.size = n + 1 := by simpa [hq] using hs
    have hne : ¬ q.size = 0 := by omega
    have hadd : (⟨g, i, none⟩ : Addr).add f.offset = ⟨g, j, none⟩ := by rw [Addr.add_mid, hj]
    simp [execOp, hx, Instr.fieldAt, run_underlying hu, hf, Instr.sureAddr, fieldPlace, sizeOf, typeInfo, hq, hs', hadd]
theorem rf_indexA {T : Nat} {x y : Operand} {g i j n len e sz : Nat} {k : IntKind} (hm : soft03 m = true) (hg : Region.wanted ⟨d, .indexAddr T x y, t, p, af, gd⟩ (yielded ops a.tmps) = true)
    (hx : a.eval x = .pointer (some ⟨g, i, none⟩)) (hy : a.eval y = .int k (n : Int)) (hu : P.underlying T = some (.array len e)) (hs : (P.info? e).map (·.size) = some sz) (hn : n < len) (hj : i + n * sz = j)
    (h : Rg R P ops Q B F s0 l (a.put d (.pointer (some ⟨g, j, none⟩))) s) : Rg R P ops Q B F s0 ((⟨d, .indexAddr T x y, t, p, af, gd⟩, m) :: l) a s := by
  refine rg_any hm hg (fun w => ?_) h
  unfold Yld
  cases hq : P.info? e with
  | none => simp [hq] at hs
  | some q =>
    have hs' : q.size = sz := by simpa [hq] using hs
    have hadd : (⟨g, i, none⟩ : Addr).add (n * sz) = ⟨g, j, none⟩ := by rw [Addr.add_mid, hj]
    simp [execOp, hx, hy, Instr.indexAt, run_underlying hu, asIntOf, Instr.sureAddr, sizeOf, typeInfo, hq, hs', hadd, hn]
theorem rf_indexS {T : Nat} {x y : Operand} {g i j n len cap e sz : Nat} {k : IntKind} {z : Int} (hm : soft03 m = true) (hg : Region.wanted ⟨d, .indexAddr T x y, t, p, af, gd⟩ (yielded ops a.tmps) = true)
    (hx : a.eval x = .slice (some ⟨g, i, none⟩) len cap) (hy : a.eval y = .int k z) (hu : P.underlying T = some (.slice e)) (hs : (P.info? e).map (·.size) = some sz) (hz : z = (n : Int)) (hn : n < len) (hj : i + n * sz = j)
    (h : Rg R P ops Q B F s0 l (a.put d (.pointer (some ⟨g, j, none⟩))) s) : Rg R P ops Q B F s0 ((⟨d, .indexAddr T x y, t, p, af, gd⟩, m) :: l) a s := by
  subst hz
  refine rg_any hm hg (fun w => ?_) h
  unfold Yld
  cases hq : P.info? e with
  | none => simp [hq] at hs
  | some q =>
    have hs' : q.size = sz := by simpa [hq] using hs
    have hadd : (⟨g, i, none⟩ : Addr).add (n * sz) = ⟨g, j, none⟩ := by rw [Addr.add_mid, hj]
    simp [execOp, hx, hy, Instr.indexAt, run_underlying hu, asIntOf, sizeOf, typeInfo, hq, hs', hadd, hn]
theorem rf_sliceTo {T : Nat} {x y : Operand} {A : Option Addr} {n len cap e sz : Nat} {k : IntKind} {z : Int} (hm : soft03 m = true) (hg : Region.wanted ⟨d, .slice T x none (some y) none, t, p, af, gd⟩ (yielded ops a.tmps) = true)
    (hx : a.eval x = .slice A len cap) (hy : a.eval y = .int k z) (hu : P.underlying T = some (.slice e)) (hs : (P.info? e).map (·.size) = some sz) (hz : z = (n : Int)) (hn : n ≤ cap)
    (h : Rg R P ops Q B F s0 l (a.put d (.slice A n cap)) s) : Rg R P ops Q B F s0 ((⟨d, .slice T x none (some y) none, t, p, af, gd⟩, m) :: l) a s := by
  subst hz
  refine rg_any hm hg (fun w => ?_) h
  unfold Yld
  cases hq : P.info? e with
  | none => simp [hq] at hs
  | some q =>
    have hs' : q.size = sz := by simpa [hq] using hs
    have hb := fun w => run_sliceBound (P := P) w k (n : Int) cap .sliceAcap (by omega) (by omega)
    cases A <;> simp [execOp, hx, hy, Instr.sliceAt, Instr.slice, Instr.sliceBounds, run_underlying hu, sizeOf, typeInfo, hq, hs', hb, Addr.add_mid] <;> (intro h0; simp [Addr.add])
theorem rf_build {T : TypeId} {parts : Array (Nat × Operand)} {cs : Act → Array Value} (hm : soft03 m = true) (hg : Region.wanted ⟨d, .build T parts, t, p, af, gd⟩ (yielded ops a.tmps) = true)
    (hb : P.built T (parts.map fun (i, x) => (i, a.eval x)).toList = some (cs a)) (h : Rg R P ops Q B F s0 l (a.put d (.agg (cs a))) s) : Rg R P ops Q B F s0 ((⟨d, .build T parts, t, p, af, gd⟩, m) :: l) a s := by
  refine rg_any hm hg (fun w => ?_) h
  unfold Yld
  have := run_build w T (parts.map fun (i, x) => (i, a.eval x)) _ hb
  simp only [execOp]
  rw [Sem.run_bind, this]
  rfl
theorem rf_extract {x : Operand} {n : Nat} {vs : Array Value} (hm : soft03 m = true) (hg : Region.wanted ⟨d, .extract x n, t, p, af, gd⟩ (yielded ops a.tmps) = true)
    (hx : a.eval x = .tuple vs) (hv : vs[n]? = some v) (h : Rg R P ops Q B F s0 l (a.put d v) s) : Rg R P ops Q B F s0 ((⟨d, .extract x n, t, p, af, gd⟩, m) :: l) a s := by
  refine rg_any hm hg (fun w => ?_) h
  unfold Yld
  simp [execOp, hx, Instr.extract, hv]
theorem rf_not {x : Operand} {T : TypeId} {b : Bool} (hm : soft03 m = true) (hg : Region.wanted ⟨d, .unOp .not T x, t, p, af, gd⟩ (yielded ops a.tmps) = true)
    (hx : a.eval x = .bool b) (h : Rg R P ops Q B F s0 l (a.put d (.bool (!b))) s) : Rg R P ops Q B F s0 ((⟨d, .unOp .not T x, t, p, af, gd⟩, m) :: l) a s := by
  refine rg_any hm hg (fun w => ?_) h
  unfold Yld
  simp [execOp, hx, Op.unary]
theorem rf_neg {x : Operand} {T : TypeId} {k : IntKind} {n r : Int} (hm : soft03 m = true) (hg : Region.wanted ⟨d, .unOp .neg T x, t, p, af, gd⟩ (yielded ops a.tmps) = true)
    (hx : a.eval x = .int k n) (hr : k.wrap (-n) = r) (h : Rg R P ops Q B F s0 l (a.put d (.int k r)) s) : Rg R P ops Q B F s0 ((⟨d, .unOp .neg T x, t, p, af, gd⟩, m) :: l) a s := by
  refine rg_any hm hg (fun w => ?_) h
  unfold Yld
  simp [execOp, hx, Op.unary, Op.intArith, hr]
theorem wrap_ok {n : Int} (h1 : -9223372036854775808 ≤ n) (h2 : n ≤ 9223372036854775807) : IntKind.i64.wrap n = n := by rw [IntKind.wrap_i64]; omega
theorem wrap_okU {n : Int} (h1 : 0 ≤ n) (h2 : n ≤ 18446744073709551615) : IntKind.u64.wrap n = n := by rw [IntKind.wrap_u64]; omega
theorem rf_add {x y : Operand} {T z : TypeId} {k : IntKind} {n q r : Int} (hm : soft03 m = true) (hg : Region.wanted ⟨d, .binOp .add T x y z, t, p, af, gd⟩ (yielded ops a.tmps) = true)
    (hx : a.eval x = .int k n) (hy : a.eval y = .int k q) (hr : k.wrap (n + q) = r) (h : Rg R P ops Q B F s0 l (a.put d (.int k r)) s) : Rg R P ops Q B F s0 ((⟨d, .binOp .add T x y z, t, p, af, gd⟩, m) :: l) a s := by
  refine rg_any hm hg (fun w => ?_) h
  unfold Yld
  simp [execOp, hx, hy, eqGuard, binOp, Op.intArith, hr]
theorem rf_sub {x y : Operand} {T z : TypeId} {k : IntKind} {n q r : Int} (hm : soft03 m = true) (hg : Region.wanted ⟨d, .binOp .sub T x y z, t, p, af, gd⟩ (yielded ops a.tmps) = true)
    (hx : a.eval x = .int k n) (hy : a.eval y = .int k q) (hr : k.wrap (n - q) = r) (h : Rg R P ops Q B F s0 l (a.put d (.int k r)) s) : Rg R P ops Q B F s0 ((⟨d, .binOp .sub T x y z, t, p, af, gd⟩, m) :: l) a s := by
  refine rg_any hm hg (fun w => ?_) h
  unfold Yld
  simp [execOp, hx, hy, eqGuard, binOp, Op.intArith, hr]
theorem rf_mul {x y : Operand} {T z : TypeId} {k : IntKind} {n q r : Int} (hm : soft03 m = true) (hg : Region.wanted ⟨d, .binOp .mul T x y z, t, p, af, gd⟩ (yielded ops a.tmps) = true)
    (hx : a.eval x = .int k n) (hy : a.eval y = .int k q) (hr : k.wrap (n * q) = r) (h : Rg R P ops Q B F s0 l (a.put d (.int k r)) s) : Rg R P ops Q B F s0 ((⟨d, .binOp .mul T x y z, t, p, af, gd⟩, m) :: l) a s := by
  refine rg_any hm hg (fun w => ?_) h
  unfold Yld
  simp [execOp, hx, hy, eqGuard, binOp, Op.intArith, hr]
theorem rf_conv {x : Operand} {T T' : TypeId} {k k' : IntKind} {dd : TypeDesc} {n r : Int} (hm : soft03 m = true) (hg : Region.wanted ⟨d, .convert T T' x, t, p, af, gd⟩ (yielded ops a.tmps) = true)
    (hx : a.eval x = .int k n) (hu : P.underlying T = some dd) (hu' : P.underlying T' = some (.int k')) (hr : k'.wrap n = r) (h : Rg R P ops Q B F s0 l (a.put d (.int k' r)) s) : Rg R P ops Q B F s0 ((⟨d, .convert T T' x, t, p, af, gd⟩, m) :: l) a s := by
  refine rg_any hm hg (fun w => ?_) h
  have hk : P.intKind T' = k' := by simp [Program.intKind, hu']
  have := run_convert_int (P := P) w T T' k n (by rw [hu]; rfl) (by rw [hk]; exact hu')
  rw [hk, hr] at this
  unfold Yld
  show (convert T T' (a.eval x) >>= fun r => pure (Next.value r)).run P w = _
  rw [hx, Sem.run_bind, this]
  rfl
theorem rf_shr {x y : Operand} {T z : TypeId} {k k' : IntKind} {n q : Int} {c : Nat} (hm : soft03 m = true) (hg : Region.wanted ⟨d, .binOp .shr T x y z, t, p, af, gd⟩ (yielded ops a.tmps) = true)
    (hx : a.eval x = .int k n) (hy : a.eval y = .int k' (c : Int)) (hc : Nat.ble c k.bits = true) (hq : (2 : Int) ^ c = q) (h : Rg R P ops Q B F s0 l (a.put d (.int k (n / q))) s) : Rg R P ops Q B F s0 ((⟨d, .binOp .shr T x y z, t, p, af, gd⟩, m) :: l) a s := by
  refine rg_any hm hg (fun w => ?_) h
  have hc' : c ≤ k.bits := Nat.le_of_ble_eq_true hc
  have hs := shift_shr k k' n (c : Int) (by omega) (by omega)
  unfold Yld
  simp [execOp, hx, hy, eqGuard, binOp, hs, hq]
theorem rf_shl {x y : Operand} {T z : TypeId} {k k' : IntKind} {n q r : Int} {c : Nat} (hm : soft03 m = true) (hg : Region.wanted ⟨d, .binOp .shl T x y z, t, p, af, gd⟩ (yielded ops a.tmps) = true)
    (hx : a.eval x = .int k n) (hy : a.eval y = .int k' (c : Int)) (hc : Nat.ble c k.bits = true) (hq : (2 : Int) ^ c = q) (hr : k.wrap (n * q) = r) (h : Rg R P ops Q B F s0 l (a.put d (.int k r)) s) : Rg R P ops Q B F s0 ((⟨d, .binOp .shl T x y z, t, p, af, gd⟩, m) :: l) a s := by
  refine rg_any hm hg (fun w => ?_) h
  have hc' : c ≤ k.bits := Nat.le_of_ble_eq_true hc
  have hmin : min (c : Int).toNat k.bits = c := by rw [Int.toNat_natCast]; omega
  unfold Yld
  have hneg : ¬ ((c : Int) < 0) := by omega
  simp only [execOp, hx, hy, eqGuard, binOp, Op.shift, hneg, if_false, hmin, hq, hr]
  rfl
theorem rf_lss {x y : Operand} {T z : TypeId} {k : IntKind} {n q : Int} {b : Bool} (hm : soft03 m = true) (hg : Region.wanted ⟨d, .binOp .lss T x y z, t, p, af, gd⟩ (yielded ops a.tmps) = true)
    (hx : a.eval x = .int k n) (hy : a.eval y = .int k q) (hr : decide (n < q) = b) (h : Rg R P ops Q B F s0 l (a.put d (.bool b)) s) : Rg R P ops Q B F s0 ((⟨d, .binOp .lss T x y z, t, p, af, gd⟩, m) :: l) a s := by
  subst hr
  refine rg_any hm hg (fun w => ?_) h
  unfold Yld
  simp [execOp, hx, hy, eqGuard, binOp, Op.intCmp]
theorem rf_leq {x y : Operand} {T z : TypeId} {k : IntKind} {n q : Int} {b : Bool} (hm : soft03 m = true) (hg : Region.wanted ⟨d, .binOp .leq T x y z, t, p, af, gd⟩ (yielded ops a.tmps) = true)
    (hx : a.eval x = .int k n) (hy : a.eval y = .int k q) (hr : decide (n ≤ q) = b) (h : Rg R P ops Q B F s0 l (a.put d (.bool b)) s) : Rg R P ops Q B F s0 ((⟨d, .binOp .leq T x y z, t, p, af, gd⟩, m) :: l) a s := by
  subst hr
  refine rg_any hm hg (fun w => ?_) h
  unfold Yld
  simp [execOp, hx, hy, eqGuard, binOp, Op.intCmp]
theorem rf_gtr {x y : Operand} {T z : TypeId} {k : IntKind} {n q : Int} {b : Bool} (hm : soft03 m = true) (hg : Region.wanted ⟨d, .binOp .gtr T x y z, t, p, af, gd⟩ (yielded ops a.tmps) = true)
    (hx : a.eval x = .int k n) (hy : a.eval y = .int k q) (hr : decide (q < n) = b) (h : Rg R P ops Q B F s0 l (a.put d (.bool b)) s) : Rg R P ops Q B F s0 ((⟨d, .binOp .gtr T x y z, t, p, af, gd⟩, m) :: l) a s := by
  subst hr
  refine rg_any hm hg (fun w => ?_) h
  unfold Yld
  simp [execOp, hx, hy, eqGuard, binOp, Op.intCmp]
theorem rf_geq {x y : Operand} {T z : TypeId} {k : IntKind} {n q : Int} {b : Bool} (hm : soft03 m = true) (hg : Region.wanted ⟨d, .binOp .geq T x y z, t, p, af, gd⟩ (yielded ops a.tmps) = true)
    (hx : a.eval x = .int k n) (hy : a.eval y = .int k q) (hr : decide (q ≤ n) = b) (h : Rg R P ops Q B F s0 l (a.put d (.bool b)) s) : Rg R P ops Q B F s0 ((⟨d, .binOp .geq T x y z, t, p, af, gd⟩, m) :: l) a s := by
  subst hr
  refine rg_any hm hg (fun w => ?_) h
  unfold Yld
  simp [execOp, hx, hy, eqGuard, binOp, Op.intCmp]
theorem rf_eql {x y : Operand} {T z : TypeId} {k : IntKind} {n q : Int} {b : Bool} (hm : soft03 m = true) (hg : Region.wanted ⟨d, .binOp .eql T x y z, t, p, af, gd⟩ (yielded ops a.tmps) = true)
    (hx : a.eval x = .int k n) (hy : a.eval y = .int k q) (hr : decide (n = q) = b) (h : Rg R P ops Q B F s0 l (a.put d (.bool b)) s) : Rg R P ops Q B F s0 ((⟨d, .binOp .eql T x y z, t, p, af, gd⟩, m) :: l) a s := by
  subst hr
  refine rg_any hm hg (fun w => ?_) h
  unfold Yld
  simp [execOp, hx, hy, eqGuard, binOp, Op.intCmp]
  rfl
theorem rf_neq {x y : Operand} {T z : TypeId} {k : IntKind} {n q : Int} {b : Bool} (hm : soft03 m = true) (hg : Region.wanted ⟨d, .binOp .neq T x y z, t, p, af, gd⟩ (yielded ops a.tmps) = true)
    (hx : a.eval x = .int k n) (hy : a.eval y = .int k q) (hr : decide (n ≠ q) = b) (h : Rg R P ops Q B F s0 l (a.put d (.bool b)) s) : Rg R P ops Q B F s0 ((⟨d, .binOp .neq T x y z, t, p, af, gd⟩, m) :: l) a s := by
  subst hr
  refine rg_any hm hg (fun w => ?_) h
  unfold Yld
  by_cases hnq : n = q <;> simp [execOp, hx, hy, eqGuard, binOp, Op.intCmp, hnq]
theorem rfb_lss {x y : Operand} {T z : TypeId} {k : IntKind} {n q : Int} (hm : soft03 m = true) (hg : Region.wanted ⟨d, .binOp .lss T x y z, t, p, af, gd⟩ (yielded ops a.tmps) = true)
    (hx : a.eval x = .int k n) (hy : a.eval y = .int k q) (h : ∀ b, decide (n < q) = b → Rg R P ops Q B F s0 l (a.put d (.bool b)) s) : Rg R P ops Q B F s0 ((⟨d, .binOp .lss T x y z, t, p, af, gd⟩, m) :: l) a s :=
  rf_lss hm hg hx hy rfl (h _ rfl)
theorem rfb_leq {x y : Operand} {T z : TypeId} {k : IntKind} {n q : Int} (hm : soft03 m = true) (hg : Region.wanted ⟨d, .binOp .leq T x y z, t, p, af, gd⟩ (yielded ops a.tmps) = true)
    (hx : a.eval x = .int k n) (hy : a.eval y = .int k q) (h : ∀ b, decide (n ≤ q) = b → Rg R P ops Q B F s0 l (a.put d (.bool b)) s) : Rg R P ops Q B F s0 ((⟨d, .binOp .leq T x y z, t, p, af, gd⟩, m) :: l) a s :=
  rf_leq hm hg hx hy rfl (h _ rfl)
theorem rfb_gtr {x y : Operand} {T z : TypeId} {k : IntKind} {n q : Int} (hm : soft03 m = true) (hg : Region.wanted ⟨d, .binOp .gtr T x y z, t, p, af, gd⟩ (yielded ops a.tmps) = true)
    (hx : a.eval x = .int k n) (hy : a.eval y = .int k q) (h : ∀ b, decide (q < n) = b → Rg R P ops Q B F s0 l (a.put d (.bool b)) s) : Rg R P ops Q B F s0 ((⟨d, .binOp .gtr T x y z, t, p, af, gd⟩, m) :: l) a s :=
  rf_gtr hm hg hx hy rfl (h _ rfl)
theorem rfb_geq {x y : Operand} {T z : TypeId} {k : IntKind} {n q : Int} (hm : soft03 m = true) (hg : Region.wanted ⟨d, .binOp .geq T x y z, t, p, af, gd⟩ (yielded ops a.tmps) = true)
    (hx : a.eval x = .int k n) (hy : a.eval y = .int k q) (h : ∀ b, decide (q ≤ n) = b → Rg R P ops Q B F s0 l (a.put d (.bool b)) s) : Rg R P ops Q B F s0 ((⟨d, .binOp .geq T x y z, t, p, af, gd⟩, m) :: l) a s :=
  rf_geq hm hg hx hy rfl (h _ rfl)
theorem rfb_eql {x y : Operand} {T z : TypeId} {k : IntKind} {n q : Int} (hm : soft03 m = true) (hg : Region.wanted ⟨d, .binOp .eql T x y z, t, p, af, gd⟩ (yielded ops a.tmps) = true)
    (hx : a.eval x = .int k n) (hy : a.eval y = .int k q) (h : ∀ b, decide (n = q) = b → Rg R P ops Q B F s0 l (a.put d (.bool b)) s) : Rg R P ops Q B F s0 ((⟨d, .binOp .eql T x y z, t, p, af, gd⟩, m) :: l) a s :=
  rf_eql hm hg hx hy rfl (h _ rfl)
theorem rfb_neq {x y : Operand} {T z : TypeId} {k : IntKind} {n q : Int} (hm : soft03 m = true) (hg : Region.wanted ⟨d, .binOp .neq T x y z, t, p, af, gd⟩ (yielded ops a.tmps) = true)
    (hx : a.eval x = .int k n) (hy : a.eval y = .int k q) (h : ∀ b, decide (n ≠ q) = b → Rg R P ops Q B F s0 l (a.put d (.bool b)) s) : Rg R P ops Q B F s0 ((⟨d, .binOp .neq T x y z, t, p, af, gd⟩, m) :: l) a s :=
  rf_neq hm hg hx hy rfl (h _ rfl)
theorem rf_pick {x y z : Operand} {b : Bool} (hm : soft03 m = true) (hg : Region.wanted ⟨d, .pick x y z, t, p, af, gd⟩ (yielded ops a.tmps) = true)
    (hx : a.eval x = .bool b) (h : Rg R P ops Q B F s0 l (a.put d (bsel b (a.eval y) (a.eval z))) s) : Rg R P ops Q B F s0 ((⟨d, .pick x y z, t, p, af, gd⟩, m) :: l) a s := by
  refine rg_any hm hg (fun w => ?_) h
  unfold Yld
  cases b <;> simp [execOp, hx, asBool, bsel]
theorem rf_len {x : Operand} {T e : TypeId} {b : Option Addr} {n c : Nat} (hm : soft03 m = true) (hg : Region.wanted ⟨d, .call ⟨.builtin .len, #[x], #[T]⟩, t, p, af, gd⟩ (yielded ops a.tmps) = true)
    (hx : a.eval x = .slice b n c) (hu : P.underlying T = some (.slice e)) (h : Rg R P ops Q B F s0 l (a.put d (.int .i64 n)) s) :
    Rg R P ops Q B F s0 ((⟨d, .call ⟨.builtin .len, #[x], #[T]⟩, t, p, af, gd⟩, m) :: l) a s := by
  refine rg_any hm hg (fun w => ?_) h
  unfold Yld
  have hu' : P.underlying T = some (.slice (P.elem T)) := by rw [hu]; simp [Program.elem, hu]
  have hx1 : execOp a.eval ⟨d, .call ⟨.builtin .len, #[x], #[T]⟩, t, p, af, gd⟩ = (do let d ← resolve a.eval ⟨.builtin .len, #[x], #[T]⟩ t; invoke d.target d.args) := rfl
  rw [hx1]
  simp only [resolve, invoke, builtin, Sem.run_bind, Sem.run_pure, Result.andThen_ok, List.map_toArray, List.map_cons, List.map_nil, hx, run_len_slice w T t b n c hu']
  rfl
theorem rf_load {x : Operand} {T : TypeId} {g i : Nat} {dd : TypeDesc} (hm : soft03 m = true) (hg : Region.wanted ⟨d, .load T x, t, p, af, gd⟩ (yielded ops a.tmps) = true)
    (hx : a.eval x = .pointer (some ⟨g, i, none⟩)) (hu : P.underlying T = some dd) (hr : isRow dd = false) (hc : ∀ w, Kn B F (kOf m s0 s) w → w.cell? ⟨g, i, none⟩ = some v)
    (h : Rg R P ops Q B F s0 l (a.put d v) s) : Rg R P ops Q B F s0 ((⟨d, .load T x, t, p, af, gd⟩, m) :: l) a s := by
  refine rg_read hm hg (fun w hw => ?_) h
  unfold Yld
  have hagg : (isAgg T).run P w = .ok false w := by
    unfold isAgg
    rw [Sem.run_bind, run_underlying hu w]
    cases dd <;> simp_all [isRow]
  simp [execOp, hx, Instr.loadAt, Instr.sureAddr, loadVar, hagg, run_load, hc w hw]
theorem Hd.at {w : World} {g e i : Nat} {xs : List Value} {v : Value} (hd : Hd w g e xs.toArray) (h : xs[i]? = some v) : w.cell? ⟨g, i, none⟩ = some v := by rw [hd.cell]; simpa using h
theorem cells_range {w : World} {g e : Nat} {cs : Array Value} (hd : Hd w g e cs) (i n : Nat) : w.rangeAt g i ((cs.toList.drop i).take n) := by
  intro j v hj
  rw [hd.cell]
  rw [List.getElem?_take] at hj
  split at hj
  · rw [List.getElem?_drop] at hj
    rw [← Array.getElem?_toList]
    exact hj
  cases hj
theorem rf_loadR {x : Operand} {T : TypeId} {g i n e : Nat} {cs : Array Value} {vs : List Value} {dd : TypeDesc} (hm : soft03 m = true) (hg : Region.wanted ⟨d, .load T x, t, p, af, gd⟩ (yielded ops a.tmps) = true)
    (hx : a.eval x = .pointer (some ⟨g, i, none⟩)) (hu : P.underlying T = some dd) (hr : dd.isRow = true) (hi : (P.info? T).map (·.size) = some n)
    (hc : ∀ w, Kn B F (kOf m s0 s) w → Hd w g e cs) (hv : (cs.toList.drop i).take n = vs) (hn : vs.length = n)
    (h : Rg R P ops Q B F s0 l (a.put d (.agg vs.toArray)) s) : Rg R P ops Q B F s0 ((⟨d, .load T x, t, p, af, gd⟩, m) :: l) a s := by
  refine rg_read hm hg (fun w hw => ?_) h
  have hrange : w.rangeAt g i vs := by rw [← hv]; exact cells_range (hc w hw) i n
  unfold Yld
  simp [execOp, hx, run_loadAt_mid w g i T vs dd hrange hu hr (by rw [hi, hn])]
theorem rf_loadC {x : Operand} {T : TypeId} {g i n : Nat} {vs : List Value} {dd : TypeDesc} (hm : soft03 m = true) (hg : Region.wanted ⟨d, .load T x, t, p, af, gd⟩ (yielded ops a.tmps) = true)
    (hx : a.eval x = .pointer (some ⟨g, i, none⟩)) (hu : P.underlying T = some dd) (hr : dd.isRow = true) (hi : (P.info? T).map (·.size) = some n) (hn : vs.length = n)
    (hc : ∀ w, Kn B F (kOf m s0 s) w → w.rangeAt g i vs)
    (h : Rg R P ops Q B F s0 l (a.put d (.agg vs.toArray)) s) : Rg R P ops Q B F s0 ((⟨d, .load T x, t, p, af, gd⟩, m) :: l) a s := by
  refine rg_read hm hg (fun w hw => ?_) h
  unfold Yld
  simp [execOp, hx, run_loadAt_mid w g i T vs dd (hc w hw) hu hr (by rw [hi, hn])]
def setMany : Array Value → Nat → List Value → Array Value
  | cs, _, [] => cs
  | cs, i, v :: vs => setMany (cs.setIfInBounds i v) (i + 1) vs
inductive UpdR (g i : Nat) (vs : List Value) : List Blk → List Blk → Prop
  | here (t : Nat) (cs : Array Value) (s : List Blk) : i + vs.length ≤ cs.size → UpdR g i vs ((g, .cells cs t) :: s) ((g, .cells (setMany cs i vs) t) :: s)
  | there (b : Blk) {s s' : List Blk} : UpdR g i vs s s' → UpdR g i vs (b :: s) (b :: s')
theorem UpdR.app {g i : Nat} {vs : List Value} {s s' : List Blk} (u : List Blk) (h : UpdR g i vs s s') : UpdR g i vs (u ++ s) (u ++ s') := by
  induction u with
  | nil => exact h
  | cons b u ih => exact .there b ih
theorem UpdR.mem {g i : Nat} {vs : List Value} {s s' : List Blk} (h : UpdR g i vs s s') : ∃ t cs, (g, Obj.cells cs t) ∈ s ∧ i + vs.length ≤ cs.size := by
  induction h with
  | here t cs s hle => exact ⟨t, cs, by simp, hle⟩
  | there b _ ih => obtain ⟨t, cs, h, hle⟩ := ih; exact ⟨t, cs, by simp [h], hle⟩
theorem UpdR.step {g i : Nat} {v : Value} {vs : List Value} {s s' : List Blk} (h : UpdR g i (v :: vs) s s') : ∃ s1, Upd g i v s s1 ∧ UpdR g (i + 1) vs s1 s' := by
  induction h with
  | here t cs s hle => exact ⟨_, Upd.here t cs s, by rw [setMany]; exact UpdR.here _ _ _ (by simp only [List.length_cons] at hle; simp; omega)⟩
  | there b _ ih => obtain ⟨s1, h1, h2⟩ := ih; exact ⟨_, .there b h1, .there b h2⟩
theorem UpdR.nilEq {g i : Nat} {s s' : List Blk} (h : UpdR g i [] s s') : s' = s := by
  induction h with
  | here => rfl
  | there b _ ih => rw [ih]
theorem Kn.putR {g : Nat} : ∀ {vs : List Value} {i : Nat} {s s' : List Blk} {w : World}, UpdR g i vs s s' → Kn B F s w → Kn B F s' (w.setCells g i vs)
  | [], _, _, _, _, h, K => by rw [h.nilEq]; exact K
  | v :: vs, i, s, s', w, h, K => by
    obtain ⟨s1, h1, h2⟩ := h.step
    have := Kn.putR h2 (K.set h1)
    exact this
theorem there_of {w : World} {g i n t : Nat} {cs : Array Value} (hd : Hd w g t cs) (h : i + n ≤ cs.size) : w.there g i n := fun j hj => by
  refine ⟨?_, hd.free _⟩
  rw [hd.cell, Array.getElem?_eq_getElem (by omega)]
  rfl
theorem rf_storeR {x y : Operand} {T : TypeId} {g i n : Nat} {vs : List Value} (hx : a.eval x = .pointer (some ⟨g, i, none⟩)) (hy : a.eval y = .agg vs.toArray) (hi : (P.info? T).map (·.size) = some n) (hn : vs.length = n)
    (h1 : vs.all (·.oneCell') = true) (hu : UpdR g i vs s s') (hz : ∀ z ∈ s0, z.1.Sublist s') (h : Rg R P ops Q B F s0 l (a.put d undef) s') :
    Rg R P ops Q B F s0 ((⟨d, .store T x y, t, p, af, none⟩, 1) :: l) a s := by
  refine rg_store (fun w K => ⟨w.setCells g i vs, ?_, K.putR hu⟩) hz h
  obtain ⟨t, cs, hm, hle⟩ := hu.mem
  have ht : w.there g i vs.toArray.size := there_of (K.hd hm) (by simpa using hle)
  unfold Dne
  have := run_storeAt_mid (P := P) w g i T vs.toArray ht (by rw [hi, ← hn]; simp) (by simpa using h1)
  simp [execOp, hx, hy, this]
theorem rf_storeRM {z : List Blk × List Blk} {x y : Operand} {T : TypeId} {g i n : Nat} {vs : List Value} (hx : a.eval x = .pointer (some ⟨g, i, none⟩)) (hy : a.eval y = .agg vs.toArray) (hi : (P.info? T).map (·.size) = some n) (hn : vs.length = n)
    (h1 : vs.all (·.oneCell') = true) (hu : UpdR g i vs s s') (hz : z.2.Sublist s') (h : Rg R P ops Q B F (some (z.2, z.2)) l (a.put d undef) s') :
    Rg R P ops Q B F (some z) ((⟨d, .store T x y, t, p, af, none⟩, 2) :: l) a s := by
  refine rg_storeM (fun w K => ⟨w.setCells g i vs, ?_, K.putR hu⟩) hz h
  obtain ⟨t, cs, hm, hle⟩ := hu.mem
  have ht : w.there g i vs.toArray.size := there_of (K.hd hm) (by simpa using hle)
  unfold Dne
  have := run_storeAt_mid (P := P) w g i T vs.toArray ht (by rw [hi, ← hn]; simp) (by simpa using h1)
  simp [execOp, hx, hy, this]
theorem run_store1 {x y : Operand} {T : TypeId} {g i : Nat} {w : World} (hx : a.eval x = .pointer (some ⟨g, i, none⟩)) (hy : a.eval y = v) (hi : (P.info? T).map (·.size) = some 1) (h1 : v.oneCell' = true) (hc : v.cells = #[v])
    (ht : w.there g i 1) : (execOp a.eval ⟨d, .store T x y, t, p, af, none⟩).run P w = .ok .skip (w.setCell ⟨g, i, none⟩ v) := by
  obtain ⟨h2, h3⟩ := ht 0 (by omega)
  rw [Nat.add_zero] at h2 h3
  cases hq : P.info? T with
  | none => simp [hq] at hi
  | some q =>
    have hs' : q.size = 1 := by simpa [hq] using hi
    have hst := run_storeCells_cells (P := P) g i [v] 0 w (fun j hj => by simp only [List.length_cons, List.length_nil] at hj; obtain rfl : j = 0 := (by omega); simpa using h2)
      (fun j hj => by simp only [List.length_cons, List.length_nil] at hj; obtain rfl : j = 0 := (by omega); simpa using h3) (fun u hu => by simp only [List.mem_singleton] at hu; subst hu; exact h1)
    simp only [Nat.add_zero] at hst
    simp [execOp, hx, hy, Instr.storeAt, Instr.sureAddr, storeVar, hc, sizeOf, typeInfo, hq, hs', hst]
    rfl
theorem rf_store {x y : Operand} {T : TypeId} {g i : Nat} (hx : a.eval x = .pointer (some ⟨g, i, none⟩)) (hy : a.eval y = v) (hi : (P.info? T).map (·.size) = some 1)
    (h1 : v.oneCell' = true) (hc : v.cells = #[v]) (hu : UpdR g i [v] s s') (hz : ∀ z ∈ s0, z.1.Sublist s') (h : Rg R P ops Q B F s0 l (a.put d undef) s') :
    Rg R P ops Q B F s0 ((⟨d, .store T x y, t, p, af, none⟩, 1) :: l) a s := by
  refine rg_store (fun w K => ⟨w.setCell ⟨g, i, none⟩ v, ?_, K.putR hu⟩) hz h
  obtain ⟨t, cs, hm, hle⟩ := hu.mem
  exact run_store1 hx hy hi h1 hc (there_of (K.hd hm) hle)
theorem rf_storeM {z : List Blk × List Blk} {x y : Operand} {T : TypeId} {g i : Nat} (hx : a.eval x = .pointer (some ⟨g, i, none⟩)) (hy : a.eval y = v) (hi : (P.info? T).map (·.size) = some 1)
    (h1 : v.oneCell' = true) (hc : v.cells = #[v]) (hu : UpdR g i [v] s s') (hz : z.2.Sublist s') (h : Rg R P ops Q B F (some (z.2, z.2)) l (a.put d undef) s') :
    Rg R P ops Q B F (some z) ((⟨d, .store T x y, t, p, af, none⟩, 2) :: l) a s := by
  refine rg_storeM (fun w K => ⟨w.setCell ⟨g, i, none⟩ v, ?_, K.putR hu⟩) hz h
  obtain ⟨t, cs, hm, hle⟩ := hu.mem
  exact run_store1 hx hy hi h1 hc (there_of (K.hd hm) hle)
end
theorem q9 {α : Type} {xs : List α} : xs.toArray.toList = xs := rfl
theorem q10 {α : Type} {x : α} {xs : List α} {n : Nat} : (x :: xs).drop (n + 1) = xs.drop n := rfl
theorem q11 {α : Type} {xs : List α} : xs.drop 0 = xs := rfl
theorem q12 {α : Type} {x : α} {xs : List α} {n : Nat} : (x :: xs).take (n + 1) = x :: xs.take n := rfl
theorem q13 {α : Type} {xs : List α} : xs.take 0 = [] := rfl
theorem q14 {cs : Array Value} {i : Nat} : setMany cs i [] = cs := rfl
theorem q15 {cs : Array Value} {i : Nat} {v : Value} {vs : List Value} : setMany cs i (v :: vs) = setMany (cs.setIfInBounds i v) (i + 1) vs := rfl
theorem q18 {vs : Array Value} {j : Nat} : cellAt (.agg vs) j = vs.getD j undef := rfl
theorem q16 {a b : Value} : bsel true a b = a := rfl
theorem q17 {a b : Value} : bsel false a b = b := rfl
theorem qn {α : Type} : (∀ (xs : List α) (i : Nat) (a : α), xs.toArray.setIfInBounds i a = (xs.set i a).toArray) ∧ (∀ (x : α) (xs : List α) (a : α), (x :: xs).set 0 a = a :: xs) ∧ (∀ (x : α) (xs : List α) (a : α) (n : Nat), (x :: xs).set (n + 1) a = x :: xs.set n a) ∧ (∀ (xs : Array α) (i : Nat) (d : α), xs.getD i d = xs[i]?.getD d) ∧ (∀ (xs : List α) (i : Nat), xs.toArray[i]? = xs[i]?) ∧ (∀ (x : α) (xs : List α), (x :: xs)[0]? = some x) ∧ (∀ (x : α) (xs : List α) (n : Nat), (x :: xs)[n + 1]? = xs[n]?) ∧ (∀ (x y : α), (some x).getD y = x) ∧ (∀ (xs : List α), xs.toArray.toList = xs) ∧ (∀ (x : α) (xs : List α) (n : Nat), (x :: xs).drop (n + 1) = xs.drop n) ∧ (∀ (xs : List α), xs.drop 0 = xs) ∧ (∀ (x : α) (xs : List α) (n : Nat), (x :: xs).take (n + 1) = x :: xs.take n) ∧ (∀ (xs : List α), xs.take 0 = []) :=
  ⟨fun _ _ _ => List.setIfInBounds_toArray .., fun _ _ _ => rfl, fun _ _ _ _ => rfl, fun _ _ _ => Array.getD_eq_getD_getElem? .., fun _ _ => List.getElem?_toArray .., fun _ _ => rfl, fun _ _ _ => rfl, fun _ _ => rfl, fun _ => rfl, fun _ _ _ => rfl, fun _ => rfl, fun _ _ _ => rfl, fun _ => rfl⟩
theorem qv : (∀ (cs : Array Value) (i : Nat), setMany cs i [] = cs) ∧ (∀ (cs : Array Value) (i : Nat) (v : Value) (vs : List Value), setMany cs i (v :: vs) = setMany (cs.setIfInBounds i v) (i + 1) vs) ∧ (∀ (vs : Array Value) (j : Nat), cellAt (.agg vs) j = vs.getD j undef) ∧ (∀ (a b : Value), bsel true a b = a) ∧ (∀ (a b : Value), bsel false a b = b) ∧ ((!true) = false) ∧ ((!false) = true) :=
  ⟨fun _ _ => rfl, fun _ _ _ _ => rfl, fun _ _ => rfl, fun _ _ => rfl, fun _ _ => rfl, rfl, rfl⟩
theorem qz : (∀ (t : Array Value) (ds : List Deferred) (d : Nat) (v : Value), Act.put ⟨t, ds⟩ (some d) v = ⟨t.setIfInBounds d v, ds⟩) ∧ (∀ (t : Array Value) (ds : List Deferred) (v : Value), Act.put ⟨t, ds⟩ none v = ⟨t, ds⟩) ∧
    (∀ (t : Array Value) (ds : List Deferred) (k : Nat), Act.eval ⟨t, ds⟩ (.tmp k) = t.getD k undef) ∧ (∀ (a : Act) (v : Value), Act.eval a (.const v) = v) ∧ (∀ (a : Act) (g : Nat), Act.eval a (.global g) = .pointer (some ⟨g, 0, none⟩)) ∧ (∀ (a : Act) (f : Nat), Act.eval a (.func f) = .func (.func f) #[] #[]) ∧
    (∀ (xs : List Value) (i : Nat) (a : Value), xs.toArray.setIfInBounds i a = (xs.set i a).toArray) ∧ (∀ (x : Value) (xs : List Value) (a : Value), (x :: xs).set 0 a = a :: xs) ∧ (∀ (x : Value) (xs : List Value) (a : Value) (n : Nat), (x :: xs).set (n + 1) a = x :: xs.set n a) ∧
    (∀ (xs : Array Value) (i : Nat) (d : Value), xs.getD i d = xs[i]?.getD d) ∧ (∀ (xs : List Value) (i : Nat), xs.toArray[i]? = xs[i]?) ∧ (∀ (x : Value) (xs : List Value), (x :: xs)[0]? = some x) ∧ (∀ (x : Value) (xs : List Value) (n : Nat), (x :: xs)[n + 1]? = xs[n]?) ∧ (∀ (x y : Value), (some x).getD y = x) ∧
    (∀ (xs : List Value), xs.toArray.toList = xs) ∧ (∀ (x : Value) (xs : List Value) (n : Nat), (x :: xs).drop (n + 1) = xs.drop n) ∧ (∀ (xs : List Value), xs.drop 0 = xs) ∧ (∀ (x : Value) (xs : List Value) (n : Nat), (x :: xs).take (n + 1) = x :: xs.take n) ∧ (∀ (xs : List Value), xs.take 0 = []) ∧
    (∀ (cs : Array Value) (i : Nat), setMany cs i [] = cs) ∧ (∀ (cs : Array Value) (i : Nat) (v : Value) (vs : List Value), setMany cs i (v :: vs) = setMany (cs.setIfInBounds i v) (i + 1) vs) ∧ (∀ (vs : Array Value) (j : Nat), cellAt (.agg vs) j = vs.getD j undef) ∧ (∀ (a b : Value), bsel true a b = a) ∧ (∀ (a b : Value), bsel false a b = b) ∧ ((!true) = false) ∧ ((!false) = true) :=
  ⟨fun _ _ _ _ => rfl, fun _ _ _ => rfl, fun _ _ _ => rfl, fun _ _ => rfl, fun _ _ => rfl, fun _ _ => rfl, fun _ _ _ => List.setIfInBounds_toArray .., fun _ _ _ => rfl, fun _ _ _ _ => rfl, fun _ _ _ => Array.getD_eq_getD_getElem? .., fun _ _ => List.getElem?_toArray .., fun _ _ => rfl, fun _ _ _ => rfl, fun _ _ => rfl,
    fun _ => rfl, fun _ _ _ => rfl, fun _ => rfl, fun _ _ _ => rfl, fun _ => rfl, fun _ _ => rfl, fun _ _ _ _ => rfl, fun _ _ => rfl, fun _ _ => rfl, fun _ _ => rfl, rfl, rfl⟩
theorem qy : (∀ (x : Oper) (xs : List Oper) (y : Nat) (ys : List Nat), (x :: xs).zip (y :: ys) = (x, y) :: xs.zip ys) ∧ (∀ (xs : List Oper), xs.zip ([] : List Nat) = []) := ⟨fun _ _ _ _ => rfl, fun _ => List.zip_nil_right⟩
theorem qd : (∀ (p : Prop) [Decidable p], (decide p = true) = p) ∧ (∀ (p : Prop) [Decidable p], (decide p = false) ↔ ¬ p) ∧ (∀ a b : Int, (¬ a < b) ↔ b ≤ a) ∧ (∀ a b : Int, (¬ a ≤ b) ↔ b < a) ∧ (∀ a b : Int, ((a == b) = true) ↔ a = b) ∧ (∀ a b : Int, ((a == b) = false) ↔ ¬ a = b) ∧ (∀ a b : Int, ((a != b) = true) ↔ ¬ a = b) ∧ (∀ a b : Int, ((a != b) = false) ↔ a = b) ∧ (∀ b : Bool, ((!b) = true) = (b = false)) ∧ (∀ b : Bool, ((!b) = false) = (b = true)) :=
  ⟨fun p _ => decide_eq_true_eq, fun p _ => decide_eq_false_iff_not, fun _ _ => Int.not_lt, fun _ _ => Int.not_le, fun _ _ => beq_iff_eq, fun _ _ => beq_eq_false_iff_ne, fun _ _ => bne_iff_ne, fun _ _ => bne_eq_false_iff_eq, fun b => by cases b <;> simp, fun b => by cases b <;> simp⟩
theorem Kx {p : Prop} (h : p := by kernel_rfl) : p := h
theorem Ox {p : Prop} (h : p := by omega) : p := h
theorem Rx {p : Prop} (h : p := by rfl) : p := h
theorem Ax {p : Prop} (h : p := by (simp only [qm, qs, Act.eval]; exact rfl)) : p := h
theorem Nl {a b : Nat} (h : Nat.ble a b = true := by rfl) : a ≤ b := Nat.le_of_ble_eq_true h
theorem Nz {q : List Blk × List Blk → Prop} : ∀ z ∈ (none : Option (List Blk × List Blk)), q z := fun _ h => by cases h
section
variable {R : Option Nat} {P : Program} {ops : Array Oper} {Q : Exit → Act → World → Prop} {B : World} {F : List Nat}
variable {l : List (Oper × Nat)} {a : Act} {s : List Blk} {d : Option Tmp} {op : Op} {t : TypeId} {p : String} {af : Array Edge}
theorem Rgn {cs : Array Value} {ty : Nat} {gd : Option (Nat × Bool)} (h : ∀ g, Rg R P ops Q B F none l (a.put d (.pointer (some ⟨g, 0, none⟩))) ((g, .cells cs ty) :: s))
    (hg : Region.wanted ⟨d, op, t, p, af, gd⟩ (yielded ops a.tmps) = true := by rfl) (hr : ∀ w : World, (execOp a.eval ⟨d, op, t, p, af, gd⟩).run P w = .ok (.value (.pointer (some ⟨w.heap.size, 0, none⟩))) (w.alloc (.cells cs ty)) := by (intro w; go_simp; rfl)) :
    Rg R P ops Q B F none ((⟨d, op, t, p, af, gd⟩, 1) :: l) a s := rg_new hg hr (fun _ h => by cases h) h
end
theorem Tf {x b : Bool} (h : b = x) (hb : b = false := by first | rfl | exact decide_eq_false (by omega) | exact beq_eq_false_iff_ne.2 (by omega) | exact bne_eq_false_iff_eq.2 (by omega) | (simp; omega) | (simp; done)) : x = false := h.symm.trans hb
theorem Tt {x b : Bool} (h : b = x) (hb : b = true := by first | rfl | exact decide_eq_true (by omega) | exact beq_iff_eq.2 (by omega) | exact bne_iff_ne.2 (by omega) | (simp; omega) | (simp; done)) : x = true := h.symm.trans hb
def qW := And.intro @q1 <| And.intro @q2 <| And.intro @q3 <| And.intro @q4 <| And.intro @q5 <| And.intro @q6 <| And.intro @q7 <| And.intro @q8 <| And.intro @q9 <| And.intro @q10 <| And.intro @q11 <| And.intro @q12 <| And.intro @q13 <| And.intro @q14 <| And.intro @q15 <| And.intro @q16 <| And.intro @q17 <| @q18
theorem Zm {P Q : Prop} (h : Q) (e : Q → P := by (refine fun h => ?_; (try simp only [qy]); (try simp only [qz]); (repeat ((first | with_reducible refine rg_move ?_ | with_reducible refine rg_assign ?_ | ((with_reducible refine rg_skip ?_ ?_); exact rfl)); simp only [qz])); exact h)) : P := e h
theorem Zx {P Q : Prop} (h : Q) (e : Q → P := by (refine fun h => ?_; (try simp only [qy]); (try simp only [qz]); (repeat ((first | with_reducible refine rg_move ?_ | with_reducible refine rg_assign ?_ | ((with_reducible refine rg_skip ?_ ?_); exact rfl) | ((with_reducible apply rf_extract); exact rfl; exact rfl; exact rfl; exact rfl) | ((with_reducible apply rf_pick); exact rfl; exact rfl; exact rfl) | ((with_reducible apply rf_not); exact rfl; exact rfl; exact rfl)); simp only [qz])); exact h)) : P := e h
theorem Nw {P Q : Prop} (h : Q) (e : Q → P := by (refine fun h => ?_; simp only [qz, Nat.reduceAdd]; exact h)) : P := e h
theorem Gy {p : Prop} (h : p := by (go_simp; (try go_bits); exact Yld.mk _ _)) : p := h
theorem Sa {α : Type} {a b : List α} (h : a.Sublist b) (l : List α) : (l ++ a).Sublist (l ++ b) := h.append_left l
theorem Sr {α : Type} (a b : List α) : b.Sublist (a ++ b) := List.sublist_append_right a b
theorem Nq {P Q : Prop} (h : Q) (e : Q → P := by (refine fun h => ?_; simp only [qz]; exact h)) : P := e h
theorem Zr {P Q : Prop} (h : Q) (e : Q → P := by (refine fun h => ?_; refine rg_nil ?_; (repeat (first | with_reducible refine ek_next ?_ | with_reducible refine wk_seq ?_ | ((with_reducible refine wk_cond_t ?_ ?_); exact rfl) | ((with_reducible refine wk_cond_f ?_ ?_); exact rfl) | with_reducible refine wk_skip ?_ | with_reducible refine wk_block ?_ | with_reducible refine wk_ret ?_ | with_reducible refine wk_exit ?_ | with_reducible refine ek_then_ret ?_ | with_reducible refine ek_then_exit ?_ | with_reducible refine ek_block_ret ?_ | with_reducible refine ek_block_exit ?_ | with_reducible refine ek_block ?_ | with_reducible refine ek_again ?_)); exact h)) : P := e h
section
variable {R : Option Nat} {P : Program} {Q : Exit → Act → World → Prop} {B : World} {F : List Nat} {id : Nat} {a : Act} {s : List Blk} {l : List Oper}
theorem Wr (f : List Nat) {T : Prop} (h : T) (hf : f.length = l.length := by rfl) (hd : noDefer l = true := by kernel_rfl) (e : T → Rg R P l.toArray Q B F none (l.zip f) a s := by (refine fun h => ?_; simp only [qy]; exact h)) : Wk R P B F Q a s (Code.region id l.toArray false) := wk_region f hf hd (e h)
theorem Wm (f : List Nat) {T : Prop} (h : T) (hf : f.length = l.length := by rfl) (hd : noDefer l = true := by kernel_rfl) (e : T → Rg R P l.toArray Q B F none (l.zip f) a s := by (refine fun h => ?_; simp only [qy]; (repeat ((first | with_reducible refine rg_move ?_ | with_reducible refine rg_assign ?_ | ((with_reducible refine rg_skip ?_ ?_); exact rfl)); simp only [qz])); exact h)) : Wk R P B F Q a s (Code.region id l.toArray false) := wk_region f hf hd (e h)
theorem Wx (f : List Nat) {T : Prop} (h : T) (hf : f.length = l.length := by rfl) (hd : noDefer l = true := by kernel_rfl) (e : T → Rg R P l.toArray Q B F none (l.zip f) a s := by (refine fun h => ?_; simp only [qy]; (repeat ((first | with_reducible refine rg_move ?_ | with_reducible refine rg_assign ?_ | ((with_reducible refine rg_skip ?_ ?_); exact rfl) | ((with_reducible apply rf_extract); exact rfl; exact rfl; exact rfl; exact rfl) | ((with_reducible apply rf_pick); exact rfl; exact rfl; exact rfl) | ((with_reducible apply rf_not); exact rfl; exact rfl; exact rfl)); simp only [qz])); exact h)) : Wk R P B F Q a s (Code.region id l.toArray false) := wk_region f hf hd (e h)
theorem Er {fn : Func} {R : Ending → World → Prop} {k : Nat} (h : ∀ w, Kn B F s w → R (.returned (a.tmps.getD k undef)) w) (hk : fn.results = #[.tmp k] := by rfl) (hd : a.defers = [] := by rfl) : Ek B F (bodyPost P fn R) .ret a s := ek_ret fun w hw => ⟨hd, _, res_t _ hk, h w hw⟩
end
section
variable {R : Option Nat} {P : Program} {ops : Array Oper} {Q : Exit → Act → World → Prop} {B : World} {F : List Nat} {s0 : Option (List Blk × List Blk)}
variable {l : List (Oper × Nat)} {a : Act} {s : List Blk} {d : Option Tmp} {op : Op} {t : TypeId} {p : String} {af : Array Edge}
theorem Zk {v : Value} {T : Prop} (h : T) (hy : ∀ w, Kn B F (zOf s0 s) w → Yld ((execOp a.eval ⟨d, op, t, p, af, none⟩).run P w) v w := by (intro w hw; go_simp; (try go_bits); exact Yld.mk _ _))
    (e : T → Rg R P ops Q B F s0 l (a.put d v) s := by (refine fun h => ?_; simp only [qz]; (repeat ((first | with_reducible refine rg_move ?_ | with_reducible refine rg_assign ?_ | ((with_reducible refine rg_skip ?_ ?_); exact rfl)); simp only [qz])); exact h)) :
    Rg R P ops Q B F s0 ((⟨d, op, t, p, af, none⟩, 0) :: l) a s := rg_soft hy (e h)
end
section
variable {R : Option Nat} {P : Program} {ops : Array Oper} {Q : Exit → Act → World → Prop} {B : World} {F : List Nat} {s0 : Option (List Blk × List Blk)}
variable {l : List (Oper × Nat)} {a : Act} {s : List Blk} {d : Option Tmp} {t : TypeId} {p : String} {af : Array Edge} {gd : Option (Nat × Bool)} {m : Nat}
theorem Fd (n j : Nat) {T k : Nat} {x : Operand} {g i : Nat} {fs : Array Field} {f : Field} (hu : P.underlying T = some (.struct fs)) {G : Prop} (h : G) (hm : soft03 m = true := by rfl) (hg : Region.wanted ⟨d, .fieldAddr T x k, t, p, af, gd⟩ (yielded ops a.tmps) = true := by rfl)
    (hx : a.eval x = .pointer (some ⟨g, i, none⟩) := by rfl) (hf : fs[k]? = some f := by rfl) (hs : (P.info? f.type).map (·.size) = some (n + 1) := by kernel_rfl) (hj : i + f.offset = j := by rfl)
    (e : G → Rg R P ops Q B F s0 l (a.put d (.pointer (some ⟨g, j, none⟩))) s := by (refine fun h => ?_; simp only [qz]; exact h)) : Rg R P ops Q B F s0 ((⟨d, .fieldAddr T x k, t, p, af, gd⟩, m) :: l) a s := rf_field hm hg hx hu hf hs hj (e h)
theorem Fx (n j : Nat) {T k : Nat} {x : Operand} {g i : Nat} {fs : Array Field} {f : Field} (hu : P.underlying T = some (.struct fs)) {G : Prop} (h : G) (hm : soft03 m = true := by rfl) (hg : Region.wanted ⟨d, .fieldAddr T x k, t, p, af, gd⟩ (yielded ops a.tmps) = true := by rfl)
    (hx : a.eval x = .pointer (some ⟨g, i, none⟩) := by rfl) (hf : fs[k]? = some f := by rfl) (hs : (P.info? f.type).map (·.size) = some (n + 1) := by kernel_rfl) (hj : i + f.offset = j := by rfl)
    (e : G → Rg R P ops Q B F s0 l (a.put d (.pointer (some ⟨g, j, none⟩))) s := by (refine fun h => ?_; simp only [qz]; (repeat ((first | with_reducible refine rg_move ?_ | with_reducible refine rg_assign ?_ | ((with_reducible refine rg_skip ?_ ?_); exact rfl) | ((with_reducible apply rf_extract); exact rfl; exact rfl; exact rfl; exact rfl) | ((with_reducible apply rf_pick); exact rfl; exact rfl; exact rfl) | ((with_reducible apply rf_not); exact rfl; exact rfl; exact rfl)); simp only [qz])); exact h)) : Rg R P ops Q B F s0 ((⟨d, .fieldAddr T x k, t, p, af, gd⟩, m) :: l) a s := rf_field hm hg hx hu hf hs hj (e h)
theorem Ia (n sz j : Nat) {T : Nat} {x y : Operand} {g i len el : Nat} {k : IntKind} (hu : P.underlying T = some (.array len el)) {G : Prop} (h : G) (hm : soft03 m = true := by rfl) (hg : Region.wanted ⟨d, .indexAddr T x y, t, p, af, gd⟩ (yielded ops a.tmps) = true := by rfl)
    (hx : a.eval x = .pointer (some ⟨g, i, none⟩) := by rfl) (hy : a.eval y = .int k (n : Int) := by rfl) (hs : (P.info? el).map (·.size) = some sz := by kernel_rfl) (hn : n < len := by decide) (hj : i + n * sz = j := by rfl)
    (e : G → Rg R P ops Q B F s0 l (a.put d (.pointer (some ⟨g, j, none⟩))) s := by (refine fun h => ?_; simp only [qz]; exact h)) : Rg R P ops Q B F s0 ((⟨d, .indexAddr T x y, t, p, af, gd⟩, m) :: l) a s := rf_indexA hm hg hx hy hu hs hn hj (e h)
theorem Ix (n sz j : Nat) {T : Nat} {x y : Operand} {g i len el : Nat} {k : IntKind} (hu : P.underlying T = some (.array len el)) {G : Prop} (h : G) (hm : soft03 m = true := by rfl) (hg : Region.wanted ⟨d, .indexAddr T x y, t, p, af, gd⟩ (yielded ops a.tmps) = true := by rfl)
    (hx : a.eval x = .pointer (some ⟨g, i, none⟩) := by rfl) (hy : a.eval y = .int k (n : Int) := by rfl) (hs : (P.info? el).map (·.size) = some sz := by kernel_rfl) (hn : n < len := by decide) (hj : i + n * sz = j := by rfl)
    (e : G → Rg R P ops Q B F s0 l (a.put d (.pointer (some ⟨g, j, none⟩))) s := by (refine fun h => ?_; simp only [qz]; (repeat ((first | with_reducible refine rg_move ?_ | with_reducible refine rg_assign ?_ | ((with_reducible refine rg_skip ?_ ?_); exact rfl) | ((with_reducible apply rf_extract); exact rfl; exact rfl; exact rfl; exact rfl) | ((with_reducible apply rf_pick); exact rfl; exact rfl; exact rfl) | ((with_reducible apply rf_not); exact rfl; exact rfl; exact rfl)); simp only [qz])); exact h)) : Rg R P ops Q B F s0 ((⟨d, .indexAddr T x y, t, p, af, gd⟩, m) :: l) a s := rf_indexA hm hg hx hy hu hs hn hj (e h)
end
abbrev UU26 := @Tryz.underlying26
abbrev UU23 := @Tryz.underlying23
abbrev UU33 := @Tryz.underlying33
abbrev UU3 := @Tryz.underlying3
abbrev UU42 := @Tryz.underlying42
abbrev UU44 := @Tryz.underlying44
abbrev UU135 := @Tryz.underlying135
abbrev UU28 := @Tryz.underlying28
abbrev UU79 := @Tryz.underlying79
abbrev UU36 := @Tryz.underlying36
abbrev UU141 := @Tryz.underlying141
abbrev UU140 := @Tryz.underlying140
abbrev UU2 := @Tryz.underlying2
abbrev UU38 := @Tryz.underlying38
abbrev UU4 := @Tryz.underlying4
abbrev UU39 := @Tryz.underlying39
abbrev UU41 := @Tryz.underlying41
abbrev UU72 := @Tryz.underlying72
abbrev UU22 := @Tryz.underlying22
abbrev UU111 := @Tryz.underlying111
abbrev UU166 := @Tryz.underlying166
abbrev UU168 := @Tryz.underlying168
abbrev UU164 := @Tryz.underlying164
abbrev UU142 := @Tryz.underlying142
open Go.ChangeShapes Go.WideShapes Go.ChangeAt Go.RowKit
section
variable {H : Type} {enc : TypeId × Value → H} {P : Program}
theorem trodAll_stays (hl : laidOutB P = true) {W W' : World} {sp : Nat → Bool} (hb : Below W.heap.size W W') : ∀ {ts : List TypeId} {vs : List Value} {ds : List (DataW H)} {ps : List MemPlace},
    (ts.all fun t => P.readableRec t && decide (t < P.types.size)) = true → DataW.TrodAll enc P W 0 (fun _ => true) true ts vs ds ps → (∀ x ∈ ps, x.block < W.heap.size) → (∀ x ∈ ps, sp x.block = true) →
    DataW.TrodAll enc P W' 0 sp true ts vs ds ps
  | [], [], [], _, _, h, _, _ => h
  | _ :: _, _ :: _, _ :: _, _, ht, ⟨p, q, h1, h2, e⟩, hlt, hs => by
    simp only [List.all_cons, Bool.and_eq_true, decide_eq_true_eq] at ht
    exact ⟨p, q, WideElems.Trod_stays hl ht.1.1 ht.1.2 h1 (fun x hx => hb.same (hlt x (by rw [e]; exact List.mem_append_left _ hx))) (fun x hx => hs x (by rw [e]; exact List.mem_append_left _ hx)),
      trodAll_stays hl hb (by simpa only [Bool.and_eq_true] using ht.2) h2 (fun x hx => hlt x (by rw [e]; exact List.mem_append_right _ hx)) (fun x hx => hs x (by rw [e]; exact List.mem_append_right _ hx)), e⟩
  | [], _ :: _, _, _, _, h, _, _ => by simp [DataW.TrodAll] at h
  | [], [], _ :: _, _, _, h, _, _ => by simp [DataW.TrodAll] at h
  | _ :: _, [], _, _, _, h, _, _ => by simp [DataW.TrodAll] at h
  | _ :: _, _ :: _, [], _, _, h, _, _ => by simp [DataW.TrodAll] at h
theorem post_reads {f : Func} {s : ChangeSpec} {apart fresh handsOn again : Bool} {W W' : World} {args : Array Value} {v : Value} {ds : List (DataW H)} {before : List MemPlace}
    (hl : laidOutB P = true) (hts : (f.params.toList.all fun t => P.readableRec t && decide (t < P.types.size)) = true)
    (hW : DataW.Whole enc P f.params.toList s.vars apart W args.toList ds [] before) (hv : s.vars = [])
    (hA : DataW.TrodAll enc P W 0 (fun _ => true) true f.params.toList args.toList ds before)
    (hres : ∀ (b : Nat) (sp : Nat → Bool) (hd : Bool), DataW.TrodAll enc P W' b sp hd f.resultTypes.toList (v.resultList f.resultTypes.size) (s.fn H (ds ++ [])).results [])
    (harg : (s.fn H (ds ++ [])).args = ds) (hvar : (s.fn H (ds ++ [])).vars = [])
    (hb : Below W.heap.size W W')
    (hok : ∀ (j : Nat) (t : TypeId) (r : Value), f.resultTypes[j]? = some t → (v.resultList f.resultTypes.size)[j]? = some r → Value.okWide P W' .any 0 t r) :
    s.post enc P f apart fresh handsOn again W args v W' := by
  have hlt : ∀ p ∈ before, p.block < W.heap.size := fun p hp => hW.lt p hp
  have hold : ∀ p ∈ before, (fun b => decide (b < W.heap.size)) p.block = true := fun p hp => by simpa using hlt p hp
  have hargs : ∀ sp : Nat → Bool, (∀ p ∈ before, sp p.block = true) → DataW.TrodAll enc P W' 0 sp true f.params.toList args.toList (s.fn H (ds ++ [])).args before := fun sp hs => by
    rw [harg]; exact trodAll_stays hl hb hts hA hlt hs
  have hvars : ∀ sp : Nat → Bool, DataW.TrodVars enc P W' sp s.vars (s.fn H (ds ++ [])).vars [] := fun sp => by rw [hv, hvar]; rfl
  refine ⟨ds, [], before, [], before, [], hW, hres _ _ _, hargs _ hold, hvars _, World.keptBut_mono (fun p hp => ⟨hp, .inr (.inl hp)⟩) (hb.frame (· ∈ before)), fun _ => ?_⟩
  obtain ⟨_, _, _, _, _, hz, hn⟩ := hW
  refine ⟨hok, _, _, ([] ++ before) ++ [], ⟨[] ++ before, [], trodAll_append (hargs _ (fun _ _ => rfl)) (hres _ _ _), hvars _, rfl, ?_, ?_⟩, ?_⟩
  · intro b off hp
    have hin : MemPlace.cell b off ∈ before := by simpa using hp
    rw [hb.frozen (hlt _ hin)]
    exact hz b off hin
  · intro ha
    have := hn ha
    simpa using this
  · intro p hp _
    simpa using hp
theorem open_as {t e : TypeId} {k : IntKind} {W : World} {base : Nat} {v : Value} {d : DataW H} {p : List MemPlace} (ht : P.underlying t = some (.slice e)) (he : P.underlying e = some (.int k)) (hc : P.cellsOf e = 1)
    (hval : Value.okWide P W .any base t v) (h : DataW.Trod enc P W 0 (fun _ => true) true t v d p) (hlt : ∀ x ∈ p, x.block < W.heap.size) :
    ∃ (xs : List Int) (a : Option Addr) (c : Nat), v = .slice a xs.length c ∧ AS W a (xs.map (.int k)) ∧ (∀ x ∈ xs, (Lit.int k x).wf = true) ∧ xs.length ≤ maxLen := by
  obtain ⟨a0, len, cap, rfl⟩ := okWide_slice ht hval
  obtain ⟨fuel, hf⟩ := h
  rcases open_ints ht he hc hf with ⟨hcs, hx⟩ | ⟨a, len', cap', zs, hcs, _, hl, hm, hz, hx, hcell, hwz⟩
  · simp [Value.cells] at hcs
    obtain ⟨rfl, rfl, rfl⟩ := hcs
    exact ⟨[], none, 0, rfl, AS.nil, by simp, by simp⟩
  · simp [Value.cells] at hcs
    obtain ⟨rfl, rfl, rfl⟩ := hcs
    simp only [Prod.mk.injEq] at hx
    obtain ⟨rfl, rfl⟩ := hx
    simp only [if_true] at hz
    have hlen : (zs.take len).length = len := by rw [List.length_take]; omega
    refine ⟨zs.take len, some a, cap, by rw [hlen], fun hne => ?_, fun x hx => hwz x (List.mem_of_mem_take hx), by omega⟩
    have hl0 : 0 < len := by
      rcases Nat.eq_zero_or_pos len with h0 | h0
      · subst h0; simp at hne
      · exact h0
    obtain ⟨b, off, spot⟩ := a
    have hspot : spot = none := by simpa [Addr.add] using World.cell?_spot (hcell 0 (by omega))
    subst hspot
    refine ⟨b, off, rfl, hlt (.cell b off) (MemPlace.mem_row.2 ⟨0, by omega, by simp⟩), fun j hj => ?_⟩
    rw [List.length_map, hlen] at hj
    have := hcell j (by omega)
    have e : (⟨b, off, none⟩ : Addr).add j = ⟨b, off + j, none⟩ := by simp [Addr.add]
    rw [e] at this
    rw [this, List.getElem?_map, List.getElem?_take_of_lt hj, List.getD_eq_getElem?_getD]
    have hjz : j < zs.length := by omega
    simp [List.getElem?_eq_getElem hjz]
end
end Go.Proofs.YthjjkajjpejcdaaGreat
