/- Texts in one: Ort, Pg5, Zs, PgK, Pg7, RtR, Orr, SmE, FrmT, Mul64, Ws1. -/
import Derived.Test.YtccbinnlnkpplaaLFewerG
import Derived.OrdersIn
import Derived.Deep.Slices
import Derived.Lib.SmallJoins
import Derived.Lib.Mul64
import Derived.Laws.Bits64b
import Derived.Lib.Strings
import Derived.Lib.Slices
import Derived.Lib.Small
import Derived.Lib.Walk
import Derived.Lib.BitFns
import Derived.Lib.ItoaNum
import Derived.Deep.Light
namespace Go.Proofs.Ytccbinnlnkpplaa
set_option linter.all false
open Go.RowKit

section
variable {P : Program} {ops : Array Oper} {Q : Exit → Act → World → Prop} {md : Region.Mode}
/-- What has come up has all that it waits for. -/
def Cl (md : Region.Mode) (ops : Array Oper) (listed : Array Bool) : Prop := ∀ k ok, ops[k]? = some ok → listed.getD k false = true → ∀ e ∈ ok.after, Region.binds md e = true → listed.getD e.on false = true
theorem Cl.step {listed : Array Bool} {j : Nat} (h : Cl md ops listed) (hj : j ∈ Region.ready md ops listed) : Cl md ops (listed.setIfInBounds j true) := fun k ok hk hl e he hb => by
  by_cases e1 : j = k
  · subst e1
    obtain ⟨-, o, ho, hall⟩ := mem_ready.1 hj
    rw [hk] at ho
    cases ho
    exact getD_set_true (hall e he hb)
  · rw [getD_set_ne false e1] at hl
    exact getD_set_true (h k ok hk hl e he hb)
/-- m waits for i, through other operations too. -/
def reachT (md : Region.Mode) (ops : Array Oper) : Nat → Nat → Nat → Bool
  | 0, _, _ => false
  | f + 1, m, i => match ops[m]? with
    | some o => o.after.any fun e => Region.binds md e && (e.on == i || reachT md ops f e.on i)
    | none => false
theorem reach_listed {listed : Array Bool} {i : Nat} (h : Cl md ops listed) : ∀ (f d : Nat), listed.getD d false = true → reachT md ops f d i = true → listed.getD i false = true
  | 0, _, _, hr => by cases hr
  | f + 1, d, hd, hr => by
    unfold reachT at hr
    cases ho : ops[d]? with
    | none => rw [ho] at hr; cases hr
    | some o =>
      rw [ho] at hr
      simp only [Array.any_eq_true, Bool.and_eq_true, Bool.or_eq_true, beq_iff_eq] at hr
      obtain ⟨n, hn, hb, hor⟩ := hr
      have hl := h d o ho hd _ (Array.getElem_mem hn) hb
      rcases hor with e | e
      · rw [← e]; exact hl
      · exact reach_listed h f _ hl e
theorem reach_ready {listed : Array Bool} {m i f : Nat} (h : Cl md ops listed) (hm : m ∈ Region.ready md ops listed) (hr : reachT md ops f m i = true) : listed.getD i false = true := by
  cases f with
  | zero => cases hr
  | succ f =>
    unfold reachT at hr
    obtain ⟨-, o, ho, hall⟩ := mem_ready.1 hm
    rw [ho] at hr
    simp only [Array.any_eq_true, Bool.and_eq_true, Bool.or_eq_true, beq_iff_eq] at hr
    obtain ⟨n, hn, hb, hor⟩ := hr
    have hl := hall _ (Array.getElem_mem hn) hb
    rcases hor with e | e
    · rw [← e]; exact hl
    · exact reach_listed h f _ hl e
/-- An operation that may come up now may be taken first: nothing that does not wait for it changes what is known. -/
theorem wpAnyF_firstT {S : Array Bool → World → Prop} {T : World → Prop} {i : Nat} {oi : Oper} {v : Value} (hi : ops[i]? = some oi) (hsel : ∀ (j : Nat) (o : Oper) cs b, ops[j]? = some o → o.op ≠ .select cs b)
    (hQ : ∀ c a w, Q (.panic c) (a.put oi.dst v) w → Q (.panic c) a w)
    (hSi : ∀ listed w, S (listed.setIfInBounds i true) w ↔ S listed w)
    (hSj : ∀ j listed, Cl md ops listed → j ∈ Region.ready md ops listed → listed.getD i true = false → (∀ w, S listed w → T w) → ∀ w, S (listed.setIfInBounds j true) w → T w) :
    ∀ (fuel : Nat) (listed : Array Bool) (a : Act) (w : World), Cl md ops listed → (∀ w, S listed w → T w) →
      (∀ j oj, ops[j]? = some oj → j ≠ i → listed.getD j true = false → (∀ e ∈ oj.after, Region.binds md e = true → e.on ≠ i) → oi.apart ops oj = true) →
      i ∈ Region.ready md ops listed → YieldsIf P ops T oi v a → S listed w →
      wpAnyF P md ops Q S fuel (listed.setIfInBounds i true) (a.put oi.dst v) w → wpAnyF P md ops Q S (fuel + 1) listed a w := by
  intro fuel
  induction fuel with
  | zero =>
    intro listed a w hC hT _ hr hy hS H
    refine ⟨fun h => (by rw [h] at hr; cases hr), fun j hj => ?_⟩
    by_cases hji : j = i
    · subst hji; exact hy.wpOp hi (hT w hS) ⟨(hSi _ _).2 hS, H⟩
    · have := ready_mono hj hji
      rw [H.1] at this
      cases this
  | succ fuel ih =>
    intro listed a w hC hT hfree hr hy hS H
    refine ⟨fun h => (by rw [h] at hr; cases hr), fun j hj => ?_⟩
    by_cases hji : j = i
    · subst hji; exact hy.wpOp hi (hT w hS) ⟨(hSi _ _).2 hS, H⟩
    · have h1 := H.2 j (ready_mono hj hji)
      obtain ⟨hjun, oj, hoj, hall⟩ := mem_ready.1 hj
      have hnot : ∀ e ∈ oj.after, Region.binds md e = true → e.on ≠ i := fun e he hb heq => by
        have h1 := hall e he hb
        have h0 := (mem_ready.1 hr).1
        rw [heq] at h1
        rcases Nat.lt_or_ge i listed.size with h' | h'
        · simp [h'] at h0 h1; rw [h0] at h1; cases h1
        · simp [Array.getElem?_eq_none h'] at h1
      have h2 := wpOp_putIf hoj (hfree j oj hoj hji hjun hnot) (fun cs b => hsel i oi cs b hi) (fun cs b => hsel j oj cs b hoj) hQ hy h1
      have hfree' : ∀ k ok, ops[k]? = some ok → k ≠ i → (listed.setIfInBounds j true).getD k true = false →
          (∀ e ∈ ok.after, Region.binds md e = true → e.on ≠ i) → oi.apart ops ok = true := fun k ok hk hki hun hno => by
        refine hfree k ok hk hki ?_ hno
        by_cases hjk : j = k
        · subst hjk; exact hjun
        · rw [getD_set_ne true hjk] at hun; exact hun
      have hSjj := hSj j listed hC hj (mem_ready.1 hr).1 hT
      refine wpOp_mono (fun a' w' h3 => ?_) h2
      have hS3 : S (listed.setIfInBounds j true) w' := by
        have := h3.2.1
        rw [Array.setIfInBounds_comm _ _ (Ne.symm hji)] at this
        exact (hSi _ _).1 this
      refine ⟨hS3, ih (listed.setIfInBounds j true) a' w' (hC.step hj) hSjj hfree' (ready_mono hr (Ne.symm hji)) h3.1 hS3 ?_⟩
      rw [Array.setIfInBounds_comm _ _ hji]
      exact h3.2.2

/-- The check of an order; ms: the marked operations that are still to come. -/
def eagT (md : Region.Mode) (ops : Array Oper) : List (Nat × Nat) → List Nat → Array Bool → Bool
  | [], ms, listed => (Region.ready md ops listed).isEmpty
  | (i, 0) :: l, ms, listed => (Region.ready md ops listed).contains i && (Region.free md ops listed i &&
      ((ms.all fun m => m != i && reachT md ops 20 m i) && eagT md ops l ms (listed.setIfInBounds i true)))
  | (i, 1) :: l, ms, listed => decide (Region.ready md ops listed = [i]) && (!ms.contains i && eagT md ops l ms (listed.setIfInBounds i true))
  | (i, 2) :: l, ms, listed => match ms with
    | [] => false
    | m :: r => decide (Region.ready md ops listed = [i]) && (m == i && (decide (i < listed.size) && (!r.contains i && eagT md ops l r (listed.setIfInBounds i true))))
  | (i, _ + 3) :: l, ms, listed => (Region.ready md ops listed).contains i && (Region.free md ops listed i && (!ms.contains i && eagT md ops l ms (listed.setIfInBounds i true)))

theorem wpAnyF_of_eagT {c : World → Prop} (hs : Region.noSelect ops = true) (hQ : ∀ c d v a w, Q (.panic c) (Act.put a d v) w → Q (.panic c) a w) :
    ∀ (l : List (Nat × Nat)) (m : List (Nat × (World → Prop))) (b : World → Prop) (listed : Array Bool) (a : Act) (w : World), Cl md ops listed → (∀ x ∈ m, listed.getD x.1 false = false) →
      (∀ w, b w → c w) → (∀ x ∈ m, ∀ w, x.2 w → c w) → eagT md ops l (m.map (·.1)) listed = true → b w → wpEagF P ops Q c l m b a w → wpAnyF P md ops Q (sOf m b) l.length listed a w
  | [], m, b, listed, a, w, _, hm, _, _, hB, _, h => ⟨by simpa [eagT] using hB, h⟩
  | (i, 0) :: l, m, b, listed, a, w, hC, hm, hc, hcm, hB, hb, h => by
    simp only [eagT, Bool.and_eq_true] at hB
    obtain ⟨hr, hf, hms, hB'⟩ := hB
    obtain ⟨o, v, ho, hy, hrest⟩ := h
    have hbase : ∀ listed' : Array Bool, (∀ x ∈ m, listed'.getD x.1 false = false) → sOf m b listed' = b := by
      intro listed' h'
      cases m with
      | nil => rfl
      | cons x r => simp only [sOf]; rw [if_neg (by rw [h' x (by simp)]; simp)]
    have hmi : ∀ x ∈ m, x.1 ≠ i := fun x hx e => by
      have := List.all_eq_true.1 hms x.1 (List.mem_map.2 ⟨x, hx, rfl⟩)
      simp [e] at this
    have hmr : ∀ x ∈ m, reachT md ops 20 x.1 i = true := fun x hx => by
      have := List.all_eq_true.1 hms x.1 (List.mem_map.2 ⟨x, hx, rfl⟩)
      rw [Bool.and_eq_true] at this
      exact this.2
    have hir : i ∈ Region.ready md ops listed := by simpa using hr
    refine wpAnyF_firstT (T := b) ho (Region.noSelect_spec hs) (fun c a w => hQ c _ _ a w) (fun listed w => by rw [sOf_other m b listed hmi]) (fun j listed hCl hj hun h w hw => h w (by
        rw [sOf_other m b listed (fun x hx e => by
          have h1 := reach_ready hCl (e ▸ hj) (hmr x hx)
          rcases Nat.lt_or_ge i listed.size with h' | h'
          · simp [h'] at h1 hun; rw [hun] at h1; cases h1
          · simp [Array.getElem?_eq_none h'] at h1)] at hw
        exact hw))
      l.length listed a w hC (by rw [hbase listed hm]; exact fun _ h => h) (Region.free_spec ho hf) hir hy (by rw [hbase listed hm]; exact hb) ?_
    exact wpAnyF_of_eagT hs hQ l m b _ _ _ (hC.step (by simpa using hr)) (fun x hx => by rw [getD_set_ne false (Ne.symm (hmi x hx))]; exact hm x hx) hc hcm hB' hb hrest
  | (i, n + 3) :: l, m, b, listed, a, w, hC, hm, hc, hcm, hB, hb, h => by
    simp only [eagT, Bool.and_eq_true, Bool.not_eq_true'] at hB
    obtain ⟨hr, hf, hni, hB'⟩ := hB
    obtain ⟨o, v, ho, hy, hrest⟩ := h
    have hmi : ∀ x ∈ m, x.1 ≠ i := fun x hx e => by
      have : (m.map (·.1)).contains i = true := by simp only [List.contains_iff_mem]; exact List.mem_map.2 ⟨x, hx, e⟩
      rw [this] at hni; cases hni
    have hbase : ∀ listed' : Array Bool, (∀ x ∈ m, listed'.getD x.1 false = false) → sOf m b listed' = b := by
      intro listed' h'
      cases m with
      | nil => rfl
      | cons x r => simp only [sOf]; rw [if_neg (by rw [h' x (by simp)]; simp)]
    refine wpAnyF_firstT (T := c) ho (Region.noSelect_spec hs) (fun c a w => hQ c _ _ a w) (fun listed w => by rw [sOf_other m b listed hmi]) (fun _ _ _ _ _ _ => sOf_c m b _ hc hcm)
      l.length listed a w hC (sOf_c m b _ hc hcm) (Region.free_spec ho hf) (by simpa using hr) hy (by rw [hbase listed hm]; exact hb) ?_
    exact wpAnyF_of_eagT hs hQ l m b _ _ _ (hC.step (by simpa using hr)) (fun x hx => by rw [getD_set_ne false (Ne.symm (hmi x hx))]; exact hm x hx) hc hcm hB' hb hrest
  | (i, 1) :: l, m, b, listed, a, w, hC, hm, hc, hcm, hB, hb, h => by
    simp only [eagT, Bool.and_eq_true, decide_eq_true_eq, Bool.not_eq_true'] at hB
    obtain ⟨hr, hni, hB'⟩ := hB
    have hmi : ∀ x ∈ m, x.1 ≠ i := fun x hx e => by
      have : (m.map (·.1)).contains i = true := by simp only [List.contains_iff_mem]; exact List.mem_map.2 ⟨x, hx, e⟩
      rw [this] at hni; cases hni
    have hm' : ∀ x ∈ m, (listed.setIfInBounds i true).getD x.1 false = false := fun x hx => by rw [getD_set_ne false (Ne.symm (hmi x hx))]; exact hm x hx
    have hbase : sOf m b (listed.setIfInBounds i true) = b := by
      cases m with
      | nil => rfl
      | cons x r => simp only [sOf]; rw [if_neg (by rw [hm' x (by simp)]; simp)]
    refine ⟨fun h0 => (by rw [h0] at hr; cases hr), fun j hj => ?_⟩
    rw [hr] at hj
    have hji : j = i := by simpa using hj
    subst hji
    refine wpOp_mono (fun a' w' h' => ⟨by rw [hbase]; exact h'.1, wpAnyF_of_eagT hs hQ l m b _ _ _ (hC.step (by rw [hr]; simp)) hm' hc hcm hB' h'.1 h'.2⟩) h
  | (i, 2) :: l, [], b, listed, a, w, hC, hm, hc, hcm, hB, hb, h => by simp [eagT] at hB
  | (i, 2) :: l, (m, p) :: r, b, listed, a, w, hC, hm, hc, hcm, hB, hb, h => by
    simp only [eagT, List.map_cons, Bool.and_eq_true, decide_eq_true_eq, beq_iff_eq, Bool.not_eq_true'] at hB
    obtain ⟨hr, hmi, hlt, hni, hB'⟩ := hB
    subst hmi
    have hri : ∀ x ∈ r, x.1 ≠ m := fun x hx e => by
      have : (r.map (·.1)).contains m = true := by simp only [List.contains_iff_mem]; exact List.mem_map.2 ⟨x, hx, e⟩
      rw [this] at hni; cases hni
    have hm' : ∀ x ∈ r, (listed.setIfInBounds m true).getD x.1 false = false := fun x hx => by rw [getD_set_ne false (Ne.symm (hri x hx))]; exact hm x (by simp [hx])
    have hset : ∀ (listed' : Array Bool), listed'.getD m false = true → sOf ((m, p) :: r) b listed' = sOf r p listed' := fun listed' h' => by simp only [sOf]; rw [if_pos h']
    have hgot : (listed.setIfInBounds m true).getD m false = true := by simp [Array.getD_eq_getD_getElem?, hlt]
    have hbase : sOf r p (listed.setIfInBounds m true) = p := by
      cases r with
      | nil => rfl
      | cons x r => simp only [sOf]; rw [if_neg (by rw [hm' x (by simp)]; simp)]
    refine ⟨fun h0 => (by rw [h0] at hr; cases hr), fun j hj => ?_⟩
    rw [hr] at hj
    have hji : j = m := by simpa using hj
    subst hji
    have h : wpOp P ops Q j (fun a' w' => p w' ∧ wpEagF P ops Q c l r p a' w') a w := by simpa only [wpEagF] using h
    refine wpOp_mono (fun a' w' h' => ⟨by rw [hset _ hgot, hbase]; exact h'.1, ?_⟩) h
    refine wpAnyF_congr (S := sOf r p) (fun listed' => listed'.getD j false = true) ?_ (fun listed' h' => (hset listed' h').symm) _ _ _ _ hgot (wpAnyF_of_eagT hs hQ l r p _ _ _ (hC.step (by rw [hr]; simp)) hm' (hcm (j, p) (by simp)) (fun x hx => hcm x (by simp [hx])) hB' h'.1 h'.2)
    intro listed' k hk
    by_cases hkj : k = j
    · subst hkj
      rcases Nat.lt_or_ge k listed'.size with h' | h'
      · simp [Array.getD_eq_getD_getElem?, h']
      · rw [show listed'.setIfInBounds k true = listed' from by simp [Array.setIfInBounds, Nat.not_lt.2 h']]; exact hk
    · rw [getD_set_ne false hkj]; exact hk

theorem wp_region_eagT {id : Nat} {a : Act} {w : World} {l : List Oper} {c : World → Prop} (m : List (Nat × (World → Prop))) (b : World → Prop) (ord : List (Nat × Nat)) (hm : P.follows .mixedOrders = true)
    (hB : (Region.noSelect l.toArray && (decide (ord.length = l.length) && eagT .any l.toArray ord (m.map (·.1)) (Array.replicate l.length false))) = true)
    (hQ : ∀ c d v a w, Q (.panic c) (Act.put a d v) w → Q (.panic c) a w) (hb : b w.drew) (hc : ∀ w, b w → c w) (hcm : ∀ x ∈ m, ∀ w, x.2 w → c w)
    (h : wpEagF P l.toArray Q c ord m b a w.drew) : (Code.region id l.toArray true).wp P Q a w := by
  simp only [Bool.and_eq_true, decide_eq_true_eq] at hB
  obtain ⟨hs, hl, hB⟩ := hB
  refine wp_region_any hm ?_
  have hx : ∀ x ∈ m, (Array.replicate l.length false).getD x.1 false = false := fun x _ => by
    rw [Array.getD_eq_getD_getElem?]
    rcases Nat.lt_or_ge x.1 l.length with h' | h' <;> simp [h', Array.getElem?_replicate]
  have := wpAnyF_of_eagT (md := .any) hs hQ ord m b _ a w.drew (fun k ok hk h => by
    rw [Array.getD_eq_getD_getElem?] at h
    rcases Nat.lt_or_ge k l.length with h' | h' <;> simp [h', Array.getElem?_replicate] at h) hx hc hcm hB hb h
  rw [hl] at this
  exact wpAny_of_F _ _ _ _ (by simpa using this)
end
section
variable {R : Option Nat} {P : Program} {ops : Array Oper} {Q : Exit → Act → World → Prop} {B : World} {F : List Nat} {s0 : Option (List Blk × List Blk)}
/-- A region that draws its order; z: what is known till the marked operation comes up, z1: what is known behind it. -/
theorem wk_drawsT {id : Nat} {a : Act} {s : List Blk} {l : List Oper} (z z1 : List Blk) (ord : List (Nat × Nat)) (mk : List Nat) (hm : P.follows .mixedOrders = true)
    (hB : ((Region.noSelect l.toArray && (decide (ord.length = l.length) && eagT .any l.toArray ord mk (Array.replicate l.length false))) &&
      ((ord.all fun p => decide (p.1 < l.length)) && (decide (mk.length ≤ 1) && decide ((ord.map (·.2)).filter (· == 2) = mk.map fun _ => 2)))) = true)
    (hQ : ∀ c d v a w, Q (.panic c) (Act.put a d v) w → Q (.panic c) a w) (hz : z.Sublist s) (hzz : mk = [] → z = z1)
    (h : Rg none P l.toArray Q B F (some (z, z1)) (ord.map fun p => (l.getD p.1 default, p.2)) a s) (hy : z1.Sublist z := by exact List.Sublist.refl _) : Wk none P B F Q a s (Code.region id l.toArray true) := fun w K => by
  simp only [Bool.and_eq_true, decide_eq_true_eq, List.all_eq_true] at hB
  obtain ⟨hB1, h1, h3, h4⟩ := hB
  refine wpIn_wide.2 ?_
  match mk, h3, h4, hB1, hzz with
  | [], _, h4, hB1, hzz =>
    refine wp_region_eagT [] (Kn B F z) ord hm (by simp only [Bool.and_eq_true, decide_eq_true_eq]; exact hB1) hQ (K.drew.sub hz) (fun w K => K.sub hy) (fun x hx => nomatch hx) ?_
    refine rg_eag l rfl 0 ord (z, z1) a s [] (.inr ⟨rfl, hzz rfl, fun p hp e => ?_⟩) (by rw [if_pos rfl]; exact h4) (by simpa [List.all_eq_true] using h1) h w.drew K.drew
    have : p.2 ∈ (ord.map (·.2)).filter (· == 2) := List.mem_filter.2 ⟨List.mem_map.2 ⟨p, hp, rfl⟩, by simp [e]⟩
    rw [h4] at this; cases this
  | [x], _, h4, hB1, _ =>
    refine wp_region_eagT [(x, Kn B F z1)] (Kn B F z) ord hm (by simp only [Bool.and_eq_true, decide_eq_true_eq]; exact hB1) hQ (K.drew.sub hz) (fun w K => K.sub hy) (fun x hx w K => by simp only [List.mem_singleton] at hx; subst hx; exact K) ?_
    exact rg_eag l rfl x ord (z, z1) a s [(x, Kn B F z1)] (.inl rfl) (by rw [if_neg (by simp)]; exact h4) (by simpa [List.all_eq_true] using h1) h w.drew K.drew
  | _ :: _ :: _, h3, _, _, _ => simp at h3

/-- All is known till the marked store. -/
theorem wk_drawsT_m {id : Nat} {a : Act} {s z1 : List Blk} (hz1 : z1.Sublist s) {l : List Oper} (ord : List (Nat × Nat)) (mk : Nat) (hm : P.follows .mixedOrders = true)
    (hB : ((Region.noSelect l.toArray && (decide (ord.length = l.length) && eagT .any l.toArray ord [mk] (Array.replicate l.length false))) &&
      ((ord.all fun p => decide (p.1 < l.length)) && (decide ([mk].length ≤ 1) && decide ((ord.map (·.2)).filter (· == 2) = [mk].map fun _ => 2)))) = true)
    (hQ : ∀ c d v a w, Q (.panic c) (Act.put a d v) w → Q (.panic c) a w)
    (h : Rg none P l.toArray Q B F (some (s, z1)) (ord.map fun p => (l.getD p.1 default, p.2)) a s) : Wk none P B F Q a s (Code.region id l.toArray true) :=
  wk_drawsT s z1 ord [mk] hm hB hQ (List.Sublist.refl _) (fun e => nomatch e) h hz1
end
end Go.Proofs.Ytccbinnlnkpplaa
namespace Go.Proofs.Ytccbinnlnkpplaa
set_option linter.all false
open Go.RowKit

/-- What a call of pair does. -/
def PairR (N col : Nat) (K : Int) (z : Zt) (L : List It) (z' : Zt) (L' : List It) : Prop :=
  (z' = z ∧ L' = L ∧ ∀ i j, col ≤ i → i < j → j < N → kindN (z i col) K ≠ 0 → kindN (z j col) K ≠ kindN (z i col) K) ∨
  ∃ a b : Nat, col ≤ a ∧ a < b ∧ b < N ∧ kindN (z a col) K ≠ 0 ∧ kindN (z b col) K = kindN (z a col) K ∧ z' = cpZ a (phZ (a + 1) ((matchN (z a col) ((bsZ b z (b - (a + 1))) (a + 1) col) + 6) % 8) (bsZ b z (b - (a + 1)))) ∧ L' = (if ((matchN (z a col) ((bsZ b z (b - (a + 1))) (a + 1) col) + 6) % 8) = 0 then (L ++ bsL b (b - (a + 1))) else (L ++ bsL b (b - (a + 1))) ++ [phsI (((a + 1 : Nat) : Int) + 1) (((matchN (z a col) ((bsZ b z (b - (a + 1))) (a + 1) col) + 6) % 8) : Nat)]) ++ [cplI ((a : Int) + 1)]
set_option maxRecDepth 100000 in
set_option maxHeartbeats 1000000 in
theorem wpair_any (N col gw : Nat) (K : Int) (z : Zt) (L : List It) (s : List Blk) (hS : WS N gw z L s) (hN : N ≤ 6) (hL : L.length + 20 ≤ 100000) (hc : col < N) (w : World) (hK : Kn w (s.map (·.1)) s w) : Calls Try.prog 156 #[.pointer (some ⟨gw, 0, none⟩), .int .i64 (col : Int), .int .i64 K] w fun e w' => e = .returned (.tuple #[]) ∧ ∃ s', Kn w (s.map (·.1)) s' w' ∧ ∃ z' L', WS N gw z' L' s' ∧ PairR N col K z L z' L' := by
  obtain ⟨go, oc, ro, rs, ia, ic, u, hse, hrl, hoc, hlen, hval, hO, hok⟩ := hS.open_
  go_enter Try.func156, Try.ntmps156
  refine wk_startF (Kn.to hse hK.nil') ?_
  refine wk_seq ?_
  refine wk_region [0, 0] rfl (by kernel_rfl) ?_
  simp only [qy]
  refine rg_move ?_
  simp only [qz]
  refine rg_assign ?_
  simp only [qz]
  refine rg_nil (ek_next (wk_block ?_))
  refine wk_loopF [6, 7, 8, 10, 11, 12, 13, 14, 15, 16, 17, 18, 19, 20, 21, 22, 23, 24, 25, 26, 27, 28, 29, 30, 31, 32, 33, 34, 35, 36, 37, 38, 39, 40, 41, 42, 43, 44, 45, 46, 47, 48, 49, 50, 51, 52, 53, 54, 55, 56, 57, 58, 59, 60, 61, 62, 63, 64, 65, 66, 67, 68, 69, 70, 71, 72, 73, 74, 75, 76, 77, 78, 79, 80, 81, 82, 83, 84, 85] (fun mz f s => ∃ (a : Nat), f 6 = .int .i64 a ∧ s = ((gw, .cells #[.slice (some ⟨go, 0, none⟩) N oc, .slice ia L.length ic] 131) :: ((go, .cells (rwV N (rs) ++ ro).toArray 36) :: (rwB rs ++ (u ++ [])))) ∧ mz = N - a ∧ col ≤ a ∧ a ≤ N ∧ (∀ i j, col ≤ i → i < a → i < j → j < N → kindN (z i col) K ≠ 0 → kindN (z j col) K ≠ kindN (z i col) K)) ((fun (a : Nat) => N - a) (col)) ?_ (by kernel_rfl) ?_
  · exact ⟨col, rfl, rfl, rfl, by omega, by omega, (fun i j h1 h2 => absurd h2 (by omega))⟩
  rintro mz f1 s ⟨a, hs1_6, rfl, hn, hd1, hd2, hd3⟩
  simp only [Act.putF, List.foldl_cons, List.foldl_nil, hs1_6, Act.put, Act.eval, q1, q2, q3, q4, q5, q6, q7, q8, q9, q10, q11, q12, q13, q14, q15, q16, q17, q18, Nat.reduceAdd, Bool.not_true, Bool.not_false]
  clear hs1_6
  have ho := hd3
  clear hd3
  refine wk_seq (wk_seq ?_)
  refine wk_region [0, 0, 0, 0, 0, 0, 0] rfl (by kernel_rfl) ?_
  simp only [qy]
  refine rg_move ?_
  simp only [qz]
  refine rg_move ?_
  simp only [qz]
  apply rg_soft
  case hy => (intro w hw; go_simp; (try go_bits); exact Yld.mk _ _)
  simp only [qz]
  refine rf_field (n := 0) (j := 0) rfl rfl rfl Try.underlying131 rfl (by kernel_rfl) rfl ?_
  simp only [qz]
  refine rf_load rfl rfl rfl Try.underlying129 rfl (fun w hw => (Kn.hd0 hw).at rfl) ?_
  simp only [qz]
  refine rf_len rfl rfl rfl Try.underlying129 ?_
  simp only [qz]
  refine rfb_lss rfl rfl rfl rfl ?_
  intro x h1
  cases x
  · (try simp only [qd, ne_eq] at h1)
    simp only [qz]
    refine rg_nil (ek_next (wk_cond_f rfl (wk_exit (ek_then_exit (ek_then_exit (ek_block_exit ?_))))))
    refine ek_norm (fun w hw => ⟨rfl, _, res_0 rfl, ?_⟩)
    (try simp only [qz])
    obtain rfl : a = N := by omega
    exact ⟨(by first | rfl | trivial), _, Kn.of_nil (hw.to hse.symm), _, _, hS, .inl ⟨rfl, rfl, fun i j h1 h2 h3 h4 => ho i j h1 (by omega) h2 h3 h4⟩⟩
  (try simp only [qd, ne_eq] at h1)
  simp only [qz]
  refine rg_nil (ek_next (wk_cond_t rfl (wk_skip (ek_next (wk_seq (wk_block (wk_seq ?_)))))))
  obtain ⟨⟨b1, c1, l1, r1⟩, hx1⟩ : ∃ x, rs[a]? = some x := ⟨rs[a]'(by omega), List.getElem?_eq_getElem (by omega)⟩
  have hl1 : l1.length = N := hlen ⟨b1, c1, l1, r1⟩ (List.mem_of_getElem? hx1)
  have hz1 : nm l1 col = z (a) col := hval _ _ hx1 col hc
  refine wk_region [0, 0, 0, 0, 0, 0, 0, 0, 0, 0, 1, 1] rfl (by kernel_rfl) ?_
  simp only [qy]
  refine rg_move ?_
  simp only [qz]
  apply rg_soft
  case hy => (intro w hw; go_simp; (try go_bits); exact Yld.mk _ _)
  simp only [qz]
  refine rf_field (n := 0) (j := 0) rfl rfl rfl Try.underlying131 rfl (by kernel_rfl) rfl ?_
  simp only [qz]
  refine rf_load rfl rfl rfl Try.underlying129 rfl (fun w hw => (Kn.hd0 hw).at rfl) ?_
  simp only [qz]
  refine rg_move ?_
  simp only [qz]
  refine rf_indexS (n := a) (sz := 1) (j := a) rfl rfl rfl rfl Try.underlying129 (by kernel_rfl) (by omega) (by omega) (by omega) ?_
  simp only [qz]
  refine rf_load (v := .slice (some ⟨b1, 0, none⟩) N c1) rfl rfl rfl Try.underlying36 rfl (fun w hw => Kn.outer (Kn.tl hw) (hx1)) ?_
  simp only [qz]
  refine rg_move ?_
  simp only [qz]
  refine rf_indexS (n := col) (sz := 5) (j := 0 + col * 5) rfl rfl rfl rfl Try.underlying36 (by kernel_rfl) (by omega) (by omega) rfl ?_
  simp only [qz]
  refine rf_loadC (n := 5) (vs := [.int .i64 (z a col).a, .int .i64 (z a col).b, .int .i64 (z a col).c, .int .i64 (z a col).d, .int .i64 (z a col).k]) rfl rfl rfl Try.underlying45 rfl (by kernel_rfl) rfl (fun w hw => atN_range (by have := Kn.row (Kn.tl (Kn.tl hw)) hx1 (k := col) (by rw [hl1]; exact hc); rw [hz1] at this; exact this)) ?_
  simp only [qz]
  refine rg_new (cs := ?_) (ty := ?_) (by rfl) (fun w => ?_) (fun _ h => by cases h) (fun g1 => ?_); rotate_left 2
  focus (go_simp; rfl)
  simp only [qz]
  refine rf_storeR (n := 5) rfl rfl (by kernel_rfl) rfl rfl (UpdR.here _ _ _ (Nat.le_of_ble_eq_true rfl)) (fun _ h => by cases h) ?_
  simp only [qz, Nat.reduceAdd]
  refine rg_nil (ek_next (wk_seq (wk_seq ?_)))
  refine wk_region [0, 0, 1, 0] rfl (by kernel_rfl) ?_
  simp only [qy]
  refine rf_loadR (n := 5) rfl rfl rfl Try.underlying45 rfl (by kernel_rfl) (fun w hw => Kn.hd0 hw) rfl rfl ?_
  simp only [qz]
  refine rg_move ?_
  simp only [qz]
  apply rg_pure (by rfl) (by kernel_rfl)
  case hargs => (simp only [qm, qs, Act.eval]; exact rfl)
  case h => exact fun w hw => kind_any (z a col) K w
  case hz => exact (fun _ h => by cases h)
  simp only [qz]
  refine rfb_eql rfl rfl rfl rfl ?_
  intro x h2
  cases x
  · (try simp only [qd, ne_eq] at h2)
    simp only [qz]
    refine rg_nil (ek_next (wk_cond_f rfl (wk_skip (ek_next (wk_seq ?_)))))
    refine wk_region [0, 0, 0] rfl (by kernel_rfl) ?_
    simp only [qy]
    refine rg_move ?_
    simp only [qz]
    refine rf_add rfl rfl rfl rfl (wrap_ok (by omega) (by omega)) ?_
    simp only [qz]
    refine rg_assign ?_
    simp only [qz]
    refine rg_nil (ek_next (wk_block ?_))
    refine wk_loopF [8, 35, 36, 37, 38, 39, 40, 41, 42, 43, 44, 45, 46, 47, 48, 49, 50, 51, 52, 53, 54, 55, 56, 57, 58, 59, 60, 61, 62, 63, 64, 65, 66, 67, 68, 69, 70, 71, 72, 73, 74, 75, 76, 77, 78, 79, 80, 81, 82, 83, 84, 85] (fun mz f s => ∃ (b : Nat), f 8 = .int .i64 b ∧ s = ((g1, .cells #[.int .i64 (z a col).a, .int .i64 (z a col).b, .int .i64 (z a col).c, .int .i64 (z a col).d, .int .i64 (z a col).k] 45) :: ((gw, .cells #[.slice (some ⟨go, 0, none⟩) N oc, .slice ia L.length ic] 131) :: ((go, .cells (rwV N (rs) ++ ro).toArray 36) :: (rwB rs ++ (u ++ []))))) ∧ mz = N - b ∧ a < b ∧ b ≤ N ∧ (∀ j, a < j → j < b → kindN (z j col) K ≠ kindN (z a col) K)) ((fun (b : Nat) => N - b) (a + 1)) ?_ (by kernel_rfl) ?_
    · exact ⟨a + 1, rfl, rfl, rfl, by omega, by omega, (fun j h1 h2 => absurd h2 (by omega))⟩
    rintro mz f2 s ⟨b, hs2_8, rfl, hn, he1, he2, he3⟩
    simp only [Act.putF, List.foldl_cons, List.foldl_nil, hs2_8, Act.put, Act.eval, q1, q2, q3, q4, q5, q6, q7, q8, q9, q10, q11, q12, q13, q14, q15, q16, q17, q18, Nat.reduceAdd, Bool.not_true, Bool.not_false]
    clear hs2_8
    refine wk_seq (wk_seq ?_)
    refine wk_region [0, 0, 0, 0, 0, 0, 0] rfl (by kernel_rfl) ?_
    simp only [qy]
    refine rg_move ?_
    simp only [qz]
    refine rg_move ?_
    simp only [qz]
    apply rg_soft
    case hy => (intro w hw; go_simp; (try go_bits); exact Yld.mk _ _)
    simp only [qz]
    refine rf_field (n := 0) (j := 0) rfl rfl rfl Try.underlying131 rfl (by kernel_rfl) rfl ?_
    simp only [qz]
    refine rf_load rfl rfl rfl Try.underlying129 rfl (fun w hw => (Kn.hd0 (Kn.tl hw)).at rfl) ?_
    simp only [qz]
    refine rf_len rfl rfl rfl Try.underlying129 ?_
    simp only [qz]
    refine rfb_lss rfl rfl rfl rfl ?_
    intro x h3
    cases x
    · (try simp only [qd, ne_eq] at h3)
      simp only [qz]
      refine rg_nil (ek_next (wk_cond_f rfl (wk_exit (ek_then_exit (ek_then_exit (ek_block_exit (ek_block (ek_next ?_))))))))
      refine wk_region [0, 0, 0] rfl (by kernel_rfl) ?_
      simp only [qy]
      refine rg_move ?_
      simp only [qz]
      refine rf_add rfl rfl rfl rfl (wrap_ok (by omega) (by omega)) ?_
      simp only [qz]
      refine rg_assign ?_
      simp only [qz]
      refine rg_nil ?_
      refine ek_sub (sk _ (sc _ (sc _ (List.Sublist.append_left (List.Sublist.append_left sn _) _)))) ?_
      refine ek_roundF (N - (a + 1)) (by omega) (by kernel_rfl) ?_
      exact ⟨a + 1, rfl, by rfl, by rfl, by omega, by omega, (fun i j y1 y2 y3 y4 y5 => if e : i = a then (by subst e; exact he3 j y3 (by omega)) else ho i j y1 (by omega) y3 y4 y5)⟩
    (try simp only [qd, ne_eq] at h3)
    simp only [qz]
    refine rg_nil (ek_next (wk_cond_t rfl (wk_skip (ek_next (wk_seq (wk_block (wk_seq (wk_seq ?_))))))))
    obtain ⟨⟨b2, c2, l2, r2⟩, hx2⟩ : ∃ x, rs[b]? = some x := ⟨rs[b]'(by omega), List.getElem?_eq_getElem (by omega)⟩
    have hl2 : l2.length = N := hlen ⟨b2, c2, l2, r2⟩ (List.mem_of_getElem? hx2)
    have hz2 : nm l2 col = z (b) col := hval _ _ hx2 col hc
    refine wk_draws _ _ [(0, 0), (1, 0), (2, 0), (3, 0), (4, 0), (5, 0), (6, 0), (7, 0), (8, 0), (9, 0), (10, 0), (12, 0), (13, 0), (11, 1), (14, 1), (15, 0)] [] (by kernel_rfl) (by kernel_rfl) (fun c d v a w h => by cases d <;> exact h) ((sc _ (sc _ (sc _ (List.Sublist.append_left (List.Sublist.append_left sn _) _))))) (fun e => by first | exact absurd e (by decide) | rfl) ?_
    simp only [List.map_cons, List.map_nil, List.getD_cons_zero, List.getD_cons_succ]
    refine rg_move ?_
    simp only [qz]
    apply rg_soft
    case hy => (intro w hw; go_simp; (try go_bits); exact Yld.mk _ _)
    simp only [qz]
    refine rf_field (n := 0) (j := 0) rfl rfl rfl Try.underlying131 rfl (by kernel_rfl) rfl ?_
    simp only [qz]
    refine rf_load rfl rfl rfl Try.underlying129 rfl (fun w hw => (Kn.hd0 (Kn.tl hw)).at rfl) ?_
    simp only [qz]
    refine rg_move ?_
    simp only [qz]
    refine rf_indexS (n := b) (sz := 1) (j := b) rfl rfl rfl rfl Try.underlying129 (by kernel_rfl) (by omega) (by omega) (by omega) ?_
    simp only [qz]
    refine rf_load (v := .slice (some ⟨b2, 0, none⟩) N c2) rfl rfl rfl Try.underlying36 rfl (fun w hw => Kn.outer (Kn.tl (Kn.tl hw)) (hx2)) ?_
    simp only [qz]
    refine rg_move ?_
    simp only [qz]
    refine rf_indexS (n := col) (sz := 5) (j := 0 + col * 5) rfl rfl rfl rfl Try.underlying36 (by kernel_rfl) (by omega) (by omega) rfl ?_
    simp only [qz]
    refine rf_loadC (n := 5) (vs := [.int .i64 (z b col).a, .int .i64 (z b col).b, .int .i64 (z b col).c, .int .i64 (z b col).d, .int .i64 (z b col).k]) rfl rfl rfl Try.underlying45 rfl (by kernel_rfl) rfl (fun w hw => atN_range (by have := Kn.row (Kn.tl (Kn.tl (Kn.tl hw))) hx2 (k := col) (by rw [hl2]; exact hc); rw [hz2] at this; exact this)) ?_
    simp only [qz]
    refine rg_move ?_
    simp only [qz]
    refine rf_loadR (n := 5) rfl rfl rfl Try.underlying45 rfl (by kernel_rfl) (fun w hw => Kn.hd0 hw) rfl rfl ?_
    simp only [qz]
    refine rg_move ?_
    simp only [qz]
    apply rg_pure (by rfl) (by kernel_rfl)
    case hargs => (simp only [qm, qs, Act.eval]; exact rfl)
    case h => exact fun w hw => kind_any (z b col) K w
    case hz => exact (fun _ h => by cases h; exact (sc _ (sc _ (sc _ (List.Sublist.append_left (List.Sublist.append_left sn _) _)))))
    simp only [qz]
    apply rg_pure (by rfl) (by kernel_rfl)
    case hargs => (simp only [qm, qs, Act.eval]; exact rfl)
    case h => exact fun w hw => kind_any (z a col) K w
    case hz => exact (fun _ h => by cases h; exact (sc _ (sc _ (sc _ (List.Sublist.append_left (List.Sublist.append_left sn _) _)))))
    simp only [qz]
    refine rfb_neq rfl rfl rfl rfl ?_
    intro x h4
    cases x
    · (try simp only [qd, ne_eq] at h4)
      simp only [qz]
      refine rg_nil (ek_next (wk_cond_f rfl (wk_skip (ek_next (wk_seq ?_)))))
      rw [← hse]
      refine wk_region [0, 0, 0, 0, 1] rfl (by kernel_rfl) ?_
      simp only [qy]
      refine rg_move ?_
      simp only [qz]
      refine rg_move ?_
      simp only [qz]
      refine rg_move ?_
      simp only [qz]
      refine rf_add (r := ((a + 1 : Nat) : Int)) rfl rfl rfl rfl (wrap_eqB (by omega) (by omega) (by omega)) ?_
      simp only [qz]
      refine rg_eff (T := fun uV => WS N gw (bsZ b z (b - (a + 1))) (L ++ bsL b (b - (a + 1))) uV) (vb := s) (rest := [(g1, .cells #[.int .i64 (z a col).a, .int .i64 (z a col).b, .int .i64 (z a col).c, .int .i64 (z a col).d, .int .i64 (z a col).k] 45)]) (by rfl) (by kernel_rfl) (by simp only [qm, qs, Act.eval]; try rfl) (perm_atU (l := [_]) (u := s) (List.Perm.refl _)) (fun w hw => wbeside_any N b (a + 1) gw z L s hS hN (by omega) (by omega) (by omega) w hw) (fun uV hTuV => ?_)
      simp only [qz]
      refine rg_nil (ek_next (wk_seq ?_))
      obtain ⟨go2, oc2, ro2, rs2, ia2, ic2, u2, hse2, hrl2, hoc2, hlen2, hval2, hO2, hok2⟩ := hTuV.open_
      refine wk_perm ((((List.Perm.refl _).append_left _).trans (List.perm_middle (l₁ := uV))).trans ((List.Perm.refl _).cons _)) ?_
      rw [hse2]
      obtain ⟨⟨b3, c3, l3, r3⟩, hx3⟩ : ∃ x, rs2[a + 1]? = some x := ⟨rs2[a + 1]'(by omega), List.getElem?_eq_getElem (by omega)⟩
      have hl3 : l3.length = N := hlen2 ⟨b3, c3, l3, r3⟩ (List.mem_of_getElem? hx3)
      have hz3 : nm l3 col = (bsZ b z (b - (a + 1))) (a + 1) col := hval2 _ _ hx3 col hc
      have hmt := match_lt (z a col) ((bsZ b z (b - (a + 1))) (a + 1) col)
      have hy2 := hok2 (a + 1) col (by omega) hc
      refine wk_drawsT_m (hz1 := (sc _ (sk _ (sk _ ((sn.trans (List.sublist_append_right _ _)).trans (List.sublist_append_right _ _)))))) [(0, 0), (1, 0), (2, 0), (3, 0), (4, 0), (5, 0), (6, 0), (7, 0), (8, 0), (9, 0), (10, 0), (11, 0), (12, 0), (13, 0), (14, 0), (15, 1), (16, 0), (17, 2)] 17 (by kernel_rfl) (by kernel_rfl) (fun c d v a w h => by cases d <;> exact h) ?_
      simp only [List.map_cons, List.map_nil, List.getD_cons_zero, List.getD_cons_succ]
      refine rg_move ?_
      simp only [qz]
      refine rg_move ?_
      simp only [qz]
      refine rf_add (r := ((a + 1 : Nat) : Int)) rfl rfl rfl rfl (wrap_eqB (by omega) (by omega) (by omega)) ?_
      simp only [qz]
      refine rf_loadR (n := 5) rfl rfl rfl Try.underlying45 rfl (by kernel_rfl) (fun w hw => Kn.hd0 hw) rfl rfl ?_
      simp only [qz]
      refine rg_move ?_
      simp only [qz]
      apply rg_soft
      case hy => (intro w hw; go_simp; (try go_bits); exact Yld.mk _ _)
      simp only [qz]
      refine rf_field (n := 0) (j := 0) rfl rfl rfl Try.underlying131 rfl (by kernel_rfl) rfl ?_
      simp only [qz]
      refine rf_load rfl rfl rfl Try.underlying129 rfl (fun w hw => (Kn.hd0 (Kn.tl hw)).at rfl) ?_
      simp only [qz]
      refine rg_move ?_
      simp only [qz]
      refine rf_add rfl rfl rfl rfl (wrap_ok (by omega) (by omega)) ?_
      simp only [qz]
      refine rf_indexS (n := a + 1) (sz := 1) (j := a + 1) rfl rfl rfl rfl Try.underlying129 (by kernel_rfl) (by omega) (by omega) (by omega) ?_
      simp only [qz]
      refine rf_load (v := .slice (some ⟨b3, 0, none⟩) N c3) rfl rfl rfl Try.underlying36 rfl (fun w hw => Kn.outer (Kn.tl (Kn.tl hw)) (hx3)) ?_
      simp only [qz]
      refine rg_move ?_
      simp only [qz]
      refine rf_indexS (n := col) (sz := 5) (j := 0 + col * 5) rfl rfl rfl rfl Try.underlying36 (by kernel_rfl) (by omega) (by omega) rfl ?_
      simp only [qz]
      refine rf_loadC (n := 5) (vs := [.int .i64 ((bsZ b z (b - (a + 1))) (a + 1) col).a, .int .i64 ((bsZ b z (b - (a + 1))) (a + 1) col).b, .int .i64 ((bsZ b z (b - (a + 1))) (a + 1) col).c, .int .i64 ((bsZ b z (b - (a + 1))) (a + 1) col).d, .int .i64 ((bsZ b z (b - (a + 1))) (a + 1) col).k]) rfl rfl rfl Try.underlying45 rfl (by kernel_rfl) rfl (fun w hw => atN_range (by have := Kn.row (Kn.tl (Kn.tl (Kn.tl hw))) hx3 (k := col) (by rw [hl3]; exact hc); rw [hz3] at this; exact this)) ?_
      simp only [qz]
      apply rg_pure (by rfl) (by kernel_rfl)
      case hargs => (simp only [qm, qs, Act.eval]; exact rfl)
      case h => exact fun w hw => match_any (z a col) ((bsZ b z (b - (a + 1))) (a + 1) col) hy2 w
      case hz => exact (fun _ h => by cases h; exact (sc _ (sc _ (sc _ (List.Sublist.append_left (List.Sublist.append_left sn _) _)))))
      simp only [qz]
      refine rf_sub rfl rfl rfl rfl (wrap_ok (by omega) (by omega)) ?_
      simp only [qz]
      refine rg_effM (T := fun uW => WS N gw (phZ (a + 1) ((matchN (z a col) ((bsZ b z (b - (a + 1))) (a + 1) col) + 6) % 8) (bsZ b z (b - (a + 1)))) (if ((matchN (z a col) ((bsZ b z (b - (a + 1))) (a + 1) col) + 6) % 8) = 0 then (L ++ bsL b (b - (a + 1))) else (L ++ bsL b (b - (a + 1))) ++ [phsI (((a + 1 : Nat) : Int) + 1) (((matchN (z a col) ((bsZ b z (b - (a + 1))) (a + 1) col) + 6) % 8) : Nat)]) uW) (vb := uV) (rest := [(g1, .cells #[.int .i64 (z a col).a, .int .i64 (z a col).b, .int .i64 (z a col).c, .int .i64 (z a col).d, .int .i64 (z a col).k] 45)]) (by rfl) (by kernel_rfl) (by simp only [qm, qs, Act.eval]; try rfl) (by rw [← hse2]; exact (perm_atU (l := [_]) (u := uV) (List.Perm.refl _))) (sc _ sn) (fun w hw => wphase_any N (a + 1) gw (bsZ b z (b - (a + 1))) (L ++ bsL b (b - (a + 1))) uV hTuV hN (by rw [List.length_append, bsL_len]; omega) (by omega) _ ((matchN (z a col) ((bsZ b z (b - (a + 1))) (a + 1) col) + 6) % 8) (by omega) w hw) (fun uW hTuW => ?_)
      simp only [qz]
      refine rg_nil (ek_next (wk_seq ?_))
      refine wk_region [0, 0, 1] rfl (by kernel_rfl) ?_
      simp only [qy]
      refine rg_move ?_
      simp only [qz]
      refine rg_move ?_
      simp only [qz]
      refine rg_eff (T := fun uX => WS N gw (cpZ a (phZ (a + 1) ((matchN (z a col) ((bsZ b z (b - (a + 1))) (a + 1) col) + 6) % 8) (bsZ b z (b - (a + 1))))) ((if ((matchN (z a col) ((bsZ b z (b - (a + 1))) (a + 1) col) + 6) % 8) = 0 then (L ++ bsL b (b - (a + 1))) else (L ++ bsL b (b - (a + 1))) ++ [phsI (((a + 1 : Nat) : Int) + 1) (((matchN (z a col) ((bsZ b z (b - (a + 1))) (a + 1) col) + 6) % 8) : Nat)]) ++ [cplI ((a : Int) + 1)]) uX) (vb := uW) (rest := [(g1, .cells #[.int .i64 (z a col).a, .int .i64 (z a col).b, .int .i64 (z a col).c, .int .i64 (z a col).d, .int .i64 (z a col).k] 45)]) (by rfl) (by kernel_rfl) (by simp only [qm, qs, Act.eval]; try rfl) (List.Perm.refl _) (fun w hw => wcouple_any N a gw (phZ (a + 1) ((matchN (z a col) ((bsZ b z (b - (a + 1))) (a + 1) col) + 6) % 8) (bsZ b z (b - (a + 1)))) (if ((matchN (z a col) ((bsZ b z (b - (a + 1))) (a + 1) col) + 6) % 8) = 0 then (L ++ bsL b (b - (a + 1))) else (L ++ bsL b (b - (a + 1))) ++ [phsI (((a + 1 : Nat) : Int) + 1) (((matchN (z a col) ((bsZ b z (b - (a + 1))) (a + 1) col) + 6) % 8) : Nat)]) uW hTuW hN (by split <;> simp only [List.length_append, bsL_len, List.length_cons, List.length_nil] <;> omega) (by omega) w hw) (fun uX hTuX => ?_)
      simp only [qz]
      refine rg_nil (ek_next (wk_ret (ek_block_ret (ek_then_ret (ek_then_ret (ek_block_ret (ek_block_ret (ek_then_ret (ek_then_ret (ek_block_ret ?_))))))))))
      refine ek_sub (List.Sublist.append_left (sk _ sn) _) ?_
      refine ek_ret (fun w hw => ⟨rfl, _, res_0 rfl, ?_⟩)
      (try simp only [qz])
      exact ⟨(by first | rfl | trivial), _, hw.of_nil, _, _, hTuX, .inr ⟨a, b, by omega, by omega, by omega, h2, by omega, rfl, rfl⟩⟩
    (try simp only [qd, ne_eq] at h4)
    simp only [qz]
    refine rg_nil (ek_next (wk_cond_t rfl (wk_exit (ek_then_exit (ek_block_exit (ek_next ?_))))))
    refine wk_region [0, 0, 0] rfl (by kernel_rfl) ?_
    simp only [qy]
    refine rg_move ?_
    simp only [qz]
    refine rf_add rfl rfl rfl rfl (wrap_ok (by omega) (by omega)) ?_
    simp only [qz]
    refine rg_assign ?_
    simp only [qz]
    refine rg_nil ?_
    refine ek_roundF (N - (b + 1)) (by omega) (by kernel_rfl) ?_
    exact ⟨b + 1, rfl, by rfl, by rfl, by omega, by omega, (fun j y1 y2 => if e : j = b then e ▸ h4 else he3 j y1 (by omega))⟩
  (try simp only [qd, ne_eq] at h2)
  simp only [qz]
  refine rg_nil (ek_next (wk_cond_t rfl (wk_exit (ek_then_exit (ek_block_exit (ek_next ?_))))))
  refine wk_region [0, 0, 0] rfl (by kernel_rfl) ?_
  simp only [qy]
  refine rg_move ?_
  simp only [qz]
  refine rf_add rfl rfl rfl rfl (wrap_ok (by omega) (by omega)) ?_
  simp only [qz]
  refine rg_assign ?_
  simp only [qz]
  refine rg_nil ?_
  refine ek_sub (sk _ (sc _ (sc _ (List.Sublist.append_left (List.Sublist.append_left sn _) _)))) ?_
  refine ek_roundF (N - (a + 1)) (by omega) (by kernel_rfl) ?_
  exact ⟨a + 1, rfl, by rfl, by rfl, by omega, by omega, (fun i j y1 y2 y3 y4 y5 => if e : i = a then absurd h2 (e ▸ y5) else ho i j y1 (by omega) y3 y4 y5)⟩

end Go.Proofs.Ytccbinnlnkpplaa
namespace Go.Proofs.Ytccbinnlnkpplaa
set_option linter.all false
open Go.RowKit

abbrev zs (xs : List Int) : List Value := xs.map (.int .i64 ·)
def OwnZ (u : List Blk) (v : Value) (xs : List Int) : Prop := Own 3 1 u v xs.length (zs xs)
theorem OwnZ.one {g : Nat} (x : Int) : OwnZ [(g, .cells #[.int .i64 x] 3)] (.slice (some ⟨g, 0, none⟩) 1 1) [x] :=
  Own.whole (cur := #[.int .i64 x]) rfl (by simp only [maxLen]; omega)
theorem Own.open1 {e n : Nat} {u : List Blk} {v : Value} {xs : List Value} (h : Own e 1 u v n xs) (hn : 0 < n) : ∃ g cap rest, u = [(g, .cells (xs ++ rest).toArray e)] ∧ v = .slice (some ⟨g, 0, none⟩) n cap ∧ xs.length = n := by
  obtain ⟨hl, ⟨rfl, rfl, h0⟩ | ⟨g, cap, cur, rfl, rfl, hc, hm, hs, ht⟩⟩ := h
  · omega
  · refine ⟨g, cap, cur.toList.drop (n * 1), ?_, rfl, by omega⟩
    rw [← ht, List.take_append_drop]
end Go.Proofs.Ytccbinnlnkpplaa
namespace Go.Proofs.Ytccbinnlnkpplaa
set_option linter.all false
open Go.RowKit

section
variable {R : Option Nat} {ops : Array Oper} {Q : Exit → Act → World → Prop} {B : World} {F : List Nat} {s0 : Option (List Blk × List Blk)} {P : Program}
variable {l : List (Oper × Nat)} {a : Act} {s : List Blk} {d : Option Tmp} {t : TypeId} {p : String} {af : Array Edge} {gd : Option (Nat × Bool)} {m : Nat}
/-- x[lo:hi:hi]. -/
theorem rf_slice3 {T : Nat} {x yl y y2 : Operand} {b off n lo hi len cap e sz : Nat} {k k' k2 : IntKind} {zl z z2 : Int} (hm : soft03 m = true) (hg : Region.wanted ⟨d, .slice T x (some yl) (some y) (some y2), t, p, af, gd⟩ (yielded ops a.tmps) = true)
    (hx : a.eval x = .slice (some ⟨b, off, none⟩) len cap) (hl : a.eval yl = .int k' zl) (hy : a.eval y = .int k z) (hy2 : a.eval y2 = .int k2 z2) (hu : P.underlying T = some (.slice e)) (hs : (P.info? e).map (·.size) = some sz) (hzl : zl = (lo : Int)) (hz : z = (hi : Int)) (hz2 : z2 = (hi : Int)) (hh : lo + n = hi) (hn : hi ≤ cap) (hlo : 0 < n)
    (h : Rg R P ops Q B F s0 l (a.put d (.slice (some ⟨b, off + lo * sz, none⟩) n n)) s) : Rg R P ops Q B F s0 ((⟨d, .slice T x (some yl) (some y) (some y2), t, p, af, gd⟩, m) :: l) a s := by
  subst hzl hz hz2
  refine rg_any hm hg (fun w => ?_) h
  unfold Yld
  cases hq : P.info? e with
  | none => simp [hq] at hs
  | some q =>
    have hs' : q.size = sz := by simpa [hq] using hs
    have hb := fun w => run_sliceBound (P := P) w k2 (hi : Int) cap .slice3Acap (by omega) (by omega)
    have hb1 := fun w => run_sliceBound (P := P) w k (hi : Int) hi .slice3B (by omega) (by omega)
    have hb2 := fun w => run_sliceBound (P := P) w k' (lo : Int) hi .slice3C (by omega) (by omega)
    have e1 : (hi : Int).toNat = hi := Int.toNat_natCast _
    have e2 : (lo : Int).toNat = lo := Int.toNat_natCast _
    rw [e1] at hb hb1
    rw [e2] at hb2
    have h3 : ¬ hi = lo := by omega
    have h4 : hi - lo = n := by omega
    have h5 : ¬ n = 0 := by omega
    simp [execOp, hx, hl, hy, hy2, Instr.sliceAt, Instr.slice, Instr.sliceBounds, run_underlying hu, sizeOf, typeInfo, hq, hs', hb, hb1, hb2, Addr.add_mid, h3, h4, h5]
end
theorem sKInfo : (Try.prog.info? 36).map (fun i => (i.zero, i.size, i.bytes)) = some (some (.slice none 0 0), 1, 24) := by kernel_rfl
section
variable {R : Option Nat} {ops : Array Oper} {Q : Exit → Act → World → Prop} {B : World} {F : List Nat} {s0 : Option (List Blk × List Blk)}
variable {l : List (Oper × Nat)} {a : Act} {s S : List Blk} {d : Option Tmp} {op : Op} {t : TypeId} {p : String} {af : Array Edge} {v : Value}
/-- append of a row to a list of rows. -/
theorem rg_appRow {so xo : Operand} {u : List Blk} {hs : List Value} {n g : Nat} {h : Value} {gd : Option (Nat × Bool)} (hg : Region.wanted ⟨d, .call ⟨.builtin .append, #[so, xo], #[129, 129]⟩, t, p, af, gd⟩ (yielded ops a.tmps) = true)
    (hs0 : a.eval so = v) (hown : Own 36 1 u v n hs) (hx : a.eval xo = .slice (some ⟨g, 0, none⟩) 1 1) (hn : n ≤ 1000000) (h1 : h.oneCell' = true) (hp : S.Perm (u ++ s))
    (hnews : ∀ w, Kn B F S w → Hd w g 36 #[h]) (hzz : ∀ z ∈ s0, z.1.Sublist s)
    (k : ∀ u' a' c', Own 36 1 u' (.slice a' (n + 1) c') (n + 1) (hs ++ [h]) → Rg R Try.prog ops Q B F s0 l (a.put d (.slice a' (n + 1) c')) (u' ++ s)) :
    Rg R Try.prog ops Q B F s0 ((⟨d, .call ⟨.builtin .append, #[so, xo], #[129, 129]⟩, t, p, af, gd⟩, 1) :: l) a S := by
  obtain ⟨i, hi, hz, hsz, hb⟩ := info_partsN sKInfo
  refine rg_append (u := u) (s := s) (i := i) (z := .slice none 0 0) (size := 1) (bytes := 24) (n := n) (m := 1) (c := 1) (xs := hs) (news := [h]) (ad := ⟨g, 0, none⟩) hg
    Try.underlying129 hi hz hsz hb rfl (by decide) hs0 hown hx (by rfl) ?_ (by simpa using h1) (by simp only [maxLen]; omega) (by omega) hp hzz ?_
  · intro w K j y hj
    have hd := (hnews w K).cell
    match j, hj with
    | 0, hj => simp only [List.getElem?_cons_zero, Option.some.injEq] at hj; subst hj; exact hd 0
    | j + 1, hj => simp at hj
  · intro u' v' hO _
    obtain ⟨a', c', rfl, -⟩ := Own.val hO
    exact k u' a' c' hO
/-- append of a list of numbers. -/
theorem rg_appNums {so xo : Operand} {u : List Blk} {xs ys : List Nm} {m c r : Nat} {ad : Addr} {gd : Option (Nat × Bool)} (hg : Region.wanted ⟨d, .call ⟨.builtin .append, #[so, xo], #[36, 36]⟩, t, p, af, gd⟩ (yielded ops a.tmps) = true)
    (hs : a.eval so = v) (hown : OwnN u v xs) (hx : a.eval xo = .slice (some ad) m c) (hm : ys.length = m) (hr : xs.length + ys.length = r) (hb : r ≤ 10000000) (hp : S.Perm (u ++ s))
    (hA : ∀ w, Kn B F S w → AS w (some ad) (nms ys))
    (hzz : ∀ z ∈ s0, z.1.Sublist s) (h : ∀ u' a' c', OwnN u' (.slice a' r c') (xs ++ ys) → Rg R Try.prog ops Q B F s0 l (a.put d (.slice a' r c')) (u' ++ s)) :
    Rg R Try.prog ops Q B F s0 ((⟨d, .call ⟨.builtin .append, #[so, xo], #[36, 36]⟩, t, p, af, gd⟩, 1) :: l) a S := by
  obtain ⟨i, hi, hz, hsz, hby⟩ := info_partsN numInfo
  subst hm hr
  refine rg_appendG (E := NmE) (u := u) (s := s) (i := i) (xs := xs) (ys := ys) (ad := ad) hg Try.underlying36 hi hz hsz rfl (by omega) hs hown hx rfl (by omega) hp (fun w K j y hj => ?_) hzz fun u' v' hO => ?_
  · have hne : nms ys ≠ [] := fun e => by (have e' : NmE.flat ys = [] := e; rw [e'] at hj; simp at hj)
    obtain ⟨b, off, e, _, hc⟩ := hA w K hne
    cases e
    have hj' : j < (nms ys).length := by
      rcases Nat.lt_or_ge j (nms ys).length with h | h
      · exact h
      · rw [List.getElem?_eq_none h] at hj; cases hj
    have e1 : (⟨b, off, none⟩ : Addr).add j = ⟨b, off + j, none⟩ := Addr.add_mid ..
    rw [e1, hc j hj', hj]
  · obtain ⟨a', c', rfl, -⟩ := Own.val hO
    have e : (xs ++ ys).length = xs.length + ys.length := by simp
    rw [e] at hO ⊢
    exact h u' a' c' hO
end
/-- The rounds of a loop over chunks of N numbers of the block bz. -/
def RoundsK (N bz lp : Nat) (r : Loop) (C : Nat → List Blk → Prop) : Prop :=
  r.params.size = 1 ∧ (∀ j s, C j s → (lp, Obj.loop r) ∈ s) ∧
  ∀ (R : Option Nat) (B : World) (F : List Nat) (j i : Nat) (s rest : List Blk) (w : World), j < N → i = j * N → C j s → Kn B F (s ++ rest) w →
    RoundIn (FR R) 0 Try.prog lp r.fn ((r.params.zip #[Value.slice (some ⟨bz, 0 + i * 5, none⟩) N N]).foldl (fun tmps (t, a) => tmps.setIfInBounds t a) r.tmps) r.assign r.body w
      (fun e w' => ∃ s', e = .returned (.bool true) ∧ C (j + 1) s' ∧ Kn B F (s' ++ rest) w')
section
variable {R : Option Nat} {ops : Array Oper} {Q : Exit → Act → World → Prop} {B : World} {F : List Nat}
theorem rg_yieldK {C : Nat → List Blk → Prop} {N bz lp : Nat} {r : Loop} {j i : Nat} {s rest : List Blk} {a : Act} {d : Option Tmp} {fo : Operand} {cargs : Array Operand} {at_ : Array TypeId} {t : TypeId} {p : String} {af : Array Edge} {gd : Option (Nat × Bool)} {lst : List (Oper × Nat)}
    (hR : RoundsK N bz lp r C) (hC : C j s) (hj : j < N) (hi : i = j * N) (hg : Region.wanted ⟨d, .call ⟨.value fo, cargs, at_⟩, t, p, af, gd⟩ (yielded ops a.tmps) = true)
    (hf : a.eval fo = .func (.yield lp) #[] #[]) (hargs : cargs.map a.eval = #[.slice (some ⟨bz, 0 + i * 5, none⟩) N N])
    (h : ∀ s', C (j + 1) s' → Rg R Try.prog ops Q B F none lst (a.put d (.bool true)) (s' ++ rest)) :
    Rg R Try.prog ops Q B F none ((⟨d, .call ⟨.value fo, cargs, at_⟩, t, p, af, gd⟩, 1) :: lst) a (s ++ rest) := by
  refine rg_yield (r := r) hg hf hargs hR.1.symm (List.mem_append_left _ (hR.2.1 j s hC)) fun w K => ?_
  exact (hR.2.2 R B F j i s rest w hj hi hC K).mono fun e w' ⟨s', he, hC', hK⟩ => ⟨_, _, he, hK, h s' hC'⟩
end
end Go.Proofs.Ytccbinnlnkpplaa
namespace Go.Proofs.Ytccbinnlnkpplaa
set_option linter.all false
open Go.RowKit

/-- A call that hands back a list of numbers of its own. -/
def RetNm (w : World) (xs : List Nm) (e : Ending) (w' : World) : Prop := ∃ v u, e = .returned v ∧ OwnN u v xs ∧ Made w u w'
theorem OwnN.emptyK {g : Nat} : OwnN [(g, .cells #[] 45)] (.slice (some ⟨g, 0, none⟩) 0 0) [] := ⟨rfl, .inr ⟨g, 0, #[], rfl, rfl, Nat.le_refl _, by simp only [maxLen]; omega, rfl, rfl⟩⟩
set_option maxRecDepth 100000 in
set_option maxHeartbeats 1000000 in
theorem clonek_any (N b off c : Nat) (xs : List Nm) (hl : Hid (xs.length = N)) (hN : N ≤ 1000) (w : World) (hA : AS w (some ⟨b, off, none⟩) (nms xs)) : Calls Try.prog 110 #[.slice (some ⟨b, off, none⟩) N c] w fun e w' => RetNm w xs e w' := by
  go_enter Try.func110, Try.ntmps110
  refine wk_start ?_
  refine wk_seq ?_
  refine wk_region [0] rfl (by kernel_rfl) ?_
  simp only [qy]
  refine rg_assign ?_
  simp only [qz]
  refine rg_nil (ek_next (wk_seq (wk_seq ?_)))
  refine wk_region [0, 0] rfl (by kernel_rfl) ?_
  simp only [qy]
  refine rg_move ?_
  simp only [qz]
  apply rg_softb
  case hy => (intro w hw; go_simp; (try go_bits); exact Yld.mk _ _)
  intro x h1
  obtain rfl : x = false := by (refine h1.symm.trans ?_; first | rfl | exact decide_eq_false (by omega) | exact beq_eq_false_iff_ne.2 (by omega) | exact bne_eq_false_iff_eq.2 (by omega) | (simp; omega) | (simp; done))
  clear h1
  simp only [qz]
  refine rg_nil (ek_next (wk_cond_f rfl (wk_skip (ek_next (wk_seq ?_)))))
  refine wk_region [1, 0, 1, 0] rfl (by kernel_rfl) ?_
  simp only [qy]
  refine rg_newS (cs := ?_) (ty := ?_) (n := 0) (c := 0) (by rfl) (fun w => ?_) (fun _ h => by cases h) (fun g1 => ?_); rotate_left 2
  focus (go_simp; rfl)
  simp only [qz]
  refine rg_move ?_
  simp only [qz]
  refine rg_appNums (u := [(g1, .cells #[] 45)]) (s := []) (xs := []) (ys := xs) (r := N) (by rfl) rfl OwnN.emptyK rfl hl.out (by simp only [List.length_nil, hl.out]; omega) (by omega) (List.Perm.refl _) (fun w hw => hA.kn0 hw) (fun _ h => by cases h) (fun u1 a1 c1 hO1 => ?_)
  simp only [qz]
  refine rg_assign ?_
  simp only [qz]
  refine rg_nil (ek_next (wk_ret ?_))
  refine ek_ret (fun w hw => ⟨rfl, _, res_t _ rfl, ?_⟩)
  (try simp only [qz])
  exact ⟨_, _, rfl, hO1, hw.made (by simp)⟩

set_option maxRecDepth 100000 in
set_option maxHeartbeats 1000000 in
theorem chunk_any (N bz nn cz : Nat) (hN : 1 ≤ N) (w : World) : Calls Try.prog 109 #[.slice (some ⟨bz, 0, none⟩) nn cz, .int .i64 N] w fun e w' => ∃ gs gn, e = .returned (.func (.func 154) #[] #[.pointer (some ⟨gs, 0, none⟩), .pointer (some ⟨gn, 0, none⟩)]) ∧ Made w [(gn, .cells #[.int .i64 N] 3), (gs, .cells #[.slice (some ⟨bz, 0, none⟩) nn cz] 36)] w' := by
  go_enter Try.func109, Try.ntmps109
  refine wk_start ?_
  refine wk_seq ?_
  refine wk_region [1, 1, 0] rfl (by kernel_rfl) ?_
  simp only [qy]
  refine rg_new (cs := ?_) (ty := ?_) (by rfl) (fun w => ?_) (fun _ h => by cases h) (fun g1 => ?_); rotate_left 2
  focus (go_simp; rfl)
  simp only [qz]
  refine rg_new (cs := ?_) (ty := ?_) (by rfl) (fun w => ?_) (fun _ h => by cases h) (fun g2 => ?_); rotate_left 2
  focus (go_simp; rfl)
  simp only [qz]
  refine rg_assign ?_
  simp only [qz]
  refine rg_nil (ek_next (wk_seq (wk_seq ?_)))
  refine wk_region [0, 0] rfl (by kernel_rfl) ?_
  simp only [qy]
  refine rf_load rfl rfl rfl Try.underlying3 rfl (fun w hw => (Kn.hd0 hw).at rfl) ?_
  simp only [qz]
  refine rfb_lss rfl rfl rfl rfl ?_
  intro x h1
  cases x
  · (try simp only [qd, ne_eq] at h1)
    simp only [qz]
    refine rg_nil (ek_next (wk_cond_f rfl (wk_skip (ek_next (wk_seq ?_)))))
    refine wk_region [0, 0] rfl (by kernel_rfl) ?_
    simp only [qy]
    apply rg_soft
    case hy => (intro w hw; go_simp; (try go_bits); exact Yld.mk _ _)
    simp only [qz]
    refine rg_assign ?_
    simp only [qz]
    refine rg_nil (ek_next (wk_ret ?_))
    refine ek_ret (fun w hw => ⟨rfl, _, res_t _ rfl, ?_⟩)
    (try simp only [qz])
    exact ⟨g1, g2, (by first | rfl | trivial), hw.made (List.Sublist.refl _)⟩
  (try simp only [qd, ne_eq] at h1)
  simp only [qz]
  exfalso; omega

set_option maxRecDepth 100000 in
set_option maxHeartbeats 1000000 in
theorem chunk1_any (N nn bz cz lp gs gn : Nat) (hN : 1 ≤ N) (hN6 : N ≤ 6) (hnn : Hid (nn = N * N)) (hn36 : nn ≤ 36) (hcz : nn ≤ cz) (r : Loop) (C : Nat → List Blk → Prop) (hR : RoundsK N bz lp r C) (s : List Blk) (F : List Nat) (hC0 : C 0 s) (w : World) (hK : Kn w F (s ++ [(gs, .cells #[.slice (some ⟨bz, 0, none⟩) nn cz] 36), (gn, .cells #[.int .i64 N] 3)]) w) : Calls Try.prog 154 #[.func (.yield lp) #[] #[], .pointer (some ⟨gs, 0, none⟩), .pointer (some ⟨gn, 0, none⟩)] w fun e w' => e = .returned (.tuple #[]) ∧ ∃ s', C N s' ∧ Kn w F (s' ++ [(gs, .cells #[.slice (some ⟨bz, 0, none⟩) nn cz] 36), (gn, .cells #[.int .i64 N] 3)]) w' := by
  go_enter Try.func154, Try.ntmps154
  refine wk_startF hK ?_
  refine wk_seq ?_
  refine wk_region [0] rfl (by kernel_rfl) ?_
  simp only [qy]
  refine rg_assign ?_
  simp only [qz]
  refine rg_nil (ek_next (wk_block ?_))
  refine wk_loopF [4, 5, 6, 7, 8, 9, 10, 11, 12, 13, 14, 15, 16, 17, 18, 19, 20, 21, 22, 23, 24, 25, 26, 27, 28, 29, 30] (fun mz f s => ∃ (j i : Nat) (uC : List Blk), f 4 = .int .i64 i ∧ s = (uC ++ ((gs, .cells #[.slice (some ⟨bz, 0, none⟩) nn cz] 36) :: ((gn, .cells #[.int .i64 N] 3) :: []))) ∧ mz = N - j ∧ j ≤ N ∧ Hid (i = j * N) ∧ C j uC) ((fun (j i : Nat) (uC : List Blk) => N - j) (0) (0) (s)) ?_ (by kernel_rfl) ?_
  · exact ⟨0, 0, s, rfl, rfl, rfl, by omega, Lib.hid (Nat.zero_mul N).symm, hC0⟩
  rintro mz f1 s ⟨j, i, uC, hs1_4, rfl, hn, hd1, hd2, hd3⟩
  simp only [Act.putF, List.foldl_cons, List.foldl_nil, hs1_4, Act.put, Act.eval, q1, q2, q3, q4, q5, q6, q7, q8, q9, q10, q11, q12, q13, q14, q15, q16, q17, q18, Nat.reduceAdd, Bool.not_true, Bool.not_false]
  clear hs1_4
  have hi := hd2
  have hC := hd3
  clear hd2 hd3
  refine wk_seq (wk_seq ?_)
  refine wk_region [0, 0, 0, 0] rfl (by kernel_rfl) ?_
  simp only [qy]
  refine rg_move ?_
  simp only [qz]
  refine rf_load rfl rfl rfl Try.underlying36 rfl (fun w hw => (Kn.hd0 (Kn.tlU hw)).at rfl) ?_
  simp only [qz]
  refine rf_len rfl rfl rfl Try.underlying36 ?_
  simp only [qz]
  refine rfb_lss rfl rfl rfl rfl ?_
  intro x h1
  cases x
  · (try simp only [qd, ne_eq] at h1)
    simp only [qz]
    have hjN : N ≤ j := Decidable.byContradiction fun hn => by
      have := Nat.mul_le_mul_right N (show j + 1 ≤ N by omega)
      rw [Nat.add_mul, Nat.one_mul, ← hi.out, ← hnn.out] at this
      omega
    refine rg_nil (ek_next (wk_cond_f rfl (wk_exit (ek_then_exit (ek_then_exit (ek_block_exit ?_))))))
    refine ek_norm (fun w hw => ⟨rfl, _, res_0 rfl, ?_⟩)
    (try simp only [qz])
    obtain rfl : j = N := by omega
    exact ⟨(by first | rfl | trivial), _, hC, hw⟩
  (try simp only [qd, ne_eq] at h1)
  simp only [qz]
  have hjN : j < N := Nat.lt_of_mul_lt_mul_right (a := N) (by rw [← hi.out, ← hnn.out]; omega)
  have hin : i + N ≤ nn := by
    have := Nat.mul_le_mul_right N (show j + 1 ≤ N by omega)
    rw [Nat.add_mul, Nat.one_mul, ← hi.out, ← hnn.out] at this
    exact this
  have hin1 : i + N = (j + 1) * N := by rw [Nat.add_mul, Nat.one_mul, ← hi.out]
  replace hin1 := Lib.hid hin1
  refine rg_nil (ek_next (wk_cond_t rfl (wk_skip (ek_next (wk_seq (wk_block (wk_seq ?_)))))))
  refine wk_draws _ _ [(0, 0), (1, 0), (2, 0), (3, 0), (4, 0), (5, 0), (6, 0)] [] (by kernel_rfl) (by kernel_rfl) (fun c d v a w h => by cases d <;> exact h) ((List.Sublist.append_left (sc _ (sc _ sn)) _)) (fun e => by first | exact absurd e (by decide) | rfl) ?_
  simp only [List.map_cons, List.map_nil, List.getD_cons_zero, List.getD_cons_succ]
  refine rf_load rfl rfl rfl Try.underlying3 rfl (fun w hw => (Kn.hd0 (Kn.tl (Kn.tlU hw))).at rfl) ?_
  simp only [qz]
  refine rf_load rfl rfl rfl Try.underlying36 rfl (fun w hw => (Kn.hd0 (Kn.tlU hw)).at rfl) ?_
  simp only [qz]
  refine rg_move ?_
  simp only [qz]
  refine rf_sliceFrom (lo := i) (sz := 5) rfl rfl rfl rfl Try.underlying36 (by kernel_rfl) (by omega) (by omega) ?_
  simp only [qz]
  refine rf_len rfl rfl rfl Try.underlying36 ?_
  simp only [qz]
  apply rg_soft
  case hy => (intro w hw; go_simp; (try go_bits); exact Yld.mk _ _)
  refine rg_assign ?_
  simp only [qz]
  refine rg_nil (ek_next (wk_seq ?_))
  refine wk_region [0, 0, 0, 0, 0, 0, 0, 0, 0, 0, 1, 0] rfl (by kernel_rfl) ?_
  simp only [qy]
  refine rg_move ?_
  simp only [qz]
  refine rf_load rfl rfl rfl Try.underlying36 rfl (fun w hw => (Kn.hd0 (Kn.tlU hw)).at rfl) ?_
  simp only [qz]
  refine rg_move ?_
  simp only [qz]
  refine rg_move ?_
  simp only [qz]
  refine rg_move ?_
  simp only [qz]
  refine rf_add rfl rfl rfl rfl (wrap_ok (by omega) (by omega)) ?_
  simp only [qz]
  refine rg_move ?_
  simp only [qz]
  refine rg_move ?_
  simp only [qz]
  refine rf_add rfl rfl rfl rfl (wrap_ok (by omega) (by omega)) ?_
  simp only [qz]
  refine rf_slice3 (lo := i) (hi := i + N) (n := N) (sz := 5) rfl rfl rfl rfl rfl rfl Try.underlying36 (by kernel_rfl) (by omega) (by omega) (by omega) rfl (by omega) (by omega) ?_
  simp only [qz]
  refine rg_yieldK (j := j) (i := i) hR hC hjN hi.out (by rfl) rfl (by simp only [qm, qs, Act.eval]; try rfl) (fun uD hCD => ?_)
  simp only [qz]
  refine rf_not rfl rfl rfl ?_
  simp only [qz]
  refine rg_nil (ek_next (wk_cond_f rfl (wk_skip (ek_block (ek_next ?_)))))
  refine wk_region [0, 0, 0, 0] rfl (by kernel_rfl) ?_
  simp only [qy]
  refine rg_move ?_
  simp only [qz]
  refine rf_load rfl rfl rfl Try.underlying3 rfl (fun w hw => (Kn.hd0 (Kn.tl (Kn.tlU hw))).at rfl) ?_
  simp only [qz]
  refine rf_add rfl rfl rfl rfl (wrap_ok (by omega) (by omega)) ?_
  simp only [qz]
  refine rg_assign ?_
  simp only [qz]
  refine rg_nil ?_
  refine ek_roundF (N - (j + 1)) (by omega) (by kernel_rfl) ?_
  exact ⟨j + 1, i + N, uD, rfl, by rfl, by rfl, by omega, hin1, hCD⟩

def mostN (N : Nat) : Int := [0, 40, 40, 12, 4].getD N 0
theorem most_at : ∀ N : Nat, N ≤ 4 → (#[Value.int .i64 0, .int .i64 40, .int .i64 40, .int .i64 12, .int .i64 4] : Array Value)[N]? = some (.int .i64 (mostN N)) := by
  intro N h
  rcases (by omega : N = 0 ∨ N = 1 ∨ N = 2 ∨ N = 3 ∨ N = 4) with rfl | rfl | rfl | rfl | rfl <;> rfl
set_option maxRecDepth 100000 in
set_option maxHeartbeats 1000000 in
theorem most_any (N : Nat) (hN : N ≤ 4) (w : World) : Calls Try.prog 108 #[.int .i64 (N : Int)] w fun e w' => e = .returned (.int .i64 (mostN N)) ∧ Below w.heap.size w w' := by
  go_enter Try.func108, Try.ntmps108
  refine wk_start ?_
  refine wk_seq ?_
  refine wk_region [0] rfl (by kernel_rfl) ?_
  simp only [qy]
  refine rg_assign ?_
  simp only [qz]
  refine rg_nil (ek_next (wk_seq ?_))
  refine wk_region [1, 0, 0, 0, 0] rfl (by kernel_rfl) ?_
  simp only [qy]
  refine rg_newS (cs := ?_) (ty := ?_) (n := 5) (c := 5) (by rfl) (fun w => ?_) (fun _ h => by cases h) (fun g1 => ?_); rotate_left 2
  focus (go_simp; rfl)
  simp only [qz]
  refine rg_move ?_
  simp only [qz]
  refine rf_indexS (n := N) (sz := 1) (j := N) rfl rfl rfl rfl Try.underlying22 (by kernel_rfl) (by omega) (by omega) (by omega) ?_
  simp only [qz]
  refine rf_load (v := .int .i64 (mostN N)) rfl rfl rfl Try.underlying3 rfl (fun w hw => ((Kn.hd0 hw).cell N).trans (most_at N hN)) ?_
  simp only [qz]
  refine rg_assign ?_
  simp only [qz]
  refine rg_nil (ek_next (wk_ret ?_))
  refine ek_ret (fun w hw => ⟨rfl, _, res_t _ rfl, ?_⟩)
  (try simp only [qz])
  first | exact ⟨rfl, hw.below⟩ | exact ⟨trivial, hw.below⟩ | exact hw.below

end Go.Proofs.Ytccbinnlnkpplaa
namespace Go.Proofs.Ytccbinnlnkpplaa
set_option linter.all false
open Go.RowKit
section
variable {R : Option Nat} {P : Program} {ops : Array Oper} {Q : Exit → Act → World → Prop} {B : World} {F : List Nat} {fuel : Nat} {listed : Array Bool} {a : Act} {s : List Blk}
theorem oper_out {K : Act → World → Prop} {o : Oper} {w : World} (h : o.wpIn (FR R) 0 P a w K (Exit.then K Q)) : o.wpIn (FR R) 0 P a w K Q := by
  unfold Oper.wpIn at *
  refine ⟨h.1, ?_⟩
  have h := h.2
  generalize (o.semAt (FR R).round a.eval).run P w = r at *
  cases r with
  | ok n w' =>
    cases n <;> simp only [Oper.uponIn] at h ⊢ <;>
      first
        | exact h
        | exact ⟨h.1, CallsIn.mono h.2 (fun e w'' he => by cases e <;> first | exact he | (obtain ⟨a₀, w₀, h₀⟩ := he; exact ⟨a₀, w₀, h₀⟩))⟩
        | exact ⟨h.1, RoundIn.mono h.2 (fun e w'' he => by cases e <;> first | exact he | (obtain ⟨a₀, w₀, h₀⟩ := he; exact ⟨a₀, w₀, h₀⟩))⟩
  | halt x w' => cases x <;> simp only [Oper.uponIn] at h ⊢ <;> exact h
theorem op_one {i : Nat} {o : Oper} {K : Act → World → Prop} {w : World} (ho : ops[i]? = some o) (h : wpListIn (FR R) 0 P ops (Exit.then K Q) [o] a w) : wpOpIn (FR R) 0 P ops Q i K a w := by
  unfold wpOpIn
  simp only [ho]
  unfold wpListIn at h
  split
  · next hw =>
    rw [if_pos hw] at h
    exact oper_out h
  · next hw =>
    rw [if_neg hw] at h
    exact h
end
end Go.Proofs.Ytccbinnlnkpplaa
namespace Go.Proofs.Ytccbinnlnkpplaa
set_option linter.all false
open Go.RowKit

/-- What holds at an end; nothing is let out. -/
def noOut (Q : Exit → Act → World → Prop) (e : Exit) (a : Act) (w : World) : Prop := match e with
  | .outgrown => False
  | e => Q e a w
theorem ek_out {Q : Exit → Act → World → Prop} {B : World} {F : List Nat} {a : Act} {s : List Blk} (h : Ek B F Q .normal a s) : Ek B F (noOut Q) .normal a s := h
theorem noOut_imp {Q : Exit → Act → World → Prop} {e : Exit} {a : Act} {w : World} (h : noOut Q e a w) : Q e a w := by
  cases e <;> first | exact h | exact h.elim
section
variable {R : Option Nat} {P : Program} {ops : Array Oper} {Q : Exit → Act → World → Prop} {md : Region.Mode}
theorem hop_post {Q' : Exit → Act → World → Prop} {K : Act → World → Prop} {o : Oper} {a : Act} {w : World} (hq : ∀ e a w, Q e a w → Q' e a w) (h : hop P ops Q K o a w) : hop P ops Q' K o a w := by
  unfold hop at *
  split
  · rename_i hw
    rw [if_pos hw] at h
    unfold Oper.wp at *
    generalize (execOp a.eval o).run P w = r at *
    cases r with
    | ok n w' =>
      cases n <;> simp only [Oper.upon] at h ⊢ <;>
        first
          | exact h
          | exact Calls.mono h (fun e w'' he => by cases e <;> first | exact he | exact hq _ _ _ he | (obtain ⟨a₀, w₀, h₀⟩ := he; exact ⟨a₀, w₀, hq _ _ _ h₀⟩))
    | halt x w' => cases x <;> simp only [Oper.upon] at h ⊢ <;> first | exact hq _ _ _ h | exact h
  · rename_i hw; rw [if_neg hw] at h; exact h
theorem op_in {i : Nat} {K K' : Act → World → Prop} {a : Act} {w : World} (hd : ∀ (i : Nat) (o : Oper), ops[i]? = some o → noDefer [o] = true) (hk : ∀ a w, K a w → K' a w) (h : wpOp P ops (noOut Q) i K a w) : wpOpIn (FR R) 0 P ops Q i K' a w := by
  unfold wpOp at h
  cases ho : ops[i]? with
  | none => rw [ho] at h; unfold wpOpIn; simp only [ho]; exact hk _ _ h
  | some o =>
    rw [ho] at h
    simp only at h
    have hh : hop P ops Q K' o a w := by
      refine hop_mono hk (hop_post (fun e a w h => noOut_imp h) (?_ : hop P ops (noOut Q) K o a w))
      unfold hop
      split at h
      · rename_i hw
        rw [if_pos hw]
        rcases h with h | ⟨-, a₀, w₀, h₀⟩
        · exact h
        · exact h₀.elim
      · rename_i hw
        rw [if_neg hw]; exact h
    refine op_one ho ?_
    have h2 : hop P ops (Exit.then K' Q) K' o a w := by
      unfold hop at hh ⊢
      split
      · rename_i hw
        rw [if_pos hw] at hh
        unfold Oper.wp at *
        generalize (execOp a.eval o).run P w = r at *
        cases r with
        | ok n w' =>
          cases n <;> simp only [Oper.upon] at hh ⊢ <;>
            first
              | exact hh
              | exact Calls.mono hh (fun e w'' he => by cases e <;> first | exact he | (obtain ⟨a₀, w₀, h₀⟩ := he; exact ⟨a₀, w₀, h₀⟩))
        | halt x w' => cases x <;> simp only [Oper.upon] at hh ⊢ <;> exact hh
      · rename_i hw; rw [if_neg hw] at hh; exact hh
    exact hop_in (hd i o ho) h2 (fun a w hk => by unfold wpListIn; exact hk)
theorem any_in (hd : ∀ (i : Nat) (o : Oper), ops[i]? = some o → noDefer [o] = true) : ∀ (fuel : Nat) (listed : Array Bool) (a : Act) (w : World), wpAny P md ops (noOut Q) fuel listed a w → wpAnyIn (FR R) 0 P md ops Q fuel listed a w
  | 0, _, _, _, h => h
  | fuel + 1, _, _, _, h => ⟨h.1, fun i hi => op_in hd (fun a' w' h' => any_in hd fuel _ a' w' h') (h.2 i hi)⟩
theorem any_eagT {a : Act} {w : World} {l : List Oper} {c : World → Prop} (m : List (Nat × (World → Prop))) (b : World → Prop) (ord : List (Nat × Nat)) 
    (hB : (Region.noSelect l.toArray && (decide (ord.length = l.length) && eagT .any l.toArray ord (m.map (·.1)) (Array.replicate l.length false))) = true)
    (hQ : ∀ c d v a w, Q (.panic c) (Act.put a d v) w → Q (.panic c) a w) (hb : b w.drew) (hc : ∀ w, b w → c w) (hcm : ∀ x ∈ m, ∀ w, x.2 w → c w)
    (h : wpEagF P l.toArray Q c ord m b a w.drew) : wpAny P .any l.toArray Q l.length (Array.replicate l.length false) a w.drew := by
  simp only [Bool.and_eq_true, decide_eq_true_eq] at hB
  obtain ⟨hs, hl, hB⟩ := hB
  have hx : ∀ x ∈ m, (Array.replicate l.length false).getD x.1 false = false := fun x _ => by
    rw [Array.getD_eq_getD_getElem?]
    rcases Nat.lt_or_ge x.1 l.length with h' | h' <;> simp [h', Array.getElem?_replicate]
  have := wpAnyF_of_eagT (md := .any) hs hQ ord m b _ a w.drew (fun k ok hk h => by
    rw [Array.getD_eq_getD_getElem?] at h
    rcases Nat.lt_or_ge k l.length with h' | h' <;> simp [h', Array.getElem?_replicate] at h) hx hc hcm hB hb h
  rw [hl] at this
  exact wpAny_of_F _ _ _ _ (by simpa using this)
end
section
variable {R : Option Nat} {P : Program} {ops : Array Oper} {Q : Exit → Act → World → Prop} {B : World} {F : List Nat} {s0 : Option (List Blk × List Blk)}
/-- A region that draws its order; z: what is known till the marked operation comes up, z1: what is known behind it. -/
theorem wk_drawsR {id : Nat} {a : Act} {s : List Blk} {l : List Oper} (z z1 : List Blk) (ord : List (Nat × Nat)) (mk : List Nat) (hm : P.follows .mixedOrders = true)
    (hB : ((Region.noSelect l.toArray && (decide (ord.length = l.length) && eagT .any l.toArray ord mk (Array.replicate l.length false))) &&
      ((ord.all fun p => decide (p.1 < l.length)) && (decide (mk.length ≤ 1) && decide ((ord.map (·.2)).filter (· == 2) = mk.map fun _ => 2)))) = true)
    (hQ : ∀ c d v a w, Q (.panic c) (Act.put a d v) w → Q (.panic c) a w) (hz : z.Sublist s) (hzz : mk = [] → z = z1)
    (hdf : (l.all fun o => noDefer [o]) = true)
    (h : Rg none P l.toArray (noOut Q) B F (some (z, z1)) (ord.map fun p => (l.getD p.1 default, p.2)) a s) (hy : z1.Sublist z := by exact List.Sublist.refl _) : Wk R P B F Q a s (Code.region id l.toArray true) := fun w K => by
  simp only [Bool.and_eq_true, decide_eq_true_eq, List.all_eq_true] at hB
  obtain ⟨hB1, h1, h3, h4⟩ := hB
  have hd : ∀ (i : Nat) (o : Oper), l.toArray[i]? = some o → noDefer [o] = true := fun i o ho => by
    rw [List.getElem?_toArray] at ho
    exact List.all_eq_true.1 hdf o (List.mem_of_getElem? ho)
  refine wpIn_region_any hm ?_
  have hsz : l.toArray.size = l.length := by simp
  rw [hsz]
  refine any_in hd _ _ _ _ ?_
  have hQ' : ∀ c d v a w, noOut Q (.panic c) (Act.put a d v) w → noOut Q (.panic c) a w := hQ
  match mk, h3, h4, hB1, hzz with
  | [], _, h4, hB1, hzz =>
    refine any_eagT [] (Kn B F z) ord (by simp only [Bool.and_eq_true, decide_eq_true_eq]; exact hB1) hQ' (K.drew.sub hz) (fun w K => K.sub hy) (fun x hx => nomatch hx) ?_
    refine rg_eag l rfl 0 ord (z, z1) a s [] (.inr ⟨rfl, hzz rfl, fun p hp e => ?_⟩) (by rw [if_pos rfl]; exact h4) (by simpa [List.all_eq_true] using h1) h w.drew K.drew
    have : p.2 ∈ (ord.map (·.2)).filter (· == 2) := List.mem_filter.2 ⟨List.mem_map.2 ⟨p, hp, rfl⟩, by simp [e]⟩
    rw [h4] at this; cases this
  | [x], _, h4, hB1, _ =>
    refine any_eagT [(x, Kn B F z1)] (Kn B F z) ord (by simp only [Bool.and_eq_true, decide_eq_true_eq]; exact hB1) hQ' (K.drew.sub hz) (fun w K => K.sub hy) (fun x hx w K => by simp only [List.mem_singleton] at hx; subst hx; exact K) ?_
    exact rg_eag l rfl x ord (z, z1) a s [(x, Kn B F z1)] (.inl rfl) (by rw [if_neg (by simp)]; exact h4) (by simpa [List.all_eq_true] using h1) h w.drew K.drew
  | _ :: _ :: _, h3, _, _, _ => simp at h3

end
end Go.Proofs.Ytccbinnlnkpplaa
namespace Go.Proofs.Ytccbinnlnkpplaa
set_option linter.all false
open Go.RowKit

set_option maxRecDepth 100000 in
set_option maxHeartbeats 1000000 in
theorem rSameM_eq (n : Int) (xs : List Nm) (a a' : Option Addr) (c c' : Nat) (hl : xs.length ≤ 1000000) (w : World) (hA : AS w a (nms xs)) (hB : AS w a' (nms xs)) : Calls Try.prog 36 #[.agg #[.int .i64 n, .slice a xs.length c], .agg #[.int .i64 n, .slice a' xs.length c']] w fun e w' => e = .returned (.bool true) ∧ Below w.heap.size w w' := by
  go_enter Try.func36, Try.ntmps36
  refine wk_start ?_
  refine wk_seq ?_
  refine wk_region [1, 1, 0] rfl Kx ?_
  simp only [qy]
  refine Rgn fun g1 => ?_
  simp only [qz]
  refine Rgn fun g2 => ?_
  simp only [qz]
  refine rg_assign ?_
  simp only [qz]
  refine rg_nil (ek_next (wk_seq (wk_seq ?_)))
  refine wk_region [0, 0, 0, 0, 0, 0, 0, 0, 0, 0, 0, 0, 0, 0] rfl Kx ?_
  simp only [qy]
  refine rf_field (n := 0) (j := 0) rfl rfl rfl Try.underlying38 rfl Kx rfl ?_
  simp only [qz]
  refine rf_load rfl rfl rfl Try.underlying3 rfl (fun w hw => (Kn.hd0 (Kn.tl hw)).at rfl) ?_
  simp only [qz]
  refine rf_field (n := 0) (j := 0) rfl rfl rfl Try.underlying38 rfl Kx rfl ?_
  simp only [qz]
  refine rf_load rfl rfl rfl Try.underlying3 rfl (fun w hw => (Kn.hd0 hw).at rfl) ?_
  simp only [qz]
  refine rfb_neq rfl rfl rfl rfl ?_
  intro x h1
  obtain rfl : x = false := by (refine h1.symm.trans ?_; exact decide_eq_false Ox)
  clear h1
  simp only [qz]
  refine rg_move ?_
  simp only [qz]
  refine rf_field (n := 0) (j := 1) rfl rfl rfl Try.underlying38 rfl Kx rfl ?_
  simp only [qz]
  refine rf_load rfl rfl rfl Try.underlying36 rfl (fun w hw => (Kn.hd0 (Kn.tl hw)).at rfl) ?_
  simp only [qz]
  refine rf_len rfl rfl rfl Try.underlying36 ?_
  simp only [qz]
  refine rf_field (n := 0) (j := 1) rfl rfl rfl Try.underlying38 rfl Kx rfl ?_
  simp only [qz]
  refine rf_load rfl rfl rfl Try.underlying36 rfl (fun w hw => (Kn.hd0 hw).at rfl) ?_
  simp only [qz]
  refine rf_len rfl rfl rfl Try.underlying36 ?_
  simp only [qz]
  refine rfb_neq rfl rfl rfl rfl ?_
  intro x h2
  obtain rfl : x = false := by (refine h2.symm.trans ?_; exact decide_eq_false Ox)
  clear h2
  simp only [qz]
  refine rf_pick rfl rfl rfl ?_
  simp only [qz]
  refine rg_nil (ek_next (wk_cond_f rfl (wk_skip (ek_next (wk_seq (wk_seq ?_))))))
  refine wk_region [0] rfl Kx ?_
  simp only [qy]
  refine rg_assign ?_
  simp only [qz]
  refine rg_nil (ek_next (wk_block ?_))
  refine wk_loopF [4, 5, 20, 21, 22, 23, 24, 25, 26, 27, 28, 29, 30, 31, 32, 33, 34, 35, 36, 37] (fun mz f s => ∃ (i : Nat), f 5 = .int .i64 i ∧ s = ((g2, .cells #[.int .i64 n, .slice a' xs.length c'] 38) :: ((g1, .cells #[.int .i64 n, .slice a xs.length c] 38) :: [])) ∧ mz = xs.length - i ∧ i ≤ xs.length) ((fun (i : Nat) => xs.length - i) (0)) ?_ Kx ?_
  · exact ⟨0, rfl, rfl, rfl, by omega⟩
  rintro mz f1 s ⟨i, hs1_5, rfl, hn, hd1⟩
  simp only [Act.putF, List.foldl_cons, List.foldl_nil, hs1_5, Act.put, Act.eval, q1, q2, q3, q4, q5, q6, q7, q8, q9, q10, q11, q12, q13, q14, q15, q16, q17, q18, Nat.reduceAdd, Bool.not_true, Bool.not_false]
  clear hs1_5
  refine wk_seq (wk_seq ?_)
  refine wk_region [0, 0, 0, 0, 0] rfl Kx ?_
  simp only [qy]
  refine rg_move ?_
  simp only [qz]
  refine rf_field (n := 0) (j := 1) rfl rfl rfl Try.underlying38 rfl Kx rfl ?_
  simp only [qz]
  refine rf_load rfl rfl rfl Try.underlying36 rfl (fun w hw => (Kn.hd0 (Kn.tl hw)).at rfl) ?_
  simp only [qz]
  refine rf_len rfl rfl rfl Try.underlying36 ?_
  simp only [qz]
  refine rfb_lss rfl rfl rfl rfl ?_
  intro x h3
  cases x
  · (try simp only [qd, ne_eq] at h3)
    simp only [qz]
    refine rg_nil (ek_next (wk_cond_f rfl (wk_exit (ek_then_exit (ek_then_exit (ek_block_exit (ek_next (wk_seq ?_))))))))
    refine wk_region [0] rfl Kx ?_
    simp only [qy]
    refine rg_assign ?_
    simp only [qz]
    refine rg_nil (ek_next (wk_ret ?_))
    refine ek_ret (fun w hw => ⟨rfl, _, res_t _ rfl, ?_⟩)
    (try simp only [qz])
    first | exact ⟨rfl, hw.below⟩ | exact ⟨trivial, hw.below⟩ | exact hw.below
  (try simp only [qd, ne_eq] at h3)
  simp only [qz]
  refine rg_nil (ek_next (wk_cond_t rfl (wk_skip (ek_next (wk_seq (wk_block (wk_seq ?_)))))))
  obtain ⟨b, off, ha, hlt, hcell⟩ := AS.openN hA Ox
  obtain ⟨b', off', ha', hlt', hcell'⟩ := AS.openN hB Ox
  subst ha ha'
  refine wk_draws _ _ [(0, 0), (1, 0), (2, 0), (3, 0), (4, 0), (5, 0), (6, 0), (7, 0), (8, 0), (9, 0), (10, 0)] [] Kx Kx (fun c d v a w h => by cases d <;> exact h) ((sc _ (sc _ sn))) (fun e => by first | exact absurd e (by decide) | rfl) ?_
  simp only [List.map_cons, List.map_nil, List.getD_cons_zero, List.getD_cons_succ]
  refine rf_field (n := 0) (j := 1) rfl rfl rfl Try.underlying38 rfl Kx rfl ?_
  simp only [qz]
  refine rf_load rfl rfl rfl Try.underlying36 rfl (fun w hw => (Kn.hd0 (Kn.tl hw)).at rfl) ?_
  simp only [qz]
  refine rg_move ?_
  simp only [qz]
  refine rf_indexS (n := i) (sz := 5) (j := off + i * 5) rfl rfl rfl rfl Try.underlying36 Kx Ox Ox rfl ?_
  simp only [qz]
  refine rf_loadC (n := 5) (vs := [.int .i64 (nm xs i).a, .int .i64 (nm xs i).b, .int .i64 (nm xs i).c, .int .i64 (nm xs i).d, .int .i64 (nm xs i).k]) rfl rfl rfl Try.underlying45 rfl Kx rfl (fun w hw => atN_range ((hcell i Ox).kn hw hlt (by simp))) ?_
  simp only [qz]
  refine rf_field (n := 0) (j := 1) rfl rfl rfl Try.underlying38 rfl Kx rfl ?_
  simp only [qz]
  refine rf_load rfl rfl rfl Try.underlying36 rfl (fun w hw => (Kn.hd0 hw).at rfl) ?_
  simp only [qz]
  refine rg_move ?_
  simp only [qz]
  refine rf_indexS (n := i) (sz := 5) (j := off' + i * 5) rfl rfl rfl rfl Try.underlying36 Kx Ox Ox rfl ?_
  simp only [qz]
  refine rf_loadC (n := 5) (vs := [.int .i64 (nm xs i).a, .int .i64 (nm xs i).b, .int .i64 (nm xs i).c, .int .i64 (nm xs i).d, .int .i64 (nm xs i).k]) rfl rfl rfl Try.underlying45 rfl Kx rfl (fun w hw => atN_range ((hcell' i Ox).kn hw hlt' (by simp))) ?_
  simp only [qz]
  refine rfb_neN (nm xs i) (nm xs i) rfl rfl rfl rfl ?_
  intro x h4
  cases x
  · (try simp only [qd, ne_eq] at h4)
    simp only [qz]
    refine rg_nil (ek_next (wk_cond_f rfl (wk_skip (ek_block (ek_next ?_)))))
    refine wk_region [0, 0, 0] rfl Kx ?_
    simp only [qy]
    refine rg_move ?_
    simp only [qz]
    refine rf_add rfl rfl rfl rfl (wrap_ok Ox Ox) ?_
    simp only [qz]
    refine rg_assign ?_
    simp only [qz]
    refine rg_nil ?_
    refine ek_roundF (xs.length - (i + 1)) Ox Kx ?_
    exact ⟨i + 1, rfl, by rfl, by rfl, Ox⟩
  (try simp only [qd, ne_eq] at h4)
  simp only [qz]
  simp at h4

end Go.Proofs.Ytccbinnlnkpplaa
namespace Go.Proofs.Ytccbinnlnkpplaa
set_option linter.all false
open Go.ChangeShapes Go.WideShapes Go.ChangeAt Go.RowKit

theorem its_of_each {Q : Nat → It → Prop} : ∀ n : Nat, (∀ i, i < n → ∃ x, Q i x) → ∃ xs : List It, xs.length = n ∧ ∀ i, i < n → Q i (it xs i)
  | 0, _ => ⟨[], rfl, fun i hi => by omega⟩
  | n + 1, h => by
    obtain ⟨xs, hl, hx⟩ := its_of_each n fun i hi => h i (by omega)
    obtain ⟨x, hq⟩ := h n (by omega)
    refine ⟨xs ++ [x], by simp [hl], fun i hi => ?_⟩
    by_cases e : i = n
    · subst e
      have : it (xs ++ [x]) i = x := by unfold it; rw [List.getD_eq_getElem?_getD, ← hl]; simp
      rw [this]; exact hq
    · have : it (xs ++ [x]) i = it xs i := by unfold it; rw [List.getD_eq_getElem?_getD, List.getD_eq_getElem?_getD, List.getElem?_append_left (by omega)]
      rw [this]; exact hx i (by omega)
theorem cellsIT : Try.prog.cellsOf 80 = 4 := by kernel_rfl
theorem cellsInt : Try.prog.cellsOf 3 = 1 := by kernel_rfl
theorem cellsStr : Try.prog.cellsOf 9 = 1 := by kernel_rfl
def ItWf (i : It) : Prop := (Lit.int .i64 i.kind).wf = true ∧ (Lit.int .i64 i.at_).wf = true ∧ (Lit.int .i64 i.n).wf = true ∧ i.name.size ≤ maxLen
set_option maxRecDepth 100000 in
theorem open_asT {H : Type} {enc : TypeId × Value → H} {W : World} {base : Nat} {v : Value} {d : DataW H} {p : List MemPlace}
    (hval : Value.okWide Try.prog W .any base 32 v) (h : DataW.Trod enc Try.prog W 0 (fun _ => true) true 32 v d p) (hlt : ∀ x ∈ p, x.block < W.heap.size) :
    ∃ (xs : List It) (a : Option Addr) (c : Nat), v = .slice a xs.length c ∧ AS W a (its xs) ∧ (∀ x ∈ xs, ItWf x) ∧ xs.length ≤ maxLen := by
  obtain ⟨a0, len, cap, rfl⟩ := okWide_slice Try.underlying32 hval
  obtain ⟨fuel, hf⟩ := h
  rcases Go.Deep.open_slice Try.underlying32 hf with ⟨hcs, hx⟩ | ⟨a, len', cap', m, n, D, Pl, hcs, _, hl, hm, hmm, hx, hel⟩
  · simp [Value.cells] at hcs
    obtain ⟨rfl, rfl, rfl⟩ := hcs
    exact ⟨[], none, 0, rfl, AS.nil, by simp, by simp⟩
  · simp [Value.cells] at hcs
    obtain ⟨rfl, rfl, rfl⟩ := hcs
    simp only [Prod.mk.injEq] at hx
    obtain ⟨rfl, rfl⟩ := hx
    simp only [if_true] at hmm
    subst hmm
    have each : ∀ i, i < len → ∃ x : It, (∀ r, r < 4 → W.cell? ((a.add (i * 4)).add r) = (itC x)[r]?) ∧ ItWf x := by
      intro i hi
      obtain ⟨cs', h1, h2⟩ := hel i (by omega)
      rw [cellsIT] at h1
      obtain ⟨_, hlen, hcell⟩ := World.cells?_some h1
      obtain ⟨y0, y1, y2, y3, k, _, hl4, t0, t1, t2, t3⟩ := Go.Joins.trod_struct4 Try.underlying80 h2
      match cs', hlen with
      | [v0, v1, v2, v3], _ =>
        simp only [cellsInt, cellsStr, List.drop_succ_cons, List.drop_zero, List.take_succ_cons, List.take_zero] at t0 t1 t2 t3
        obtain ⟨n0, e0, -, w0⟩ := DataW.trod_int Try.underlying3 t0
        obtain ⟨n1, e1, -, w1⟩ := DataW.trod_int Try.underlying3 t1
        obtain ⟨n2, e2, -, w2⟩ := DataW.trod_int Try.underlying3 t2
        obtain ⟨s3, e3, -, w3⟩ := DataW.trod_string Try.underlying9 t3
        simp only [List.cons.injEq, and_true] at e0 e1 e2 e3
        subst e0 e1 e2 e3
        exact ⟨⟨n0, n1, n2, s3⟩, fun r hr => hcell r hr, w0, w1, w2, w3⟩
    obtain ⟨xs, hxl, hxx⟩ := its_of_each len each
    subst hxl
    refine ⟨xs, some a, _, rfl, fun hne => ?_, fun x hx => ?_, by omega⟩
    · have h0 : 0 < xs.length := by
        rcases Nat.eq_zero_or_pos xs.length with h0 | h0
        · have := List.eq_nil_of_length_eq_zero h0; subst this; exact absurd rfl hne
        · exact h0
      obtain ⟨b, off, spot⟩ := a
      have hspot : spot = none := by
        have h1 := (hxx 0 h0).1 0 (by omega)
        have h2 : W.cell? (((⟨b, off, spot⟩ : Addr).add (0 * 4)).add 0) = some (.int .i64 (it xs 0).kind) := h1
        simpa [Addr.add] using World.cell?_spot h2
      subst hspot
      refine ⟨b, off, rfl, hlt (.cell b off) (List.mem_append_left _ (MemPlace.mem_row.2 ⟨0, by rw [cellsIT]; omega, by simp⟩)), fun j hj => ?_⟩
      rw [its_len] at hj
      have h1 := (hxx (j / 4) (by omega)).1 (j % 4) (Nat.mod_lt _ (by omega))
      have h2 := its_get xs (j / 4) (j % 4) (by omega) (Nat.mod_lt _ (by omega))
      have e : j / 4 * 4 + j % 4 = j := by omega
      rw [e] at h2
      rw [h2, ← h1]
      have e2 : ((⟨b, off, none⟩ : Addr).add (j / 4 * 4)).add (j % 4) = ⟨b, off + j, none⟩ := by
        have ap : ∀ o i : Nat, (⟨b, o, none⟩ : Addr).add i = ⟨b, o + i, none⟩ := fun o i => by simp [Addr.add]
        rw [ap, ap, show off + j / 4 * 4 + j % 4 = off + j by omega]
      rw [e2]
    · obtain ⟨j, hj, e⟩ := List.getElem_of_mem hx
      have : it xs j = x := by unfold it; rw [List.getD_eq_getElem?_getD, List.getElem?_eq_getElem hj]; exact e
      rw [← this]; exact (hxx j hj).2
end Go.Proofs.Ytccbinnlnkpplaa
namespace Go.Proofs.Ytccbinnlnkpplaa
set_option linter.all false
open Go.RowKit

namespace Mul64
theorem maskN (a : Nat) (ha : a < 18446744073709551616) : bits .and .u64 (a : Int) 4294967295 = ((a % 4294967296 : Nat) : Int) := by
  have h := bits_and_u64_nat a 4294967295 ha (by omega)
  have e : a &&& 4294967295 = a % 4294967296 := Nat.and_two_pow_sub_one_eq_mod a 32
  rw [e] at h
  exact h
theorem divN (a : Nat) : (a : Int) / 4294967296 = ((a / 4294967296 : Nat) : Int) := by omega
theorem mulN (a b : Nat) : (a : Int) * (b : Int) = ((a * b : Nat) : Int) := (Int.natCast_mul a b).symm
theorem addN (a b : Nat) : (a : Int) + (b : Int) = ((a + b : Nat) : Int) := (Int.natCast_add a b).symm
theorem wrapN (a : Nat) (ha : a < 18446744073709551616) : IntKind.u64.wrap (a : Int) = (a : Int) := by rw [IntKind.wrap_u64]; omega
theorem wrapM (a : Nat) : IntKind.u64.wrap (a : Int) = ((a % 18446744073709551616 : Nat) : Int) := by rw [IntKind.wrap_u64]; omega
end Mul64

set_option maxHeartbeats 1000000 in
theorem mul64_nat (x y : Nat) (hx : x < 18446744073709551616) (hy : y < 18446744073709551616) (w : World) :
    Calls Try.prog 188 #[.int .u64 x, .int .u64 y] w fun e w' => e = .returned (.tuple #[.int .u64 ((x * y / 18446744073709551616 : Nat) : Int), .int .u64 ((x * y % 18446744073709551616 : Nat) : Int)]) ∧ w = w' := by
  obtain ⟨bd, bt, bw, hhi⟩ := Lib.mul64_hi x y hx hy
  have ba := Lib.half_mul_le (a := x / 4294967296) (b := y / 4294967296) (by omega) (by omega)
  have bb := Lib.half_mul_le (a := x / 4294967296) (b := y % 4294967296) (by omega) (by omega)
  have bc := Lib.half_mul_le (a := x % 4294967296) (b := y / 4294967296) (by omega) (by omega)
  have ba' : x / 4294967296 * (y / 4294967296) < 18446744073709551616 := by omega
  have bb' : x / 4294967296 * (y % 4294967296) < 18446744073709551616 := by omega
  have bc' : x % 4294967296 * (y / 4294967296) < 18446744073709551616 := by omega
  have bh1 : x / 4294967296 * (y / 4294967296) + (x / 4294967296 * (y % 4294967296) + x % 4294967296 * (y % 4294967296) / 4294967296) / 4294967296 < 18446744073709551616 := by omega
  have bh : x / 4294967296 * (y / 4294967296) + (x / 4294967296 * (y % 4294967296) + x % 4294967296 * (y % 4294967296) / 4294967296) / 4294967296 + ((x / 4294967296 * (y % 4294967296) + x % 4294967296 * (y % 4294967296) / 4294967296) % 4294967296 + x % 4294967296 * (y / 4294967296)) / 4294967296 < 18446744073709551616 := by omega
  go_enter Try.func188, Try.ntmps188
  go_wp2
  simp only [Mul64.maskN x hx, Mul64.maskN y hy, Mul64.divN, Mul64.mulN, Mul64.addN, Mul64.wrapN _ bd, Mul64.wrapN _ bb', Mul64.wrapN _ bt, Mul64.maskN _ bt, Mul64.wrapN _ bc', Mul64.wrapN _ bw, Mul64.wrapN _ ba', Mul64.wrapN _ bh1, Mul64.wrapN _ bh, Mul64.wrapM (x * y)]
  rw [hhi]
  go_ret2
  exact ⟨rfl, rfl⟩

/-- math/bits.Mul64 over Int. -/
theorem mul64_any (x y : Int) (hx0 : 0 ≤ x) (hx : x ≤ 18446744073709551615) (hy0 : 0 ≤ y) (hy : y ≤ 18446744073709551615) (w : World) :
    Calls Try.prog 188 #[.int .u64 x, .int .u64 y] w fun e w' => e = .returned (.tuple #[.int .u64 (x * y / 18446744073709551616), .int .u64 (x * y % 18446744073709551616)]) ∧ w = w' := by
  obtain ⟨a, rfl⟩ := Int.eq_ofNat_of_zero_le hx0
  obtain ⟨b, rfl⟩ := Int.eq_ofNat_of_zero_le hy0
  refine (mul64_nat a b (by omega) (by omega) w).mono fun e w' ⟨he, hw⟩ => ⟨?_, hw⟩
  rw [he]
  simp

end Go.Proofs.Ytccbinnlnkpplaa
namespace Go.Proofs.Ytccbinnlnkpplaa
set_option linter.all false
open Go.RowKit

abbrev w6V (x : W6) : Value := .agg #[.int .u64 x.w0, .int .u64 x.w1, .int .u64 x.w2, .int .u64 x.w3, .int .u64 x.w4, .int .u64 x.w5]
theorem same_pure {P : Program} {f : Nat} {args : Array Value} {w : World} {v : Value} (h : Calls P f args w (fun e w' => e = .returned v ∧ w = w')) : Calls P f args w (fun e w' => e = .returned v ∧ Below w.heap.size w w') :=
  h.mono (by rintro e w' ⟨rfl, rfl⟩; exact ⟨rfl, Below.refl _ _⟩)
set_option maxRecDepth 100000 in
set_option maxHeartbeats 1000000 in
theorem w6add_any (m n : Int) (w : World) : Calls Try.prog 145 #[w6V (W6.of m), w6V (W6.of n)] w fun e w' => e = .returned (w6V (W6.of (m + n))) ∧ Below w.heap.size w w' := by
  obtain ⟨⟨x0, x1, x2, x3, x4, x5⟩, hx⟩ : ∃ r, W6.of m = r := ⟨_, rfl⟩
  have wx := W6.of_wf m
  rw [hx] at wx
  obtain ⟨xa0, xb0, xa1, xb1, xa2, xb2, xa3, xb3, xa4, xb4, xa5, xb5⟩ := wx
  dsimp only at xa0 xb0 xa1 xb1 xa2 xb2 xa3 xb3 xa4 xb4 xa5 xb5
  obtain ⟨⟨y0, y1, y2, y3, y4, y5⟩, hy⟩ : ∃ r, W6.of n = r := ⟨_, rfl⟩
  have wy := W6.of_wf n
  rw [hy] at wy
  obtain ⟨ya0, yb0, ya1, yb1, ya2, yb2, ya3, yb3, ya4, yb4, ya5, yb5⟩ := wy
  dsimp only at ya0 yb0 ya1 yb1 ya2 yb2 ya3 yb3 ya4 yb4 ya5 yb5
  obtain ⟨s0, hs0⟩ : ∃ s, (x0 + y0 + 0) % 18446744073709551616 = s := ⟨_, rfl⟩
  obtain ⟨c0, hc0⟩ : ∃ s, (x0 + y0 + 0) / 18446744073709551616 = s := ⟨_, rfl⟩
  have hcc0 : 0 ≤ c0 ∧ c0 ≤ 1 := by omega
  have hss0 : 0 ≤ s0 ∧ s0 < 18446744073709551616 := by omega
  obtain ⟨s1, hs1⟩ : ∃ s, (x1 + y1 + c0) % 18446744073709551616 = s := ⟨_, rfl⟩
  obtain ⟨c1, hc1⟩ : ∃ s, (x1 + y1 + c0) / 18446744073709551616 = s := ⟨_, rfl⟩
  have hcc1 : 0 ≤ c1 ∧ c1 ≤ 1 := by omega
  have hss1 : 0 ≤ s1 ∧ s1 < 18446744073709551616 := by omega
  obtain ⟨s2, hs2⟩ : ∃ s, (x2 + y2 + c1) % 18446744073709551616 = s := ⟨_, rfl⟩
  obtain ⟨c2, hc2⟩ : ∃ s, (x2 + y2 + c1) / 18446744073709551616 = s := ⟨_, rfl⟩
  have hcc2 : 0 ≤ c2 ∧ c2 ≤ 1 := by omega
  have hss2 : 0 ≤ s2 ∧ s2 < 18446744073709551616 := by omega
  obtain ⟨s3, hs3⟩ : ∃ s, (x3 + y3 + c2) % 18446744073709551616 = s := ⟨_, rfl⟩
  obtain ⟨c3, hc3⟩ : ∃ s, (x3 + y3 + c2) / 18446744073709551616 = s := ⟨_, rfl⟩
  have hcc3 : 0 ≤ c3 ∧ c3 ≤ 1 := by omega
  have hss3 : 0 ≤ s3 ∧ s3 < 18446744073709551616 := by omega
  obtain ⟨s4, hs4⟩ : ∃ s, (x4 + y4 + c3) % 18446744073709551616 = s := ⟨_, rfl⟩
  obtain ⟨c4, hc4⟩ : ∃ s, (x4 + y4 + c3) / 18446744073709551616 = s := ⟨_, rfl⟩
  have hcc4 : 0 ≤ c4 ∧ c4 ≤ 1 := by omega
  have hss4 : 0 ≤ s4 ∧ s4 < 18446744073709551616 := by omega
  obtain ⟨s5, hs5⟩ : ∃ s, (x5 + y5 + c4) % 18446744073709551616 = s := ⟨_, rfl⟩
  obtain ⟨c5, hc5⟩ : ∃ s, (x5 + y5 + c4) / 18446744073709551616 = s := ⟨_, rfl⟩
  have hcc5 : 0 ≤ c5 ∧ c5 ≤ 1 := by omega
  have hss5 : 0 ≤ s5 ∧ s5 < 18446744073709551616 := by omega
  have heq : (⟨s0, s1, s2, s3, s4, s5⟩ : W6) = W6.of (m + n) := W6.add_eq (c0 := c0) (c1 := c1) (c2 := c2) (c3 := c3) (c4 := c4) (c5 := c5) ⟨by dsimp only; omega, by dsimp only; omega, by dsimp only; omega, by dsimp only; omega, by dsimp only; omega, by dsimp only; omega, by dsimp only; omega, by dsimp only; omega, by dsimp only; omega, by dsimp only; omega, by dsimp only; omega, by dsimp only; omega⟩ (by rw [hx, hy]; dsimp only; omega) (by rw [hx, hy]; dsimp only; omega) (by rw [hx, hy]; dsimp only; omega) (by rw [hx, hy]; dsimp only; omega) (by rw [hx, hy]; dsimp only; omega) (by rw [hx, hy]; dsimp only; omega)
  rw [hx, hy]
  replace heq := Lib.hid heq
  clear hx hy
  go_enter Try.func145, Try.ntmps145
  refine wk_start ?_
  refine wk_seq ?_
  refine wk_region [1, 1, 1] rfl Kx ?_
  simp only [qy]
  refine Rgn fun g1 => ?_
  simp only [qz]
  refine Rgn fun g2 => ?_
  simp only [qz]
  refine Rgn fun g3 => ?_
  simp only [qz]
  refine rg_nil (ek_next (wk_seq ?_))
  refine wk_region [0] rfl Kx ?_
  simp only [qy]
  refine rg_assign ?_
  simp only [qz]
  refine rg_nil (ek_next (wk_seq (wk_seq ?_)))
  refine wk_region [0] rfl Kx ?_
  simp only [qy]
  refine rg_move ?_
  simp only [qz]
  refine rg_nil (ek_next (wk_block ?_))
  refine wk_unroll 6 ?_
  refine wk_seq ?_
  refine wk_region [0] rfl Kx ?_
  simp only [qy]
  refine rf_lss (b := true) rfl rfl rfl rfl (by decide) ?_
  simp only [qz]
  refine rg_nil (ek_next (wk_seq (wk_cond_t rfl (wk_skip (ek_next (wk_seq (wk_block (wk_seq ?_))))))))
  refine wk_region [0, 0] rfl Kx ?_
  simp only [qy]
  refine rg_move ?_
  simp only [qz]
  refine rg_assign ?_
  simp only [qz]
  refine rg_nil (ek_next ?_)
  refine wk_draws_m (hz1 := (sc _ (sc _ (sk _ sn)))) [(0, 0), (1, 0), (2, 0), (3, 0), (4, 0), (5, 0), (6, 0), (7, 0), (8, 1), (9, 0), (10, 0), (11, 3), (12, 0), (13, 2), (14, 0)] 13 Kx Kx (fun c d v a w h => by cases d <;> exact h) ?_
  simp only [List.map_cons, List.map_nil, List.getD_cons_zero, List.getD_cons_succ]
  refine rg_move ?_
  simp only [qz]
  refine rg_move ?_
  simp only [qz]
  refine rf_indexA (n := 0) (sz := 1) (j := 0) rfl rfl rfl rfl Try.underlying108 Kx (by decide) rfl ?_
  simp only [qz]
  refine rf_load rfl rfl rfl Try.underlying99 rfl (fun w hw => (Kn.hd0 (Kn.tl (Kn.tl hw))).at rfl) ?_
  simp only [qz]
  refine rg_move ?_
  simp only [qz]
  refine rf_indexA (n := 0) (sz := 1) (j := 0) rfl rfl rfl rfl Try.underlying108 Kx (by decide) rfl ?_
  simp only [qz]
  refine rf_load rfl rfl rfl Try.underlying99 rfl (fun w hw => (Kn.hd0 (Kn.tl hw)).at rfl) ?_
  simp only [qz]
  refine rg_move ?_
  simp only [qz]
  apply rg_ext Rx
  case hargs => exact Ax
  case h => exact fun w => run_Add64 x0 y0 0 s0 c0 Ox Ox Ox Ox hs0 hc0 w
  case hz => exact (fun _ h => by cases h; exact (sc _ (sc _ (sc _ sn))))
  simp only [qz]
  refine rg_move ?_
  simp only [qz]
  refine rf_extract rfl rfl rfl rfl ?_
  simp only [qz]
  refine rf_extract rfl rfl rfl rfl ?_
  simp only [qz]
  refine rf_indexA (n := 0) (sz := 1) (j := 0) rfl rfl rfl rfl Try.underlying108 Kx (by decide) rfl ?_
  simp only [qz]
  refine rf_storeM rfl rfl Kx rfl rfl (UpdR.there _ (UpdR.there _ (UpdR.here _ _ _ Nl))) (sc _ (sc _ (sk _ sn))) ?_
  simp only [qz]
  refine rg_assign ?_
  simp only [qz]
  refine rg_nil (ek_block (ek_next ?_))
  refine wk_region [0, 0] rfl Kx ?_
  simp only [qy]
  refine rf_add (r := 1) rfl rfl rfl rfl (by decide) ?_
  simp only [qz]
  refine rg_move ?_
  simp only [qz]
  refine rg_nil (ek_again (wk_seq ?_))
  refine wk_region [0] rfl Kx ?_
  simp only [qy]
  refine rf_lss (b := true) rfl rfl rfl rfl (by decide) ?_
  simp only [qz]
  refine rg_nil (ek_next (wk_seq (wk_cond_t rfl (wk_skip (ek_next (wk_seq (wk_block (wk_seq ?_))))))))
  refine wk_region [0, 0] rfl Kx ?_
  simp only [qy]
  refine rg_move ?_
  simp only [qz]
  refine rg_assign ?_
  simp only [qz]
  refine rg_nil (ek_next ?_)
  refine wk_draws_m (hz1 := (sc _ (sc _ (sk _ sn)))) [(0, 0), (1, 0), (2, 0), (3, 0), (4, 0), (5, 0), (6, 0), (7, 0), (8, 1), (9, 0), (10, 0), (11, 3), (12, 0), (13, 2), (14, 0)] 13 Kx Kx (fun c d v a w h => by cases d <;> exact h) ?_
  simp only [List.map_cons, List.map_nil, List.getD_cons_zero, List.getD_cons_succ]
  refine rg_move ?_
  simp only [qz]
  refine rg_move ?_
  simp only [qz]
  refine rf_indexA (n := 1) (sz := 1) (j := 1) rfl rfl rfl rfl Try.underlying108 Kx (by decide) rfl ?_
  simp only [qz]
  refine rf_load rfl rfl rfl Try.underlying99 rfl (fun w hw => (Kn.hd0 (Kn.tl (Kn.tl hw))).at rfl) ?_
  simp only [qz]
  refine rg_move ?_
  simp only [qz]
  refine rf_indexA (n := 1) (sz := 1) (j := 1) rfl rfl rfl rfl Try.underlying108 Kx (by decide) rfl ?_
  simp only [qz]
  refine rf_load rfl rfl rfl Try.underlying99 rfl (fun w hw => (Kn.hd0 (Kn.tl hw)).at rfl) ?_
  simp only [qz]
  refine rg_move ?_
  simp only [qz]
  apply rg_ext Rx
  case hargs => exact Ax
  case h => exact fun w => run_Add64 x1 y1 c0 s1 c1 Ox Ox Ox Ox hs1 hc1 w
  case hz => exact (fun _ h => by cases h; exact (sc _ (sc _ (sc _ sn))))
  simp only [qz]
  refine rg_move ?_
  simp only [qz]
  refine rf_extract rfl rfl rfl rfl ?_
  simp only [qz]
  refine rf_extract rfl rfl rfl rfl ?_
  simp only [qz]
  refine rf_indexA (n := 1) (sz := 1) (j := 1) rfl rfl rfl rfl Try.underlying108 Kx (by decide) rfl ?_
  simp only [qz]
  refine rf_storeM rfl rfl Kx rfl rfl (UpdR.there _ (UpdR.there _ (UpdR.here _ _ _ Nl))) (sc _ (sc _ (sk _ sn))) ?_
  simp only [qz]
  refine rg_assign ?_
  simp only [qz]
  refine rg_nil (ek_block (ek_next ?_))
  refine wk_region [0, 0] rfl Kx ?_
  simp only [qy]
  refine rf_add (r := 2) rfl rfl rfl rfl (by decide) ?_
  simp only [qz]
  refine rg_move ?_
  simp only [qz]
  refine rg_nil (ek_again (wk_seq ?_))
  refine wk_region [0] rfl Kx ?_
  simp only [qy]
  refine rf_lss (b := true) rfl rfl rfl rfl (by decide) ?_
  simp only [qz]
  refine rg_nil (ek_next (wk_seq (wk_cond_t rfl (wk_skip (ek_next (wk_seq (wk_block (wk_seq ?_))))))))
  refine wk_region [0, 0] rfl Kx ?_
  simp only [qy]
  refine rg_move ?_
  simp only [qz]
  refine rg_assign ?_
  simp only [qz]
  refine rg_nil (ek_next ?_)
  refine wk_draws_m (hz1 := (sc _ (sc _ (sk _ sn)))) [(0, 0), (1, 0), (2, 0), (3, 0), (4, 0), (5, 0), (6, 0), (7, 0), (8, 1), (9, 0), (10, 0), (11, 3), (12, 0), (13, 2), (14, 0)] 13 Kx Kx (fun c d v a w h => by cases d <;> exact h) ?_
  simp only [List.map_cons, List.map_nil, List.getD_cons_zero, List.getD_cons_succ]
  refine rg_move ?_
  simp only [qz]
  refine rg_move ?_
  simp only [qz]
  refine rf_indexA (n := 2) (sz := 1) (j := 2) rfl rfl rfl rfl Try.underlying108 Kx (by decide) rfl ?_
  simp only [qz]
  refine rf_load rfl rfl rfl Try.underlying99 rfl (fun w hw => (Kn.hd0 (Kn.tl (Kn.tl hw))).at rfl) ?_
  simp only [qz]
  refine rg_move ?_
  simp only [qz]
  refine rf_indexA (n := 2) (sz := 1) (j := 2) rfl rfl rfl rfl Try.underlying108 Kx (by decide) rfl ?_
  simp only [qz]
  refine rf_load rfl rfl rfl Try.underlying99 rfl (fun w hw => (Kn.hd0 (Kn.tl hw)).at rfl) ?_
  simp only [qz]
  refine rg_move ?_
  simp only [qz]
  apply rg_ext Rx
  case hargs => exact Ax
  case h => exact fun w => run_Add64 x2 y2 c1 s2 c2 Ox Ox Ox Ox hs2 hc2 w
  case hz => exact (fun _ h => by cases h; exact (sc _ (sc _ (sc _ sn))))
  simp only [qz]
  refine rg_move ?_
  simp only [qz]
  refine rf_extract rfl rfl rfl rfl ?_
  simp only [qz]
  refine rf_extract rfl rfl rfl rfl ?_
  simp only [qz]
  refine rf_indexA (n := 2) (sz := 1) (j := 2) rfl rfl rfl rfl Try.underlying108 Kx (by decide) rfl ?_
  simp only [qz]
  refine rf_storeM rfl rfl Kx rfl rfl (UpdR.there _ (UpdR.there _ (UpdR.here _ _ _ Nl))) (sc _ (sc _ (sk _ sn))) ?_
  simp only [qz]
  refine rg_assign ?_
  simp only [qz]
  refine rg_nil (ek_block (ek_next ?_))
  refine wk_region [0, 0] rfl Kx ?_
  simp only [qy]
  refine rf_add (r := 3) rfl rfl rfl rfl (by decide) ?_
  simp only [qz]
  refine rg_move ?_
  simp only [qz]
  refine rg_nil (ek_again (wk_seq ?_))
  refine wk_region [0] rfl Kx ?_
  simp only [qy]
  refine rf_lss (b := true) rfl rfl rfl rfl (by decide) ?_
  simp only [qz]
  refine rg_nil (ek_next (wk_seq (wk_cond_t rfl (wk_skip (ek_next (wk_seq (wk_block (wk_seq ?_))))))))
  refine wk_region [0, 0] rfl Kx ?_
  simp only [qy]
  refine rg_move ?_
  simp only [qz]
  refine rg_assign ?_
  simp only [qz]
  refine rg_nil (ek_next ?_)
  refine wk_draws_m (hz1 := (sc _ (sc _ (sk _ sn)))) [(0, 0), (1, 0), (2, 0), (3, 0), (4, 0), (5, 0), (6, 0), (7, 0), (8, 1), (9, 0), (10, 0), (11, 3), (12, 0), (13, 2), (14, 0)] 13 Kx Kx (fun c d v a w h => by cases d <;> exact h) ?_
  simp only [List.map_cons, List.map_nil, List.getD_cons_zero, List.getD_cons_succ]
  refine rg_move ?_
  simp only [qz]
  refine rg_move ?_
  simp only [qz]
  refine rf_indexA (n := 3) (sz := 1) (j := 3) rfl rfl rfl rfl Try.underlying108 Kx (by decide) rfl ?_
  simp only [qz]
  refine rf_load rfl rfl rfl Try.underlying99 rfl (fun w hw => (Kn.hd0 (Kn.tl (Kn.tl hw))).at rfl) ?_
  simp only [qz]
  refine rg_move ?_
  simp only [qz]
  refine rf_indexA (n := 3) (sz := 1) (j := 3) rfl rfl rfl rfl Try.underlying108 Kx (by decide) rfl ?_
  simp only [qz]
  refine rf_load rfl rfl rfl Try.underlying99 rfl (fun w hw => (Kn.hd0 (Kn.tl hw)).at rfl) ?_
  simp only [qz]
  refine rg_move ?_
  simp only [qz]
  apply rg_ext Rx
  case hargs => exact Ax
  case h => exact fun w => run_Add64 x3 y3 c2 s3 c3 Ox Ox Ox Ox hs3 hc3 w
  case hz => exact (fun _ h => by cases h; exact (sc _ (sc _ (sc _ sn))))
  simp only [qz]
  refine rg_move ?_
  simp only [qz]
  refine rf_extract rfl rfl rfl rfl ?_
  simp only [qz]
  refine rf_extract rfl rfl rfl rfl ?_
  simp only [qz]
  refine rf_indexA (n := 3) (sz := 1) (j := 3) rfl rfl rfl rfl Try.underlying108 Kx (by decide) rfl ?_
  simp only [qz]
  refine rf_storeM rfl rfl Kx rfl rfl (UpdR.there _ (UpdR.there _ (UpdR.here _ _ _ Nl))) (sc _ (sc _ (sk _ sn))) ?_
  simp only [qz]
  refine rg_assign ?_
  simp only [qz]
  refine rg_nil (ek_block (ek_next ?_))
  refine wk_region [0, 0] rfl Kx ?_
  simp only [qy]
  refine rf_add (r := 4) rfl rfl rfl rfl (by decide) ?_
  simp only [qz]
  refine rg_move ?_
  simp only [qz]
  refine rg_nil (ek_again (wk_seq ?_))
  refine wk_region [0] rfl Kx ?_
  simp only [qy]
  refine rf_lss (b := true) rfl rfl rfl rfl (by decide) ?_
  simp only [qz]
  refine rg_nil (ek_next (wk_seq (wk_cond_t rfl (wk_skip (ek_next (wk_seq (wk_block (wk_seq ?_))))))))
  refine wk_region [0, 0] rfl Kx ?_
  simp only [qy]
  refine rg_move ?_
  simp only [qz]
  refine rg_assign ?_
  simp only [qz]
  refine rg_nil (ek_next ?_)
  refine wk_draws_m (hz1 := (sc _ (sc _ (sk _ sn)))) [(0, 0), (1, 0), (2, 0), (3, 0), (4, 0), (5, 0), (6, 0), (7, 0), (8, 1), (9, 0), (10, 0), (11, 3), (12, 0), (13, 2), (14, 0)] 13 Kx Kx (fun c d v a w h => by cases d <;> exact h) ?_
  simp only [List.map_cons, List.map_nil, List.getD_cons_zero, List.getD_cons_succ]
  refine rg_move ?_
  simp only [qz]
  refine rg_move ?_
  simp only [qz]
  refine rf_indexA (n := 4) (sz := 1) (j := 4) rfl rfl rfl rfl Try.underlying108 Kx (by decide) rfl ?_
  simp only [qz]
  refine rf_load rfl rfl rfl Try.underlying99 rfl (fun w hw => (Kn.hd0 (Kn.tl (Kn.tl hw))).at rfl) ?_
  simp only [qz]
  refine rg_move ?_
  simp only [qz]
  refine rf_indexA (n := 4) (sz := 1) (j := 4) rfl rfl rfl rfl Try.underlying108 Kx (by decide) rfl ?_
  simp only [qz]
  refine rf_load rfl rfl rfl Try.underlying99 rfl (fun w hw => (Kn.hd0 (Kn.tl hw)).at rfl) ?_
  simp only [qz]
  refine rg_move ?_
  simp only [qz]
  apply rg_ext Rx
  case hargs => exact Ax
  case h => exact fun w => run_Add64 x4 y4 c3 s4 c4 Ox Ox Ox Ox hs4 hc4 w
  case hz => exact (fun _ h => by cases h; exact (sc _ (sc _ (sc _ sn))))
  simp only [qz]
  refine rg_move ?_
  simp only [qz]
  refine rf_extract rfl rfl rfl rfl ?_
  simp only [qz]
  refine rf_extract rfl rfl rfl rfl ?_
  simp only [qz]
  refine rf_indexA (n := 4) (sz := 1) (j := 4) rfl rfl rfl rfl Try.underlying108 Kx (by decide) rfl ?_
  simp only [qz]
  refine rf_storeM rfl rfl Kx rfl rfl (UpdR.there _ (UpdR.there _ (UpdR.here _ _ _ Nl))) (sc _ (sc _ (sk _ sn))) ?_
  simp only [qz]
  refine rg_assign ?_
  simp only [qz]
  refine rg_nil (ek_block (ek_next ?_))
  refine wk_region [0, 0] rfl Kx ?_
  simp only [qy]
  refine rf_add (r := 5) rfl rfl rfl rfl (by decide) ?_
  simp only [qz]
  refine rg_move ?_
  simp only [qz]
  refine rg_nil (ek_again (wk_seq ?_))
  refine wk_region [0] rfl Kx ?_
  simp only [qy]
  refine rf_lss (b := true) rfl rfl rfl rfl (by decide) ?_
  simp only [qz]
  refine rg_nil (ek_next (wk_seq (wk_cond_t rfl (wk_skip (ek_next (wk_seq (wk_block (wk_seq ?_))))))))
  refine wk_region [0, 0] rfl Kx ?_
  simp only [qy]
  refine rg_move ?_
  simp only [qz]
  refine rg_assign ?_
  simp only [qz]
  refine rg_nil (ek_next ?_)
  refine wk_draws_m (hz1 := (sc _ (sc _ (sk _ sn)))) [(0, 0), (1, 0), (2, 0), (3, 0), (4, 0), (5, 0), (6, 0), (7, 0), (8, 1), (9, 0), (10, 0), (11, 3), (12, 0), (13, 2), (14, 0)] 13 Kx Kx (fun c d v a w h => by cases d <;> exact h) ?_
  simp only [List.map_cons, List.map_nil, List.getD_cons_zero, List.getD_cons_succ]
  refine rg_move ?_
  simp only [qz]
  refine rg_move ?_
  simp only [qz]
  refine rf_indexA (n := 5) (sz := 1) (j := 5) rfl rfl rfl rfl Try.underlying108 Kx (by decide) rfl ?_
  simp only [qz]
  refine rf_load rfl rfl rfl Try.underlying99 rfl (fun w hw => (Kn.hd0 (Kn.tl (Kn.tl hw))).at rfl) ?_
  simp only [qz]
  refine rg_move ?_
  simp only [qz]
  refine rf_indexA (n := 5) (sz := 1) (j := 5) rfl rfl rfl rfl Try.underlying108 Kx (by decide) rfl ?_
  simp only [qz]
  refine rf_load rfl rfl rfl Try.underlying99 rfl (fun w hw => (Kn.hd0 (Kn.tl hw)).at rfl) ?_
  simp only [qz]
  refine rg_move ?_
  simp only [qz]
  apply rg_ext Rx
  case hargs => exact Ax
  case h => exact fun w => run_Add64 x5 y5 c4 s5 c5 Ox Ox Ox Ox hs5 hc5 w
  case hz => exact (fun _ h => by cases h; exact (sc _ (sc _ (sc _ sn))))
  simp only [qz]
  refine rg_move ?_
  simp only [qz]
  refine rf_extract rfl rfl rfl rfl ?_
  simp only [qz]
  refine rf_extract rfl rfl rfl rfl ?_
  simp only [qz]
  refine rf_indexA (n := 5) (sz := 1) (j := 5) rfl rfl rfl rfl Try.underlying108 Kx (by decide) rfl ?_
  simp only [qz]
  refine rf_storeM rfl rfl Kx rfl rfl (UpdR.there _ (UpdR.there _ (UpdR.here _ _ _ Nl))) (sc _ (sc _ (sk _ sn))) ?_
  simp only [qz]
  refine rg_assign ?_
  simp only [qz]
  refine rg_nil (ek_block (ek_next ?_))
  refine wk_region [0, 0] rfl Kx ?_
  simp only [qy]
  refine rf_add (r := 6) rfl rfl rfl rfl (by decide) ?_
  simp only [qz]
  refine rg_move ?_
  simp only [qz]
  refine rg_nil (ek_again (wk_seq ?_))
  refine wk_region [0] rfl Kx ?_
  simp only [qy]
  refine rf_lss (b := false) rfl rfl rfl rfl (by decide) ?_
  simp only [qz]
  refine rg_nil (ek_next (wk_seq (wk_cond_f rfl (wk_exit (ek_then_exit (ek_then_exit (ek_block_exit (ek_next (wk_seq ?_)))))))))
  refine wk_region [0, 1] rfl Kx ?_
  simp only [qy]
  refine rf_loadR (n := 6) rfl rfl rfl Try.underlying108 rfl Kx (fun w hw => Kn.hd0 (Kn.tl (Kn.tl hw))) rfl rfl ?_
  simp only [qz]
  refine rf_storeR (n := 6) rfl rfl Kx rfl rfl (UpdR.here _ _ _ Nl) Nz ?_
  simp only [qz, Nat.reduceAdd]
  refine rg_nil (ek_next (wk_ret ?_))
  refine ek_ret (fun w hw => ⟨rfl, _, run_results1 rfl rfl (Kn.hd0 hw) Try.underlying108 rfl Kx, ?_⟩)
  (try simp only [qz])
  exact ⟨by rw [← heq.out] <;> rfl, hw.below⟩

set_option maxRecDepth 100000 in
set_option maxHeartbeats 1000000 in
theorem w6neg_any (m : Int) (w : World) : Calls Try.prog 187 #[w6V (W6.of m)] w fun e w' => e = .returned (w6V (W6.of (-m))) ∧ Below w.heap.size w w' := by
  obtain ⟨⟨x0, x1, x2, x3, x4, x5⟩, hx⟩ : ∃ r, W6.of m = r := ⟨_, rfl⟩
  have wx := W6.of_wf m
  rw [hx] at wx
  obtain ⟨xa0, xb0, xa1, xb1, xa2, xb2, xa3, xb3, xa4, xb4, xa5, xb5⟩ := wx
  dsimp only at xa0 xb0 xa1 xb1 xa2 xb2 xa3 xb3 xa4 xb4 xa5 xb5
  obtain ⟨s0, hs0⟩ : ∃ s, (0 + 18446744073709551616 - x0 - 0) % 18446744073709551616 = s := ⟨_, rfl⟩
  obtain ⟨c0, hc0⟩ : ∃ s, (if 0 < x0 + 0 then (1 : Int) else 0) = s := ⟨_, rfl⟩
  have hcc0 : 0 ≤ c0 ∧ c0 ≤ 1 := by split at hc0 <;> omega
  have hss0 : 0 ≤ s0 ∧ s0 < 18446744073709551616 := by omega
  have hsc0 : s0 = 18446744073709551616 * c0 - x0 - 0 := by split at hc0 <;> omega
  obtain ⟨s1, hs1⟩ : ∃ s, (0 + 18446744073709551616 - x1 - c0) % 18446744073709551616 = s := ⟨_, rfl⟩
  obtain ⟨c1, hc1⟩ : ∃ s, (if 0 < x1 + c0 then (1 : Int) else 0) = s := ⟨_, rfl⟩
  have hcc1 : 0 ≤ c1 ∧ c1 ≤ 1 := by split at hc1 <;> omega
  have hss1 : 0 ≤ s1 ∧ s1 < 18446744073709551616 := by omega
  have hsc1 : s1 = 18446744073709551616 * c1 - x1 - c0 := by split at hc1 <;> omega
  obtain ⟨s2, hs2⟩ : ∃ s, (0 + 18446744073709551616 - x2 - c1) % 18446744073709551616 = s := ⟨_, rfl⟩
  obtain ⟨c2, hc2⟩ : ∃ s, (if 0 < x2 + c1 then (1 : Int) else 0) = s := ⟨_, rfl⟩
  have hcc2 : 0 ≤ c2 ∧ c2 ≤ 1 := by split at hc2 <;> omega
  have hss2 : 0 ≤ s2 ∧ s2 < 18446744073709551616 := by omega
  have hsc2 : s2 = 18446744073709551616 * c2 - x2 - c1 := by split at hc2 <;> omega
  obtain ⟨s3, hs3⟩ : ∃ s, (0 + 18446744073709551616 - x3 - c2) % 18446744073709551616 = s := ⟨_, rfl⟩
  obtain ⟨c3, hc3⟩ : ∃ s, (if 0 < x3 + c2 then (1 : Int) else 0) = s := ⟨_, rfl⟩
  have hcc3 : 0 ≤ c3 ∧ c3 ≤ 1 := by split at hc3 <;> omega
  have hss3 : 0 ≤ s3 ∧ s3 < 18446744073709551616 := by omega
  have hsc3 : s3 = 18446744073709551616 * c3 - x3 - c2 := by split at hc3 <;> omega
  obtain ⟨s4, hs4⟩ : ∃ s, (0 + 18446744073709551616 - x4 - c3) % 18446744073709551616 = s := ⟨_, rfl⟩
  obtain ⟨c4, hc4⟩ : ∃ s, (if 0 < x4 + c3 then (1 : Int) else 0) = s := ⟨_, rfl⟩
  have hcc4 : 0 ≤ c4 ∧ c4 ≤ 1 := by split at hc4 <;> omega
  have hss4 : 0 ≤ s4 ∧ s4 < 18446744073709551616 := by omega
  have hsc4 : s4 = 18446744073709551616 * c4 - x4 - c3 := by split at hc4 <;> omega
  obtain ⟨s5, hs5⟩ : ∃ s, (0 + 18446744073709551616 - x5 - c4) % 18446744073709551616 = s := ⟨_, rfl⟩
  obtain ⟨c5, hc5⟩ : ∃ s, (if 0 < x5 + c4 then (1 : Int) else 0) = s := ⟨_, rfl⟩
  have hcc5 : 0 ≤ c5 ∧ c5 ≤ 1 := by split at hc5 <;> omega
  have hss5 : 0 ≤ s5 ∧ s5 < 18446744073709551616 := by omega
  have hsc5 : s5 = 18446744073709551616 * c5 - x5 - c4 := by split at hc5 <;> omega
  have heq : (⟨s0, s1, s2, s3, s4, s5⟩ : W6) = W6.of (-m) := W6.neg_eq (c0 := c0) (c1 := c1) (c2 := c2) (c3 := c3) (c4 := c4) (c5 := c5) ⟨by dsimp only; omega, by dsimp only; omega, by dsimp only; omega, by dsimp only; omega, by dsimp only; omega, by dsimp only; omega, by dsimp only; omega, by dsimp only; omega, by dsimp only; omega, by dsimp only; omega, by dsimp only; omega, by dsimp only; omega⟩ (by rw [hx]; dsimp only; omega) (by rw [hx]; dsimp only; omega) (by rw [hx]; dsimp only; omega) (by rw [hx]; dsimp only; omega) (by rw [hx]; dsimp only; omega) (by rw [hx]; dsimp only; omega)
  rw [hx]
  replace heq := Lib.hid heq
  clear hx
  go_enter Try.func187, Try.ntmps187
  refine wk_start ?_
  refine wk_seq ?_
  refine wk_region [1, 1] rfl Kx ?_
  simp only [qy]
  refine Rgn fun g1 => ?_
  simp only [qz]
  refine Rgn fun g2 => ?_
  simp only [qz]
  refine rg_nil (ek_next (wk_seq ?_))
  refine wk_region [0] rfl Kx ?_
  simp only [qy]
  refine rg_assign ?_
  simp only [qz]
  refine rg_nil (ek_next (wk_seq (wk_seq ?_)))
  refine wk_region [0] rfl Kx ?_
  simp only [qy]
  refine rg_move ?_
  simp only [qz]
  refine rg_nil (ek_next (wk_block ?_))
  refine wk_unroll 6 ?_
  refine wk_seq ?_
  refine wk_region [0] rfl Kx ?_
  simp only [qy]
  refine rf_lss (b := true) rfl rfl rfl rfl (by decide) ?_
  simp only [qz]
  refine rg_nil (ek_next (wk_seq (wk_cond_t rfl (wk_skip (ek_next (wk_seq (wk_block (wk_seq ?_))))))))
  refine wk_region [0, 0] rfl Kx ?_
  simp only [qy]
  refine rg_move ?_
  simp only [qz]
  refine rg_assign ?_
  simp only [qz]
  refine rg_nil (ek_next ?_)
  refine wk_region [0, 0, 0, 0, 0, 1, 0, 0, 0, 0, 1, 0] rfl Kx ?_
  simp only [qy]
  refine rg_move ?_
  simp only [qz]
  refine rg_move ?_
  simp only [qz]
  refine rf_indexA (n := 0) (sz := 1) (j := 0) rfl rfl rfl rfl Try.underlying108 Kx (by decide) rfl ?_
  simp only [qz]
  refine rf_load rfl rfl rfl Try.underlying99 rfl (fun w hw => (Kn.hd0 (Kn.tl hw)).at rfl) ?_
  simp only [qz]
  refine rg_move ?_
  simp only [qz]
  apply rg_ext Rx
  case hargs => exact Ax
  case h => exact fun w => run_Sub64I 0 x0 0 s0 c0 Ox Ox Ox Ox Ox hs0 hc0 w
  case hz => exact Nz
  simp only [qz]
  refine rg_move ?_
  simp only [qz]
  refine rf_extract rfl rfl rfl rfl ?_
  simp only [qz]
  refine rf_extract rfl rfl rfl rfl ?_
  simp only [qz]
  refine rf_indexA (n := 0) (sz := 1) (j := 0) rfl rfl rfl rfl Try.underlying108 Kx (by decide) rfl ?_
  simp only [qz]
  refine rf_store rfl rfl Kx rfl rfl (UpdR.there _ (UpdR.here _ _ _ Nl)) Nz ?_
  simp only [qz]
  refine rg_assign ?_
  simp only [qz]
  refine rg_nil (ek_block (ek_next ?_))
  refine wk_region [0, 0] rfl Kx ?_
  simp only [qy]
  refine rf_add (r := 1) rfl rfl rfl rfl (by decide) ?_
  simp only [qz]
  refine rg_move ?_
  simp only [qz]
  refine rg_nil (ek_again (wk_seq ?_))
  refine wk_region [0] rfl Kx ?_
  simp only [qy]
  refine rf_lss (b := true) rfl rfl rfl rfl (by decide) ?_
  simp only [qz]
  refine rg_nil (ek_next (wk_seq (wk_cond_t rfl (wk_skip (ek_next (wk_seq (wk_block (wk_seq ?_))))))))
  refine wk_region [0, 0] rfl Kx ?_
  simp only [qy]
  refine rg_move ?_
  simp only [qz]
  refine rg_assign ?_
  simp only [qz]
  refine rg_nil (ek_next ?_)
  refine wk_region [0, 0, 0, 0, 0, 1, 0, 0, 0, 0, 1, 0] rfl Kx ?_
  simp only [qy]
  refine rg_move ?_
  simp only [qz]
  refine rg_move ?_
  simp only [qz]
  refine rf_indexA (n := 1) (sz := 1) (j := 1) rfl rfl rfl rfl Try.underlying108 Kx (by decide) rfl ?_
  simp only [qz]
  refine rf_load rfl rfl rfl Try.underlying99 rfl (fun w hw => (Kn.hd0 (Kn.tl hw)).at rfl) ?_
  simp only [qz]
  refine rg_move ?_
  simp only [qz]
  apply rg_ext Rx
  case hargs => exact Ax
  case h => exact fun w => run_Sub64I 0 x1 c0 s1 c1 Ox Ox Ox Ox Ox hs1 hc1 w
  case hz => exact Nz
  simp only [qz]
  refine rg_move ?_
  simp only [qz]
  refine rf_extract rfl rfl rfl rfl ?_
  simp only [qz]
  refine rf_extract rfl rfl rfl rfl ?_
  simp only [qz]
  refine rf_indexA (n := 1) (sz := 1) (j := 1) rfl rfl rfl rfl Try.underlying108 Kx (by decide) rfl ?_
  simp only [qz]
  refine rf_store rfl rfl Kx rfl rfl (UpdR.there _ (UpdR.here _ _ _ Nl)) Nz ?_
  simp only [qz]
  refine rg_assign ?_
  simp only [qz]
  refine rg_nil (ek_block (ek_next ?_))
  refine wk_region [0, 0] rfl Kx ?_
  simp only [qy]
  refine rf_add (r := 2) rfl rfl rfl rfl (by decide) ?_
  simp only [qz]
  refine rg_move ?_
  simp only [qz]
  refine rg_nil (ek_again (wk_seq ?_))
  refine wk_region [0] rfl Kx ?_
  simp only [qy]
  refine rf_lss (b := true) rfl rfl rfl rfl (by decide) ?_
  simp only [qz]
  refine rg_nil (ek_next (wk_seq (wk_cond_t rfl (wk_skip (ek_next (wk_seq (wk_block (wk_seq ?_))))))))
  refine wk_region [0, 0] rfl Kx ?_
  simp only [qy]
  refine rg_move ?_
  simp only [qz]
  refine rg_assign ?_
  simp only [qz]
  refine rg_nil (ek_next ?_)
  refine wk_region [0, 0, 0, 0, 0, 1, 0, 0, 0, 0, 1, 0] rfl Kx ?_
  simp only [qy]
  refine rg_move ?_
  simp only [qz]
  refine rg_move ?_
  simp only [qz]
  refine rf_indexA (n := 2) (sz := 1) (j := 2) rfl rfl rfl rfl Try.underlying108 Kx (by decide) rfl ?_
  simp only [qz]
  refine rf_load rfl rfl rfl Try.underlying99 rfl (fun w hw => (Kn.hd0 (Kn.tl hw)).at rfl) ?_
  simp only [qz]
  refine rg_move ?_
  simp only [qz]
  apply rg_ext Rx
  case hargs => exact Ax
  case h => exact fun w => run_Sub64I 0 x2 c1 s2 c2 Ox Ox Ox Ox Ox hs2 hc2 w
  case hz => exact Nz
  simp only [qz]
  refine rg_move ?_
  simp only [qz]
  refine rf_extract rfl rfl rfl rfl ?_
  simp only [qz]
  refine rf_extract rfl rfl rfl rfl ?_
  simp only [qz]
  refine rf_indexA (n := 2) (sz := 1) (j := 2) rfl rfl rfl rfl Try.underlying108 Kx (by decide) rfl ?_
  simp only [qz]
  refine rf_store rfl rfl Kx rfl rfl (UpdR.there _ (UpdR.here _ _ _ Nl)) Nz ?_
  simp only [qz]
  refine rg_assign ?_
  simp only [qz]
  refine rg_nil (ek_block (ek_next ?_))
  refine wk_region [0, 0] rfl Kx ?_
  simp only [qy]
  refine rf_add (r := 3) rfl rfl rfl rfl (by decide) ?_
  simp only [qz]
  refine rg_move ?_
  simp only [qz]
  refine rg_nil (ek_again (wk_seq ?_))
  refine wk_region [0] rfl Kx ?_
  simp only [qy]
  refine rf_lss (b := true) rfl rfl rfl rfl (by decide) ?_
  simp only [qz]
  refine rg_nil (ek_next (wk_seq (wk_cond_t rfl (wk_skip (ek_next (wk_seq (wk_block (wk_seq ?_))))))))
  refine wk_region [0, 0] rfl Kx ?_
  simp only [qy]
  refine rg_move ?_
  simp only [qz]
  refine rg_assign ?_
  simp only [qz]
  refine rg_nil (ek_next ?_)
  refine wk_region [0, 0, 0, 0, 0, 1, 0, 0, 0, 0, 1, 0] rfl Kx ?_
  simp only [qy]
  refine rg_move ?_
  simp only [qz]
  refine rg_move ?_
  simp only [qz]
  refine rf_indexA (n := 3) (sz := 1) (j := 3) rfl rfl rfl rfl Try.underlying108 Kx (by decide) rfl ?_
  simp only [qz]
  refine rf_load rfl rfl rfl Try.underlying99 rfl (fun w hw => (Kn.hd0 (Kn.tl hw)).at rfl) ?_
  simp only [qz]
  refine rg_move ?_
  simp only [qz]
  apply rg_ext Rx
  case hargs => exact Ax
  case h => exact fun w => run_Sub64I 0 x3 c2 s3 c3 Ox Ox Ox Ox Ox hs3 hc3 w
  case hz => exact Nz
  simp only [qz]
  refine rg_move ?_
  simp only [qz]
  refine rf_extract rfl rfl rfl rfl ?_
  simp only [qz]
  refine rf_extract rfl rfl rfl rfl ?_
  simp only [qz]
  refine rf_indexA (n := 3) (sz := 1) (j := 3) rfl rfl rfl rfl Try.underlying108 Kx (by decide) rfl ?_
  simp only [qz]
  refine rf_store rfl rfl Kx rfl rfl (UpdR.there _ (UpdR.here _ _ _ Nl)) Nz ?_
  simp only [qz]
  refine rg_assign ?_
  simp only [qz]
  refine rg_nil (ek_block (ek_next ?_))
  refine wk_region [0, 0] rfl Kx ?_
  simp only [qy]
  refine rf_add (r := 4) rfl rfl rfl rfl (by decide) ?_
  simp only [qz]
  refine rg_move ?_
  simp only [qz]
  refine rg_nil (ek_again (wk_seq ?_))
  refine wk_region [0] rfl Kx ?_
  simp only [qy]
  refine rf_lss (b := true) rfl rfl rfl rfl (by decide) ?_
  simp only [qz]
  refine rg_nil (ek_next (wk_seq (wk_cond_t rfl (wk_skip (ek_next (wk_seq (wk_block (wk_seq ?_))))))))
  refine wk_region [0, 0] rfl Kx ?_
  simp only [qy]
  refine rg_move ?_
  simp only [qz]
  refine rg_assign ?_
  simp only [qz]
  refine rg_nil (ek_next ?_)
  refine wk_region [0, 0, 0, 0, 0, 1, 0, 0, 0, 0, 1, 0] rfl Kx ?_
  simp only [qy]
  refine rg_move ?_
  simp only [qz]
  refine rg_move ?_
  simp only [qz]
  refine rf_indexA (n := 4) (sz := 1) (j := 4) rfl rfl rfl rfl Try.underlying108 Kx (by decide) rfl ?_
  simp only [qz]
  refine rf_load rfl rfl rfl Try.underlying99 rfl (fun w hw => (Kn.hd0 (Kn.tl hw)).at rfl) ?_
  simp only [qz]
  refine rg_move ?_
  simp only [qz]
  apply rg_ext Rx
  case hargs => exact Ax
  case h => exact fun w => run_Sub64I 0 x4 c3 s4 c4 Ox Ox Ox Ox Ox hs4 hc4 w
  case hz => exact Nz
  simp only [qz]
  refine rg_move ?_
  simp only [qz]
  refine rf_extract rfl rfl rfl rfl ?_
  simp only [qz]
  refine rf_extract rfl rfl rfl rfl ?_
  simp only [qz]
  refine rf_indexA (n := 4) (sz := 1) (j := 4) rfl rfl rfl rfl Try.underlying108 Kx (by decide) rfl ?_
  simp only [qz]
  refine rf_store rfl rfl Kx rfl rfl (UpdR.there _ (UpdR.here _ _ _ Nl)) Nz ?_
  simp only [qz]
  refine rg_assign ?_
  simp only [qz]
  refine rg_nil (ek_block (ek_next ?_))
  refine wk_region [0, 0] rfl Kx ?_
  simp only [qy]
  refine rf_add (r := 5) rfl rfl rfl rfl (by decide) ?_
  simp only [qz]
  refine rg_move ?_
  simp only [qz]
  refine rg_nil (ek_again (wk_seq ?_))
  refine wk_region [0] rfl Kx ?_
  simp only [qy]
  refine rf_lss (b := true) rfl rfl rfl rfl (by decide) ?_
  simp only [qz]
  refine rg_nil (ek_next (wk_seq (wk_cond_t rfl (wk_skip (ek_next (wk_seq (wk_block (wk_seq ?_))))))))
  refine wk_region [0, 0] rfl Kx ?_
  simp only [qy]
  refine rg_move ?_
  simp only [qz]
  refine rg_assign ?_
  simp only [qz]
  refine rg_nil (ek_next ?_)
  refine wk_region [0, 0, 0, 0, 0, 1, 0, 0, 0, 0, 1, 0] rfl Kx ?_
  simp only [qy]
  refine rg_move ?_
  simp only [qz]
  refine rg_move ?_
  simp only [qz]
  refine rf_indexA (n := 5) (sz := 1) (j := 5) rfl rfl rfl rfl Try.underlying108 Kx (by decide) rfl ?_
  simp only [qz]
  refine rf_load rfl rfl rfl Try.underlying99 rfl (fun w hw => (Kn.hd0 (Kn.tl hw)).at rfl) ?_
  simp only [qz]
  refine rg_move ?_
  simp only [qz]
  apply rg_ext Rx
  case hargs => exact Ax
  case h => exact fun w => run_Sub64I 0 x5 c4 s5 c5 Ox Ox Ox Ox Ox hs5 hc5 w
  case hz => exact Nz
  simp only [qz]
  refine rg_move ?_
  simp only [qz]
  refine rf_extract rfl rfl rfl rfl ?_
  simp only [qz]
  refine rf_extract rfl rfl rfl rfl ?_
  simp only [qz]
  refine rf_indexA (n := 5) (sz := 1) (j := 5) rfl rfl rfl rfl Try.underlying108 Kx (by decide) rfl ?_
  simp only [qz]
  refine rf_store rfl rfl Kx rfl rfl (UpdR.there _ (UpdR.here _ _ _ Nl)) Nz ?_
  simp only [qz]
  refine rg_assign ?_
  simp only [qz]
  refine rg_nil (ek_block (ek_next ?_))
  refine wk_region [0, 0] rfl Kx ?_
  simp only [qy]
  refine rf_add (r := 6) rfl rfl rfl rfl (by decide) ?_
  simp only [qz]
  refine rg_move ?_
  simp only [qz]
  refine rg_nil (ek_again (wk_seq ?_))
  refine wk_region [0] rfl Kx ?_
  simp only [qy]
  refine rf_lss (b := false) rfl rfl rfl rfl (by decide) ?_
  simp only [qz]
  refine rg_nil (ek_next (wk_seq (wk_cond_f rfl (wk_exit (ek_then_exit (ek_then_exit (ek_block_exit (ek_next (wk_seq ?_)))))))))
  refine wk_region [0, 1] rfl Kx ?_
  simp only [qy]
  refine rf_loadR (n := 6) rfl rfl rfl Try.underlying108 rfl Kx (fun w hw => Kn.hd0 (Kn.tl hw)) rfl rfl ?_
  simp only [qz]
  refine rf_storeR (n := 6) rfl rfl Kx rfl rfl (UpdR.here _ _ _ Nl) Nz ?_
  simp only [qz, Nat.reduceAdd]
  refine rg_nil (ek_next (wk_ret ?_))
  refine ek_ret (fun w hw => ⟨rfl, _, run_results1 rfl rfl (Kn.hd0 hw) Try.underlying108 rfl Kx, ?_⟩)
  (try simp only [qz])
  exact ⟨by rw [← heq.out] <;> rfl, hw.below⟩

set_option maxRecDepth 100000 in
set_option maxHeartbeats 2000000 in
theorem w6times_pos (m n : Int) (h0 : 0 ≤ n) (h1 : n ≤ 9223372036854775807) (w : World) : Calls Try.prog 146 #[w6V (W6.of m), .int .i64 n] w fun e w' => e = .returned (w6V (W6.of (m * n))) ∧ Below w.heap.size w w' := by
  obtain ⟨⟨x0, x1, x2, x3, x4, x5⟩, hx⟩ : ∃ r, W6.of m = r := ⟨_, rfl⟩
  have wx := W6.of_wf m
  rw [hx] at wx
  obtain ⟨xa0, xb0, xa1, xb1, xa2, xb2, xa3, xb3, xa4, xb4, xa5, xb5⟩ := wx
  dsimp only at xa0 xb0 xa1 xb1 xa2 xb2 xa3 xb3 xa4 xb4 xa5 xb5
  have hp0 : 0 ≤ x0 * n ∧ x0 * n ≤ 18446744073709551615 * n := ⟨Int.mul_nonneg Ox h0, Int.mul_le_mul_of_nonneg_right Ox h0⟩
  have cm0 := mul64_any x0 n Ox Ox h0 Ox
  have hp1 : 0 ≤ x1 * n ∧ x1 * n ≤ 18446744073709551615 * n := ⟨Int.mul_nonneg Ox h0, Int.mul_le_mul_of_nonneg_right Ox h0⟩
  have cm1 := mul64_any x1 n Ox Ox h0 Ox
  have hp2 : 0 ≤ x2 * n ∧ x2 * n ≤ 18446744073709551615 * n := ⟨Int.mul_nonneg Ox h0, Int.mul_le_mul_of_nonneg_right Ox h0⟩
  have cm2 := mul64_any x2 n Ox Ox h0 Ox
  have hp3 : 0 ≤ x3 * n ∧ x3 * n ≤ 18446744073709551615 * n := ⟨Int.mul_nonneg Ox h0, Int.mul_le_mul_of_nonneg_right Ox h0⟩
  have cm3 := mul64_any x3 n Ox Ox h0 Ox
  have hp4 : 0 ≤ x4 * n ∧ x4 * n ≤ 18446744073709551615 * n := ⟨Int.mul_nonneg Ox h0, Int.mul_le_mul_of_nonneg_right Ox h0⟩
  have cm4 := mul64_any x4 n Ox Ox h0 Ox
  have hp5 : 0 ≤ x5 * n ∧ x5 * n ≤ 18446744073709551615 * n := ⟨Int.mul_nonneg Ox h0, Int.mul_le_mul_of_nonneg_right Ox h0⟩
  have cm5 := mul64_any x5 n Ox Ox h0 Ox
  obtain ⟨p0, hq0⟩ : ∃ p, x0 * n = p := ⟨_, rfl⟩
  rw [hq0] at hp0 cm0
  obtain ⟨g0, hg0⟩ : ∃ s, p0 / 18446744073709551616 = s := ⟨_, rfl⟩
  obtain ⟨l0, hl0⟩ : ∃ s, p0 % 18446744073709551616 = s := ⟨_, rfl⟩
  rw [hg0, hl0] at cm0
  replace cm0 := Lib.hid cm0
  obtain ⟨s0, hs0⟩ : ∃ s, (l0 + 0 + 0) % 18446744073709551616 = s := ⟨_, rfl⟩
  obtain ⟨c0, hc0⟩ : ∃ s, (l0 + 0 + 0) / 18446744073709551616 = s := ⟨_, rfl⟩
  obtain ⟨k0, hk0⟩ : ∃ s, g0 + c0 = s := ⟨_, rfl⟩
  have hkk0 : 0 ≤ k0 ∧ k0 ≤ n := by omega
  have hss0 : 0 ≤ s0 ∧ s0 < 18446744073709551616 := by omega
  obtain ⟨p1, hq1⟩ : ∃ p, x1 * n = p := ⟨_, rfl⟩
  rw [hq1] at hp1 cm1
  obtain ⟨g1, hg1⟩ : ∃ s, p1 / 18446744073709551616 = s := ⟨_, rfl⟩
  obtain ⟨l1, hl1⟩ : ∃ s, p1 % 18446744073709551616 = s := ⟨_, rfl⟩
  rw [hg1, hl1] at cm1
  replace cm1 := Lib.hid cm1
  obtain ⟨s1, hs1⟩ : ∃ s, (l1 + k0 + 0) % 18446744073709551616 = s := ⟨_, rfl⟩
  obtain ⟨c1, hc1⟩ : ∃ s, (l1 + k0 + 0) / 18446744073709551616 = s := ⟨_, rfl⟩
  obtain ⟨k1, hk1⟩ : ∃ s, g1 + c1 = s := ⟨_, rfl⟩
  have hkk1 : 0 ≤ k1 ∧ k1 ≤ n := by omega
  have hss1 : 0 ≤ s1 ∧ s1 < 18446744073709551616 := by omega
  obtain ⟨p2, hq2⟩ : ∃ p, x2 * n = p := ⟨_, rfl⟩
  rw [hq2] at hp2 cm2
  obtain ⟨g2, hg2⟩ : ∃ s, p2 / 18446744073709551616 = s := ⟨_, rfl⟩
  obtain ⟨l2, hl2⟩ : ∃ s, p2 % 18446744073709551616 = s := ⟨_, rfl⟩
  rw [hg2, hl2] at cm2
  replace cm2 := Lib.hid cm2
  obtain ⟨s2, hs2⟩ : ∃ s, (l2 + k1 + 0) % 18446744073709551616 = s := ⟨_, rfl⟩
  obtain ⟨c2, hc2⟩ : ∃ s, (l2 + k1 + 0) / 18446744073709551616 = s := ⟨_, rfl⟩
  obtain ⟨k2, hk2⟩ : ∃ s, g2 + c2 = s := ⟨_, rfl⟩
  have hkk2 : 0 ≤ k2 ∧ k2 ≤ n := by omega
  have hss2 : 0 ≤ s2 ∧ s2 < 18446744073709551616 := by omega
  obtain ⟨p3, hq3⟩ : ∃ p, x3 * n = p := ⟨_, rfl⟩
  rw [hq3] at hp3 cm3
  obtain ⟨g3, hg3⟩ : ∃ s, p3 / 18446744073709551616 = s := ⟨_, rfl⟩
  obtain ⟨l3, hl3⟩ : ∃ s, p3 % 18446744073709551616 = s := ⟨_, rfl⟩
  rw [hg3, hl3] at cm3
  replace cm3 := Lib.hid cm3
  obtain ⟨s3, hs3⟩ : ∃ s, (l3 + k2 + 0) % 18446744073709551616 = s := ⟨_, rfl⟩
  obtain ⟨c3, hc3⟩ : ∃ s, (l3 + k2 + 0) / 18446744073709551616 = s := ⟨_, rfl⟩
  obtain ⟨k3, hk3⟩ : ∃ s, g3 + c3 = s := ⟨_, rfl⟩
  have hkk3 : 0 ≤ k3 ∧ k3 ≤ n := by omega
  have hss3 : 0 ≤ s3 ∧ s3 < 18446744073709551616 := by omega
  obtain ⟨p4, hq4⟩ : ∃ p, x4 * n = p := ⟨_, rfl⟩
  rw [hq4] at hp4 cm4
  obtain ⟨g4, hg4⟩ : ∃ s, p4 / 18446744073709551616 = s := ⟨_, rfl⟩
  obtain ⟨l4, hl4⟩ : ∃ s, p4 % 18446744073709551616 = s := ⟨_, rfl⟩
  rw [hg4, hl4] at cm4
  replace cm4 := Lib.hid cm4
  obtain ⟨s4, hs4⟩ : ∃ s, (l4 + k3 + 0) % 18446744073709551616 = s := ⟨_, rfl⟩
  obtain ⟨c4, hc4⟩ : ∃ s, (l4 + k3 + 0) / 18446744073709551616 = s := ⟨_, rfl⟩
  obtain ⟨k4, hk4⟩ : ∃ s, g4 + c4 = s := ⟨_, rfl⟩
  have hkk4 : 0 ≤ k4 ∧ k4 ≤ n := by omega
  have hss4 : 0 ≤ s4 ∧ s4 < 18446744073709551616 := by omega
  obtain ⟨p5, hq5⟩ : ∃ p, x5 * n = p := ⟨_, rfl⟩
  rw [hq5] at hp5 cm5
  obtain ⟨g5, hg5⟩ : ∃ s, p5 / 18446744073709551616 = s := ⟨_, rfl⟩
  obtain ⟨l5, hl5⟩ : ∃ s, p5 % 18446744073709551616 = s := ⟨_, rfl⟩
  rw [hg5, hl5] at cm5
  replace cm5 := Lib.hid cm5
  obtain ⟨s5, hs5⟩ : ∃ s, (l5 + k4 + 0) % 18446744073709551616 = s := ⟨_, rfl⟩
  obtain ⟨c5, hc5⟩ : ∃ s, (l5 + k4 + 0) / 18446744073709551616 = s := ⟨_, rfl⟩
  obtain ⟨k5, hk5⟩ : ∃ s, g5 + c5 = s := ⟨_, rfl⟩
  have hkk5 : 0 ≤ k5 ∧ k5 ≤ n := by omega
  have hss5 : 0 ≤ s5 ∧ s5 < 18446744073709551616 := by omega
  have heq : (⟨s0, s1, s2, s3, s4, s5⟩ : W6) = W6.of (m * n) := W6.times_eq (c0 := k0) (c1 := k1) (c2 := k2) (c3 := k3) (c4 := k4) (c5 := k5) ⟨by dsimp only; omega, by dsimp only; omega, by dsimp only; omega, by dsimp only; omega, by dsimp only; omega, by dsimp only; omega, by dsimp only; omega, by dsimp only; omega, by dsimp only; omega, by dsimp only; omega, by dsimp only; omega, by dsimp only; omega⟩ (by rw [hx]; dsimp only; omega) (by rw [hx]; dsimp only; omega) (by rw [hx]; dsimp only; omega) (by rw [hx]; dsimp only; omega) (by rw [hx]; dsimp only; omega) (by rw [hx]; dsimp only; omega)
  rw [hx]
  replace heq := Lib.hid heq
  clear hx
  go_enter Try.func146, Try.ntmps146
  refine wk_start ?_
  refine wk_seq ?_
  refine wk_region [1, 1] rfl Kx ?_
  simp only [qy]
  refine Rgn fun g1 => ?_
  simp only [qz]
  refine Rgn fun g2 => ?_
  simp only [qz]
  refine rg_nil (ek_next (wk_seq (wk_seq ?_)))
  refine wk_region [0, 0] rfl Kx ?_
  simp only [qy]
  refine rg_move ?_
  simp only [qz]
  refine rfb_lss rfl rfl rfl rfl ?_
  intro x h1
  obtain rfl : x = false := by (refine h1.symm.trans ?_; exact decide_eq_false Ox)
  clear h1
  simp only [qz]
  refine rg_nil (ek_next (wk_cond_f rfl (wk_skip (ek_next (wk_seq ?_)))))
  refine wk_region [1] rfl Kx ?_
  simp only [qy]
  refine Rgn fun g3 => ?_
  simp only [qz]
  refine rg_nil (ek_next (wk_seq ?_))
  refine wk_region [0] rfl Kx ?_
  simp only [qy]
  refine rg_assign ?_
  simp only [qz]
  refine rg_nil (ek_next (wk_seq (wk_seq ?_)))
  refine wk_region [0, 0] rfl Kx ?_
  simp only [qy]
  refine rf_loadR (n := 6) rfl rfl rfl Try.underlying108 rfl Kx (fun w hw => Kn.hd0 (Kn.tl (Kn.tl hw))) rfl rfl ?_
  simp only [qz]
  refine rg_move ?_
  simp only [qz]
  refine rg_nil (ek_next (wk_block ?_))
  refine wk_unroll 6 ?_
  refine wk_seq ?_
  refine wk_region [0] rfl Kx ?_
  simp only [qy]
  refine rf_lss (b := true) rfl rfl rfl rfl (by decide) ?_
  simp only [qz]
  refine rg_nil (ek_next (wk_seq (wk_cond_t rfl (wk_skip (ek_next (wk_seq (wk_block (wk_seq ?_))))))))
  refine wk_region [0, 0, 0, 0] rfl Kx ?_
  simp only [qy]
  refine rg_move ?_
  simp only [qz]
  apply rg_soft
  case hy => (intro w hw; go_simp; (try go_bits); exact Yld.mk _ _)
  simp only [qz]
  refine rg_assign ?_
  simp only [qz]
  refine rg_assign ?_
  simp only [qz]
  refine rg_nil (ek_next (wk_seq ?_))
  refine wk_region [0, 0, 0, 1, 0, 0, 0, 0, 0] rfl Kx ?_
  simp only [qy]
  refine rg_move ?_
  simp only [qz]
  refine rg_move ?_
  simp only [qz]
  refine rf_conv rfl rfl rfl Try.underlying3 Try.underlying99 (wrap_okU Ox Ox) ?_
  simp only [qz]
  apply rg_pure Rx Kx
  case hargs => exact Ax
  case h => exact fun w hw => same_pure (cm0.out w)
  case hz => exact Nz
  simp only [qz]
  refine rg_move ?_
  simp only [qz]
  refine rf_extract rfl rfl rfl rfl ?_
  simp only [qz]
  refine rf_extract rfl rfl rfl rfl ?_
  simp only [qz]
  refine rg_assign ?_
  simp only [qz]
  refine rg_assign ?_
  simp only [qz]
  refine rg_nil (ek_next (wk_seq ?_))
  refine wk_region [0] rfl Kx ?_
  simp only [qy]
  refine rg_assign ?_
  simp only [qz]
  refine rg_nil (ek_next (wk_seq ?_))
  refine wk_region [0, 0, 0, 1, 0, 0, 0, 0, 1, 0] rfl Kx ?_
  simp only [qy]
  refine rg_move ?_
  simp only [qz]
  refine rg_move ?_
  simp only [qz]
  refine rg_move ?_
  simp only [qz]
  apply rg_ext Rx
  case hargs => exact Ax
  case h => exact fun w => run_Add64 l0 0 0 s0 c0 Ox Ox Ox Ox hs0 hc0 w
  case hz => exact Nz
  simp only [qz]
  refine rg_move ?_
  simp only [qz]
  refine rf_extract rfl rfl rfl rfl ?_
  simp only [qz]
  refine rf_extract rfl rfl rfl rfl ?_
  simp only [qz]
  refine rf_indexA (n := 0) (sz := 1) (j := 0) rfl rfl rfl rfl Try.underlying108 Kx (by decide) rfl ?_
  simp only [qz]
  refine rf_store rfl rfl Kx rfl rfl (UpdR.here _ _ _ Nl) Nz ?_
  simp only [qz]
  refine rg_assign ?_
  simp only [qz]
  refine rg_nil (ek_next ?_)
  refine wk_region [0, 0, 0, 0] rfl Kx ?_
  simp only [qy]
  refine rg_move ?_
  simp only [qz]
  refine rg_move ?_
  simp only [qz]
  refine rf_add rfl rfl rfl rfl (wrap_okU Ox Ox) ?_
  simp only [qz]
  rw [hk0]
  refine rg_assign ?_
  simp only [qz]
  refine rg_nil (ek_block (ek_next ?_))
  refine wk_region [0, 0] rfl Kx ?_
  simp only [qy]
  refine rf_add (r := 1) rfl rfl rfl rfl (by decide) ?_
  simp only [qz]
  refine rg_move ?_
  simp only [qz]
  refine rg_nil (ek_again (wk_seq ?_))
  refine wk_region [0] rfl Kx ?_
  simp only [qy]
  refine rf_lss (b := true) rfl rfl rfl rfl (by decide) ?_
  simp only [qz]
  refine rg_nil (ek_next (wk_seq (wk_cond_t rfl (wk_skip (ek_next (wk_seq (wk_block (wk_seq ?_))))))))
  refine wk_region [0, 0, 0, 0] rfl Kx ?_
  simp only [qy]
  refine rg_move ?_
  simp only [qz]
  apply rg_soft
  case hy => (intro w hw; go_simp; (try go_bits); exact Yld.mk _ _)
  simp only [qz]
  refine rg_assign ?_
  simp only [qz]
  refine rg_assign ?_
  simp only [qz]
  refine rg_nil (ek_next (wk_seq ?_))
  refine wk_region [0, 0, 0, 1, 0, 0, 0, 0, 0] rfl Kx ?_
  simp only [qy]
  refine rg_move ?_
  simp only [qz]
  refine rg_move ?_
  simp only [qz]
  refine rf_conv rfl rfl rfl Try.underlying3 Try.underlying99 (wrap_okU Ox Ox) ?_
  simp only [qz]
  apply rg_pure Rx Kx
  case hargs => exact Ax
  case h => exact fun w hw => same_pure (cm1.out w)
  case hz => exact Nz
  simp only [qz]
  refine rg_move ?_
  simp only [qz]
  refine rf_extract rfl rfl rfl rfl ?_
  simp only [qz]
  refine rf_extract rfl rfl rfl rfl ?_
  simp only [qz]
  refine rg_assign ?_
  simp only [qz]
  refine rg_assign ?_
  simp only [qz]
  refine rg_nil (ek_next (wk_seq ?_))
  refine wk_region [0] rfl Kx ?_
  simp only [qy]
  refine rg_assign ?_
  simp only [qz]
  refine rg_nil (ek_next (wk_seq ?_))
  refine wk_region [0, 0, 0, 1, 0, 0, 0, 0, 1, 0] rfl Kx ?_
  simp only [qy]
  refine rg_move ?_
  simp only [qz]
  refine rg_move ?_
  simp only [qz]
  refine rg_move ?_
  simp only [qz]
  apply rg_ext Rx
  case hargs => exact Ax
  case h => exact fun w => run_Add64 l1 k0 0 s1 c1 Ox Ox Ox Ox hs1 hc1 w
  case hz => exact Nz
  simp only [qz]
  refine rg_move ?_
  simp only [qz]
  refine rf_extract rfl rfl rfl rfl ?_
  simp only [qz]
  refine rf_extract rfl rfl rfl rfl ?_
  simp only [qz]
  refine rf_indexA (n := 1) (sz := 1) (j := 1) rfl rfl rfl rfl Try.underlying108 Kx (by decide) rfl ?_
  simp only [qz]
  refine rf_store rfl rfl Kx rfl rfl (UpdR.here _ _ _ Nl) Nz ?_
  simp only [qz]
  refine rg_assign ?_
  simp only [qz]
  refine rg_nil (ek_next ?_)
  refine wk_region [0, 0, 0, 0] rfl Kx ?_
  simp only [qy]
  refine rg_move ?_
  simp only [qz]
  refine rg_move ?_
  simp only [qz]
  refine rf_add rfl rfl rfl rfl (wrap_okU Ox Ox) ?_
  simp only [qz]
  rw [hk1]
  refine rg_assign ?_
  simp only [qz]
  refine rg_nil (ek_block (ek_next ?_))
  refine wk_region [0, 0] rfl Kx ?_
  simp only [qy]
  refine rf_add (r := 2) rfl rfl rfl rfl (by decide) ?_
  simp only [qz]
  refine rg_move ?_
  simp only [qz]
  refine rg_nil (ek_again (wk_seq ?_))
  refine wk_region [0] rfl Kx ?_
  simp only [qy]
  refine rf_lss (b := true) rfl rfl rfl rfl (by decide) ?_
  simp only [qz]
  refine rg_nil (ek_next (wk_seq (wk_cond_t rfl (wk_skip (ek_next (wk_seq (wk_block (wk_seq ?_))))))))
  refine wk_region [0, 0, 0, 0] rfl Kx ?_
  simp only [qy]
  refine rg_move ?_
  simp only [qz]
  apply rg_soft
  case hy => (intro w hw; go_simp; (try go_bits); exact Yld.mk _ _)
  simp only [qz]
  refine rg_assign ?_
  simp only [qz]
  refine rg_assign ?_
  simp only [qz]
  refine rg_nil (ek_next (wk_seq ?_))
  refine wk_region [0, 0, 0, 1, 0, 0, 0, 0, 0] rfl Kx ?_
  simp only [qy]
  refine rg_move ?_
  simp only [qz]
  refine rg_move ?_
  simp only [qz]
  refine rf_conv rfl rfl rfl Try.underlying3 Try.underlying99 (wrap_okU Ox Ox) ?_
  simp only [qz]
  apply rg_pure Rx Kx
  case hargs => exact Ax
  case h => exact fun w hw => same_pure (cm2.out w)
  case hz => exact Nz
  simp only [qz]
  refine rg_move ?_
  simp only [qz]
  refine rf_extract rfl rfl rfl rfl ?_
  simp only [qz]
  refine rf_extract rfl rfl rfl rfl ?_
  simp only [qz]
  refine rg_assign ?_
  simp only [qz]
  refine rg_assign ?_
  simp only [qz]
  refine rg_nil (ek_next (wk_seq ?_))
  refine wk_region [0] rfl Kx ?_
  simp only [qy]
  refine rg_assign ?_
  simp only [qz]
  refine rg_nil (ek_next (wk_seq ?_))
  refine wk_region [0, 0, 0, 1, 0, 0, 0, 0, 1, 0] rfl Kx ?_
  simp only [qy]
  refine rg_move ?_
  simp only [qz]
  refine rg_move ?_
  simp only [qz]
  refine rg_move ?_
  simp only [qz]
  apply rg_ext Rx
  case hargs => exact Ax
  case h => exact fun w => run_Add64 l2 k1 0 s2 c2 Ox Ox Ox Ox hs2 hc2 w
  case hz => exact Nz
  simp only [qz]
  refine rg_move ?_
  simp only [qz]
  refine rf_extract rfl rfl rfl rfl ?_
  simp only [qz]
  refine rf_extract rfl rfl rfl rfl ?_
  simp only [qz]
  refine rf_indexA (n := 2) (sz := 1) (j := 2) rfl rfl rfl rfl Try.underlying108 Kx (by decide) rfl ?_
  simp only [qz]
  refine rf_store rfl rfl Kx rfl rfl (UpdR.here _ _ _ Nl) Nz ?_
  simp only [qz]
  refine rg_assign ?_
  simp only [qz]
  refine rg_nil (ek_next ?_)
  refine wk_region [0, 0, 0, 0] rfl Kx ?_
  simp only [qy]
  refine rg_move ?_
  simp only [qz]
  refine rg_move ?_
  simp only [qz]
  refine rf_add rfl rfl rfl rfl (wrap_okU Ox Ox) ?_
  simp only [qz]
  rw [hk2]
  refine rg_assign ?_
  simp only [qz]
  refine rg_nil (ek_block (ek_next ?_))
  refine wk_region [0, 0] rfl Kx ?_
  simp only [qy]
  refine rf_add (r := 3) rfl rfl rfl rfl (by decide) ?_
  simp only [qz]
  refine rg_move ?_
  simp only [qz]
  refine rg_nil (ek_again (wk_seq ?_))
  refine wk_region [0] rfl Kx ?_
  simp only [qy]
  refine rf_lss (b := true) rfl rfl rfl rfl (by decide) ?_
  simp only [qz]
  refine rg_nil (ek_next (wk_seq (wk_cond_t rfl (wk_skip (ek_next (wk_seq (wk_block (wk_seq ?_))))))))
  refine wk_region [0, 0, 0, 0] rfl Kx ?_
  simp only [qy]
  refine rg_move ?_
  simp only [qz]
  apply rg_soft
  case hy => (intro w hw; go_simp; (try go_bits); exact Yld.mk _ _)
  simp only [qz]
  refine rg_assign ?_
  simp only [qz]
  refine rg_assign ?_
  simp only [qz]
  refine rg_nil (ek_next (wk_seq ?_))
  refine wk_region [0, 0, 0, 1, 0, 0, 0, 0, 0] rfl Kx ?_
  simp only [qy]
  refine rg_move ?_
  simp only [qz]
  refine rg_move ?_
  simp only [qz]
  refine rf_conv rfl rfl rfl Try.underlying3 Try.underlying99 (wrap_okU Ox Ox) ?_
  simp only [qz]
  apply rg_pure Rx Kx
  case hargs => exact Ax
  case h => exact fun w hw => same_pure (cm3.out w)
  case hz => exact Nz
  simp only [qz]
  refine rg_move ?_
  simp only [qz]
  refine rf_extract rfl rfl rfl rfl ?_
  simp only [qz]
  refine rf_extract rfl rfl rfl rfl ?_
  simp only [qz]
  refine rg_assign ?_
  simp only [qz]
  refine rg_assign ?_
  simp only [qz]
  refine rg_nil (ek_next (wk_seq ?_))
  refine wk_region [0] rfl Kx ?_
  simp only [qy]
  refine rg_assign ?_
  simp only [qz]
  refine rg_nil (ek_next (wk_seq ?_))
  refine wk_region [0, 0, 0, 1, 0, 0, 0, 0, 1, 0] rfl Kx ?_
  simp only [qy]
  refine rg_move ?_
  simp only [qz]
  refine rg_move ?_
  simp only [qz]
  refine rg_move ?_
  simp only [qz]
  apply rg_ext Rx
  case hargs => exact Ax
  case h => exact fun w => run_Add64 l3 k2 0 s3 c3 Ox Ox Ox Ox hs3 hc3 w
  case hz => exact Nz
  simp only [qz]
  refine rg_move ?_
  simp only [qz]
  refine rf_extract rfl rfl rfl rfl ?_
  simp only [qz]
  refine rf_extract rfl rfl rfl rfl ?_
  simp only [qz]
  refine rf_indexA (n := 3) (sz := 1) (j := 3) rfl rfl rfl rfl Try.underlying108 Kx (by decide) rfl ?_
  simp only [qz]
  refine rf_store rfl rfl Kx rfl rfl (UpdR.here _ _ _ Nl) Nz ?_
  simp only [qz]
  refine rg_assign ?_
  simp only [qz]
  refine rg_nil (ek_next ?_)
  refine wk_region [0, 0, 0, 0] rfl Kx ?_
  simp only [qy]
  refine rg_move ?_
  simp only [qz]
  refine rg_move ?_
  simp only [qz]
  refine rf_add rfl rfl rfl rfl (wrap_okU Ox Ox) ?_
  simp only [qz]
  rw [hk3]
  refine rg_assign ?_
  simp only [qz]
  refine rg_nil (ek_block (ek_next ?_))
  refine wk_region [0, 0] rfl Kx ?_
  simp only [qy]
  refine rf_add (r := 4) rfl rfl rfl rfl (by decide) ?_
  simp only [qz]
  refine rg_move ?_
  simp only [qz]
  refine rg_nil (ek_again (wk_seq ?_))
  refine wk_region [0] rfl Kx ?_
  simp only [qy]
  refine rf_lss (b := true) rfl rfl rfl rfl (by decide) ?_
  simp only [qz]
  refine rg_nil (ek_next (wk_seq (wk_cond_t rfl (wk_skip (ek_next (wk_seq (wk_block (wk_seq ?_))))))))
  refine wk_region [0, 0, 0, 0] rfl Kx ?_
  simp only [qy]
  refine rg_move ?_
  simp only [qz]
  apply rg_soft
  case hy => (intro w hw; go_simp; (try go_bits); exact Yld.mk _ _)
  simp only [qz]
  refine rg_assign ?_
  simp only [qz]
  refine rg_assign ?_
  simp only [qz]
  refine rg_nil (ek_next (wk_seq ?_))
  refine wk_region [0, 0, 0, 1, 0, 0, 0, 0, 0] rfl Kx ?_
  simp only [qy]
  refine rg_move ?_
  simp only [qz]
  refine rg_move ?_
  simp only [qz]
  refine rf_conv rfl rfl rfl Try.underlying3 Try.underlying99 (wrap_okU Ox Ox) ?_
  simp only [qz]
  apply rg_pure Rx Kx
  case hargs => exact Ax
  case h => exact fun w hw => same_pure (cm4.out w)
  case hz => exact Nz
  simp only [qz]
  refine rg_move ?_
  simp only [qz]
  refine rf_extract rfl rfl rfl rfl ?_
  simp only [qz]
  refine rf_extract rfl rfl rfl rfl ?_
  simp only [qz]
  refine rg_assign ?_
  simp only [qz]
  refine rg_assign ?_
  simp only [qz]
  refine rg_nil (ek_next (wk_seq ?_))
  refine wk_region [0] rfl Kx ?_
  simp only [qy]
  refine rg_assign ?_
  simp only [qz]
  refine rg_nil (ek_next (wk_seq ?_))
  refine wk_region [0, 0, 0, 1, 0, 0, 0, 0, 1, 0] rfl Kx ?_
  simp only [qy]
  refine rg_move ?_
  simp only [qz]
  refine rg_move ?_
  simp only [qz]
  refine rg_move ?_
  simp only [qz]
  apply rg_ext Rx
  case hargs => exact Ax
  case h => exact fun w => run_Add64 l4 k3 0 s4 c4 Ox Ox Ox Ox hs4 hc4 w
  case hz => exact Nz
  simp only [qz]
  refine rg_move ?_
  simp only [qz]
  refine rf_extract rfl rfl rfl rfl ?_
  simp only [qz]
  refine rf_extract rfl rfl rfl rfl ?_
  simp only [qz]
  refine rf_indexA (n := 4) (sz := 1) (j := 4) rfl rfl rfl rfl Try.underlying108 Kx (by decide) rfl ?_
  simp only [qz]
  refine rf_store rfl rfl Kx rfl rfl (UpdR.here _ _ _ Nl) Nz ?_
  simp only [qz]
  refine rg_assign ?_
  simp only [qz]
  refine rg_nil (ek_next ?_)
  refine wk_region [0, 0, 0, 0] rfl Kx ?_
  simp only [qy]
  refine rg_move ?_
  simp only [qz]
  refine rg_move ?_
  simp only [qz]
  refine rf_add rfl rfl rfl rfl (wrap_okU Ox Ox) ?_
  simp only [qz]
  rw [hk4]
  refine rg_assign ?_
  simp only [qz]
  refine rg_nil (ek_block (ek_next ?_))
  refine wk_region [0, 0] rfl Kx ?_
  simp only [qy]
  refine rf_add (r := 5) rfl rfl rfl rfl (by decide) ?_
  simp only [qz]
  refine rg_move ?_
  simp only [qz]
  refine rg_nil (ek_again (wk_seq ?_))
  refine wk_region [0] rfl Kx ?_
  simp only [qy]
  refine rf_lss (b := true) rfl rfl rfl rfl (by decide) ?_
  simp only [qz]
  refine rg_nil (ek_next (wk_seq (wk_cond_t rfl (wk_skip (ek_next (wk_seq (wk_block (wk_seq ?_))))))))
  refine wk_region [0, 0, 0, 0] rfl Kx ?_
  simp only [qy]
  refine rg_move ?_
  simp only [qz]
  apply rg_soft
  case hy => (intro w hw; go_simp; (try go_bits); exact Yld.mk _ _)
  simp only [qz]
  refine rg_assign ?_
  simp only [qz]
  refine rg_assign ?_
  simp only [qz]
  refine rg_nil (ek_next (wk_seq ?_))
  refine wk_region [0, 0, 0, 1, 0, 0, 0, 0, 0] rfl Kx ?_
  simp only [qy]
  refine rg_move ?_
  simp only [qz]
  refine rg_move ?_
  simp only [qz]
  refine rf_conv rfl rfl rfl Try.underlying3 Try.underlying99 (wrap_okU Ox Ox) ?_
  simp only [qz]
  apply rg_pure Rx Kx
  case hargs => exact Ax
  case h => exact fun w hw => same_pure (cm5.out w)
  case hz => exact Nz
  simp only [qz]
  refine rg_move ?_
  simp only [qz]
  refine rf_extract rfl rfl rfl rfl ?_
  simp only [qz]
  refine rf_extract rfl rfl rfl rfl ?_
  simp only [qz]
  refine rg_assign ?_
  simp only [qz]
  refine rg_assign ?_
  simp only [qz]
  refine rg_nil (ek_next (wk_seq ?_))
  refine wk_region [0] rfl Kx ?_
  simp only [qy]
  refine rg_assign ?_
  simp only [qz]
  refine rg_nil (ek_next (wk_seq ?_))
  refine wk_region [0, 0, 0, 1, 0, 0, 0, 0, 1, 0] rfl Kx ?_
  simp only [qy]
  refine rg_move ?_
  simp only [qz]
  refine rg_move ?_
  simp only [qz]
  refine rg_move ?_
  simp only [qz]
  apply rg_ext Rx
  case hargs => exact Ax
  case h => exact fun w => run_Add64 l5 k4 0 s5 c5 Ox Ox Ox Ox hs5 hc5 w
  case hz => exact Nz
  simp only [qz]
  refine rg_move ?_
  simp only [qz]
  refine rf_extract rfl rfl rfl rfl ?_
  simp only [qz]
  refine rf_extract rfl rfl rfl rfl ?_
  simp only [qz]
  refine rf_indexA (n := 5) (sz := 1) (j := 5) rfl rfl rfl rfl Try.underlying108 Kx (by decide) rfl ?_
  simp only [qz]
  refine rf_store rfl rfl Kx rfl rfl (UpdR.here _ _ _ Nl) Nz ?_
  simp only [qz]
  refine rg_assign ?_
  simp only [qz]
  refine rg_nil (ek_next ?_)
  refine wk_region [0, 0, 0, 0] rfl Kx ?_
  simp only [qy]
  refine rg_move ?_
  simp only [qz]
  refine rg_move ?_
  simp only [qz]
  refine rf_add rfl rfl rfl rfl (wrap_okU Ox Ox) ?_
  simp only [qz]
  rw [hk5]
  refine rg_assign ?_
  simp only [qz]
  refine rg_nil (ek_block (ek_next ?_))
  refine wk_region [0, 0] rfl Kx ?_
  simp only [qy]
  refine rf_add (r := 6) rfl rfl rfl rfl (by decide) ?_
  simp only [qz]
  refine rg_move ?_
  simp only [qz]
  refine rg_nil (ek_again (wk_seq ?_))
  refine wk_region [0] rfl Kx ?_
  simp only [qy]
  refine rf_lss (b := false) rfl rfl rfl rfl (by decide) ?_
  simp only [qz]
  refine rg_nil (ek_next (wk_seq (wk_cond_f rfl (wk_exit (ek_then_exit (ek_then_exit (ek_block_exit (ek_next (wk_seq ?_)))))))))
  refine wk_region [0, 1] rfl Kx ?_
  simp only [qy]
  refine rf_loadR (n := 6) rfl rfl rfl Try.underlying108 rfl Kx (fun w hw => Kn.hd0 hw) rfl rfl ?_
  simp only [qz]
  refine rf_storeR (n := 6) rfl rfl Kx rfl rfl (UpdR.there _ (UpdR.here _ _ _ Nl)) Nz ?_
  simp only [qz, Nat.reduceAdd]
  refine rg_nil (ek_next (wk_ret ?_))
  refine ek_ret (fun w hw => ⟨rfl, _, run_results1 rfl rfl (Kn.hd0 (Kn.tl hw)) Try.underlying108 rfl Kx, ?_⟩)
  (try simp only [qz])
  exact ⟨by rw [← heq.out] <;> rfl, hw.below⟩

set_option maxRecDepth 100000 in
set_option maxHeartbeats 1000000 in
theorem w6times_neg (m n : Int) (h0 : n < 0) (h1 : -9223372036854775807 ≤ n) (w : World) : Calls Try.prog 146 #[w6V (W6.of m), .int .i64 n] w fun e w' => e = .returned (w6V (W6.of (m * n))) ∧ Below w.heap.size w w' := by
  go_enter Try.func146, Try.ntmps146
  refine wk_start ?_
  refine wk_seq ?_
  refine wk_region [1, 1] rfl Kx ?_
  simp only [qy]
  refine Rgn fun g1 => ?_
  simp only [qz]
  refine Rgn fun g2 => ?_
  simp only [qz]
  refine rg_nil (ek_next (wk_seq (wk_seq ?_)))
  refine wk_region [0, 0] rfl Kx ?_
  simp only [qy]
  refine rg_move ?_
  simp only [qz]
  refine rfb_lss rfl rfl rfl rfl ?_
  intro x h1
  obtain rfl : x = true := by (refine h1.symm.trans ?_; exact decide_eq_true Ox)
  clear h1
  simp only [qz]
  refine rg_nil (ek_next (wk_cond_t rfl (wk_seq ?_)))
  refine wk_region [0, 1, 0, 0, 1, 1] rfl Kx ?_
  simp only [qy]
  refine rf_loadR (n := 6) rfl rfl rfl Try.underlying108 rfl Kx (fun w hw => Kn.hd0 (Kn.tl hw)) rfl rfl ?_
  simp only [qz]
  apply rg_pure Rx Kx
  case hargs => exact Ax
  case h => exact fun w hw => w6neg_any m w
  case hz => exact Nz
  simp only [qz]
  refine rg_move ?_
  simp only [qz]
  refine rf_neg rfl rfl rfl (wrap_ok Ox Ox) ?_
  simp only [qz]
  apply rg_pure Rx Kx
  case hargs => exact Ax
  case h => exact fun w hw => w6times_pos (-m) (-n) Ox Ox w
  case hz => exact Nz
  simp only [qz]
  refine rf_storeR (n := 6) rfl rfl Kx rfl rfl (UpdR.here _ _ _ Nl) Nz ?_
  simp only [qz, Nat.reduceAdd]
  refine rg_nil (ek_next (wk_ret (ek_then_ret ?_)))
  refine ek_ret (fun w hw => ⟨rfl, _, run_results1 rfl rfl (Kn.hd0 hw) Try.underlying108 rfl Kx, ?_⟩)
  (try simp only [qz])
  exact ⟨by rw [show -m * -n = m * n by grind], hw.below⟩

theorem w6times_any (m n : Int) (h0 : -9223372036854775807 ≤ n) (h1 : n ≤ 9223372036854775807) (w : World) : Calls Try.prog 146 #[w6V (W6.of m), .int .i64 n] w fun e w' => e = .returned (w6V (W6.of (m * n))) ∧ Below w.heap.size w w' := by
  rcases Int.lt_or_le n 0 with h | h
  · exact w6times_neg m n h h0 w
  exact w6times_pos m n h h1 w
set_option maxRecDepth 100000 in
set_option maxHeartbeats 1000000 in
theorem w6whole_any (n : Int) (h0 : -9223372036854775808 ≤ n) (h1 : n < 9223372036854775808) (w : World) : Calls Try.prog 94 #[.int .i64 n] w fun e w' => e = .returned (w6V (W6.of n)) ∧ Below w.heap.size w w' := by
  go_enter Try.func94, Try.ntmps94
  refine wk_start ?_
  refine wk_seq ?_
  refine wk_region [1] rfl Kx ?_
  simp only [qy]
  refine Rgn fun g1 => ?_
  simp only [qz]
  refine rg_nil (ek_next (wk_seq ?_))
  refine wk_region [0, 0, 0, 1, 1] rfl Kx ?_
  simp only [qy]
  refine rg_move ?_
  simp only [qz]
  refine rf_conv rfl rfl rfl Try.underlying3 Try.underlying99 (IntKind.wrap_u64 _) ?_
  simp only [qz]
  refine rf_build (cs := fun a => #[a.eval (.tmp 6), .int .u64 0, .int .u64 0, .int .u64 0, .int .u64 0, .int .u64 0]) rfl rfl Kx ?_
  simp only [qz]
  refine Rgn fun g2 => ?_
  simp only [qz]
  refine rf_storeR (n := 6) rfl rfl Kx rfl rfl (UpdR.here _ _ _ Nl) Nz ?_
  simp only [qz, Nat.reduceAdd]
  refine rg_nil (ek_next (wk_seq (wk_seq ?_)))
  refine wk_region [0, 0] rfl Kx ?_
  simp only [qy]
  refine rg_move ?_
  simp only [qz]
  refine rfb_lss rfl rfl rfl rfl ?_
  intro x h1
  cases x
  · (try simp only [qd, ne_eq] at h1)
    simp only [qz]
    refine rg_nil (ek_next (wk_cond_f rfl (wk_skip (ek_next (wk_seq ?_)))))
    refine wk_region [0, 1] rfl Kx ?_
    simp only [qy]
    refine rf_loadR (n := 6) rfl rfl rfl Try.underlying108 rfl Kx (fun w hw => Kn.hd0 hw) rfl rfl ?_
    simp only [qz]
    refine rf_storeR (n := 6) rfl rfl Kx rfl rfl (UpdR.there _ (UpdR.here _ _ _ Nl)) Nz ?_
    simp only [qz, Nat.reduceAdd]
    refine rg_nil (ek_next (wk_ret ?_))
    refine ek_ret (fun w hw => ⟨rfl, _, run_results1 rfl rfl (Kn.hd0 (Kn.tl hw)) Try.underlying108 rfl Kx, ?_⟩)
    (try simp only [qz])
    exact ⟨by rw [W6.of_whole Ox Ox]; simp [*]; try omega, hw.below⟩
  (try simp only [qd, ne_eq] at h1)
  simp only [qz]
  refine rg_nil (ek_next (wk_cond_t rfl (wk_seq ?_)))
  refine wk_region [0] rfl Kx ?_
  simp only [qy]
  refine rg_assign ?_
  simp only [qz]
  refine rg_nil (ek_next (wk_block ?_))
  refine wk_unroll 6 ?_
  refine wk_seq (wk_seq ?_)
  refine wk_region [0, 0] rfl Kx ?_
  simp only [qy]
  refine rg_move ?_
  simp only [qz]
  refine rf_lss (b := true) rfl rfl rfl rfl (by decide) ?_
  simp only [qz]
  refine rg_nil (ek_next (wk_cond_t rfl (wk_skip (ek_next (wk_seq (wk_block ?_))))))
  refine wk_region [0, 0, 1] rfl Kx ?_
  simp only [qy]
  refine rg_move ?_
  simp only [qz]
  refine rf_indexA (n := 1) (sz := 1) (j := 1) rfl rfl rfl rfl Try.underlying108 Kx (by decide) rfl ?_
  simp only [qz]
  refine rf_store rfl rfl Kx rfl rfl (UpdR.here _ _ _ Nl) Nz ?_
  simp only [qz]
  refine rg_nil (ek_block (ek_next ?_))
  refine wk_region [0, 0, 0] rfl Kx ?_
  simp only [qy]
  refine rg_move ?_
  simp only [qz]
  refine rf_add (r := 2) rfl rfl rfl rfl (by decide) ?_
  simp only [qz]
  refine rg_assign ?_
  simp only [qz]
  refine rg_nil (ek_again (wk_seq (wk_seq ?_)))
  refine wk_region [0, 0] rfl Kx ?_
  simp only [qy]
  refine rg_move ?_
  simp only [qz]
  refine rf_lss (b := true) rfl rfl rfl rfl (by decide) ?_
  simp only [qz]
  refine rg_nil (ek_next (wk_cond_t rfl (wk_skip (ek_next (wk_seq (wk_block ?_))))))
  refine wk_region [0, 0, 1] rfl Kx ?_
  simp only [qy]
  refine rg_move ?_
  simp only [qz]
  refine rf_indexA (n := 2) (sz := 1) (j := 2) rfl rfl rfl rfl Try.underlying108 Kx (by decide) rfl ?_
  simp only [qz]
  refine rf_store rfl rfl Kx rfl rfl (UpdR.here _ _ _ Nl) Nz ?_
  simp only [qz]
  refine rg_nil (ek_block (ek_next ?_))
  refine wk_region [0, 0, 0] rfl Kx ?_
  simp only [qy]
  refine rg_move ?_
  simp only [qz]
  refine rf_add (r := 3) rfl rfl rfl rfl (by decide) ?_
  simp only [qz]
  refine rg_assign ?_
  simp only [qz]
  refine rg_nil (ek_again (wk_seq (wk_seq ?_)))
  refine wk_region [0, 0] rfl Kx ?_
  simp only [qy]
  refine rg_move ?_
  simp only [qz]
  refine rf_lss (b := true) rfl rfl rfl rfl (by decide) ?_
  simp only [qz]
  refine rg_nil (ek_next (wk_cond_t rfl (wk_skip (ek_next (wk_seq (wk_block ?_))))))
  refine wk_region [0, 0, 1] rfl Kx ?_
  simp only [qy]
  refine rg_move ?_
  simp only [qz]
  refine rf_indexA (n := 3) (sz := 1) (j := 3) rfl rfl rfl rfl Try.underlying108 Kx (by decide) rfl ?_
  simp only [qz]
  refine rf_store rfl rfl Kx rfl rfl (UpdR.here _ _ _ Nl) Nz ?_
  simp only [qz]
  refine rg_nil (ek_block (ek_next ?_))
  refine wk_region [0, 0, 0] rfl Kx ?_
  simp only [qy]
  refine rg_move ?_
  simp only [qz]
  refine rf_add (r := 4) rfl rfl rfl rfl (by decide) ?_
  simp only [qz]
  refine rg_assign ?_
  simp only [qz]
  refine rg_nil (ek_again (wk_seq (wk_seq ?_)))
  refine wk_region [0, 0] rfl Kx ?_
  simp only [qy]
  refine rg_move ?_
  simp only [qz]
  refine rf_lss (b := true) rfl rfl rfl rfl (by decide) ?_
  simp only [qz]
  refine rg_nil (ek_next (wk_cond_t rfl (wk_skip (ek_next (wk_seq (wk_block ?_))))))
  refine wk_region [0, 0, 1] rfl Kx ?_
  simp only [qy]
  refine rg_move ?_
  simp only [qz]
  refine rf_indexA (n := 4) (sz := 1) (j := 4) rfl rfl rfl rfl Try.underlying108 Kx (by decide) rfl ?_
  simp only [qz]
  refine rf_store rfl rfl Kx rfl rfl (UpdR.here _ _ _ Nl) Nz ?_
  simp only [qz]
  refine rg_nil (ek_block (ek_next ?_))
  refine wk_region [0, 0, 0] rfl Kx ?_
  simp only [qy]
  refine rg_move ?_
  simp only [qz]
  refine rf_add (r := 5) rfl rfl rfl rfl (by decide) ?_
  simp only [qz]
  refine rg_assign ?_
  simp only [qz]
  refine rg_nil (ek_again (wk_seq (wk_seq ?_)))
  refine wk_region [0, 0] rfl Kx ?_
  simp only [qy]
  refine rg_move ?_
  simp only [qz]
  refine rf_lss (b := true) rfl rfl rfl rfl (by decide) ?_
  simp only [qz]
  refine rg_nil (ek_next (wk_cond_t rfl (wk_skip (ek_next (wk_seq (wk_block ?_))))))
  refine wk_region [0, 0, 1] rfl Kx ?_
  simp only [qy]
  refine rg_move ?_
  simp only [qz]
  refine rf_indexA (n := 5) (sz := 1) (j := 5) rfl rfl rfl rfl Try.underlying108 Kx (by decide) rfl ?_
  simp only [qz]
  refine rf_store rfl rfl Kx rfl rfl (UpdR.here _ _ _ Nl) Nz ?_
  simp only [qz]
  refine rg_nil (ek_block (ek_next ?_))
  refine wk_region [0, 0, 0] rfl Kx ?_
  simp only [qy]
  refine rg_move ?_
  simp only [qz]
  refine rf_add (r := 6) rfl rfl rfl rfl (by decide) ?_
  simp only [qz]
  refine rg_assign ?_
  simp only [qz]
  refine rg_nil (ek_again (wk_seq (wk_seq ?_)))
  refine wk_region [0, 0] rfl Kx ?_
  simp only [qy]
  refine rg_move ?_
  simp only [qz]
  refine rf_lss (b := false) rfl rfl rfl rfl (by decide) ?_
  simp only [qz]
  refine rg_nil (ek_next (wk_cond_f rfl (wk_exit (ek_then_exit (ek_then_exit (ek_block_exit (ek_next (wk_seq ?_))))))))
  refine wk_region [0, 1] rfl Kx ?_
  simp only [qy]
  refine rf_loadR (n := 6) rfl rfl rfl Try.underlying108 rfl Kx (fun w hw => Kn.hd0 hw) rfl rfl ?_
  simp only [qz]
  refine rf_storeR (n := 6) rfl rfl Kx rfl rfl (UpdR.there _ (UpdR.here _ _ _ Nl)) Nz ?_
  simp only [qz, Nat.reduceAdd]
  refine rg_nil (ek_next (wk_ret ?_))
  refine ek_ret (fun w hw => ⟨rfl, _, run_results1 rfl rfl (Kn.hd0 (Kn.tl hw)) Try.underlying108 rfl Kx, ?_⟩)
  (try simp only [qz])
  exact ⟨by rw [W6.of_whole Ox Ox]; simp [*]; try omega, hw.below⟩

end Go.Proofs.Ytccbinnlnkpplaa
