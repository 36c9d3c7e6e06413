/- A region that draws its order: what is known of the world may change where an operation comes up that all others wait for, or that waits for them. -/
import Derived.Test.YtccbinnlnkpplaaHd
namespace Go.Proofs.Ytccbinnlnkpplaa
set_option linter.all false
open Go.RowKit

section
variable {P : Program} {ops : Array Oper} {Q : Exit → Act → World → Prop} {md : Region.Mode}

/-- As wpAnyH; what is known hangs on which operations have come up. -/
def wpAnyF (P : Program) (md : Region.Mode) (ops : Array Oper) (Q : Exit → Act → World → Prop) (S : Array Bool → World → Prop) : Nat → Array Bool → Act → World → Prop
  | 0, listed, a, w => Region.ready md ops listed = [] ∧ Q .normal a w
  | fuel + 1, listed, a, w =>
    (Region.ready md ops listed = [] → Q .normal a w) ∧
    ∀ i ∈ Region.ready md ops listed, wpOp P ops Q i (fun a' w' => S (listed.setIfInBounds i true) w' ∧ wpAnyF P md ops Q S fuel (listed.setIfInBounds i true) a' w') a w

theorem wpAny_of_F {S : Array Bool → World → Prop} : ∀ (fuel : Nat) (listed : Array Bool) (a : Act) (w : World), wpAnyF P md ops Q S fuel listed a w → wpAny P md ops Q fuel listed a w
  | 0, _, _, _, h => h
  | fuel + 1, _, _, _, h => ⟨h.1, fun i hi => wpOp_mono (fun a' w' h' => wpAny_of_F fuel _ a' w' h'.2) (h.2 i hi)⟩

/-- An operation that may come up now may be taken first: nothing that does not wait for it changes what is known. -/
theorem wpAnyF_first {S : Array Bool → World → Prop} {T : World → Prop} {i : Nat} {oi : Oper} {v : Value} (hi : ops[i]? = some oi) (hsel : ∀ (j : Nat) (o : Oper) cs b, ops[j]? = some o → o.op ≠ .select cs b)
    (hQ : ∀ c a w, Q (.panic c) (a.put oi.dst v) w → Q (.panic c) a w)
    (hSi : ∀ listed w, S (listed.setIfInBounds i true) w ↔ S listed w)
    (hSj : ∀ j oj, ops[j]? = some oj → (∀ e ∈ oj.after, Region.binds md e = true → e.on ≠ i) → ∀ listed, (∀ w, S listed w → T w) → ∀ w, S (listed.setIfInBounds j true) w → T w) :
    ∀ (fuel : Nat) (listed : Array Bool) (a : Act) (w : World), (∀ w, S listed w → T w) →
      (∀ j oj, ops[j]? = some oj → j ≠ i → listed.getD j true = false → (∀ e ∈ oj.after, Region.binds md e = true → e.on ≠ i) → oi.apart ops oj = true) →
      i ∈ Region.ready md ops listed → YieldsIf P ops T oi v a → S listed w →
      wpAnyF P md ops Q S fuel (listed.setIfInBounds i true) (a.put oi.dst v) w → wpAnyF P md ops Q S (fuel + 1) listed a w := by
  intro fuel
  induction fuel with
  | zero =>
    intro listed a w hT _ hr hy hS H
    refine ⟨fun h => (by rw [h] at hr; cases hr), fun j hj => ?_⟩
    by_cases hji : j = i
    · subst hji; exact hy.wpOp hi (hT w hS) ⟨(hSi _ _).2 hS, H⟩
    · have := ready_mono hj hji
      rw [H.1] at this
      cases this
  | succ fuel ih =>
    intro listed a w hT hfree hr hy hS H
    refine ⟨fun h => (by rw [h] at hr; cases hr), fun j hj => ?_⟩
    by_cases hji : j = i
    · subst hji; exact hy.wpOp hi (hT w hS) ⟨(hSi _ _).2 hS, H⟩
    · have h1 := H.2 j (ready_mono hj hji)
      obtain ⟨hjun, oj, hoj, hall⟩ := mem_ready.1 hj
      have hnot : ∀ e ∈ oj.after, Region.binds md e = true → e.on ≠ i := fun e he hb heq => by
        have h1 := hall e he hb
        have h0 := (mem_ready.1 hr).1
        rw [heq] at h1
        rcases Nat.lt_or_ge i listed.size with h' | h'
        · simp [h'] at h0 h1; rw [h0] at h1; cases h1
        · simp [Array.getElem?_eq_none h'] at h1
      have h2 := wpOp_putIf hoj (hfree j oj hoj hji hjun hnot) (fun cs b => hsel i oi cs b hi) (fun cs b => hsel j oj cs b hoj) hQ hy h1
      have hfree' : ∀ k ok, ops[k]? = some ok → k ≠ i → (listed.setIfInBounds j true).getD k true = false →
          (∀ e ∈ ok.after, Region.binds md e = true → e.on ≠ i) → oi.apart ops ok = true := fun k ok hk hki hun hno => by
        refine hfree k ok hk hki ?_ hno
        by_cases hjk : j = k
        · subst hjk; exact hjun
        · rw [getD_set_ne true hjk] at hun; exact hun
      have hSjj := hSj j oj hoj hnot listed hT
      refine wpOp_mono (fun a' w' h3 => ?_) h2
      have hS3 : S (listed.setIfInBounds j true) w' := by
        have := h3.2.1
        rw [Array.setIfInBounds_comm _ _ (Ne.symm hji)] at this
        exact (hSi _ _).1 this
      refine ⟨hS3, ih (listed.setIfInBounds j true) a' w' hSjj hfree' (ready_mono hr (Ne.symm hji)) h3.1 hS3 ?_⟩
      rw [Array.setIfInBounds_comm _ _ hji]
      exact h3.2.2

/-- What is known: base, till the first of the marked operations has come up; then the next. -/
def sOf : List (Nat × (World → Prop)) → (World → Prop) → Array Bool → World → Prop
  | [], b, _ => b
  | (m, p) :: r, b, listed => if listed.getD m false then sOf r p listed else b

theorem sOf_other {j : Nat} : ∀ (l : List (Nat × (World → Prop))) (b : World → Prop) (listed : Array Bool), (∀ x ∈ l, x.1 ≠ j) → sOf l b (listed.setIfInBounds j true) = sOf l b listed
  | [], _, _, _ => rfl
  | (m, p) :: r, b, listed, h => by
    have hm : j ≠ m := Ne.symm (h (m, p) (by simp))
    simp only [sOf]
    rw [getD_set_ne false hm, sOf_other r p listed (fun x hx => h x (by simp [hx]))]

/-- An order: (i, 0): read, taken as soon as it may come up; (i, 1): carried out, alone; (i, 2): carried out, alone; from here on other things are known; (i, 3): reads what c tells, which is known throughout. -/
def wpEagF (P : Program) (ops : Array Oper) (Q : Exit → Act → World → Prop) (c : World → Prop) : List (Nat × Nat) → List (Nat × (World → Prop)) → (World → Prop) → Act → World → Prop
  | [], _, _, a, w => Q .normal a w
  | (i, 0) :: l, m, b, a, w => ∃ o v, ops[i]? = some o ∧ YieldsIf P ops b o v a ∧ wpEagF P ops Q c l m b (a.put o.dst v) w
  | (i, 1) :: l, m, b, a, w => wpOp P ops Q i (fun a' w' => b w' ∧ wpEagF P ops Q c l m b a' w') a w
  | (i, 2) :: l, m, b, a, w => match m with
    | [] => False
    | (_, p) :: r => wpOp P ops Q i (fun a' w' => p w' ∧ wpEagF P ops Q c l r p a' w') a w
  | (i, _ + 3) :: l, m, b, a, w => ∃ o v, ops[i]? = some o ∧ YieldsIf P ops c o v a ∧ wpEagF P ops Q c l m b (a.put o.dst v) w

/-- The check of an order; ms: the marked operations that are still to come. -/
def eagF (md : Region.Mode) (ops : Array Oper) : List (Nat × Nat) → List Nat → Array Bool → Bool
  | [], ms, listed => (Region.ready md ops listed).isEmpty
  | (i, 0) :: l, ms, listed => (Region.ready md ops listed).contains i && (Region.free md ops listed i &&
      ((ms.all fun m => m != i && ((ops[m]?).map fun o => o.after.any fun e => Region.binds md e && e.on == i).getD false) && eagF md ops l ms (listed.setIfInBounds i true)))
  | (i, 1) :: l, ms, listed => decide (Region.ready md ops listed = [i]) && (!ms.contains i && eagF md ops l ms (listed.setIfInBounds i true))
  | (i, 2) :: l, ms, listed => match ms with
    | [] => false
    | m :: r => decide (Region.ready md ops listed = [i]) && (m == i && (decide (i < listed.size) && (!r.contains i && eagF md ops l r (listed.setIfInBounds i true))))
  | (i, _ + 3) :: l, ms, listed => (Region.ready md ops listed).contains i && (Region.free md ops listed i && (!ms.contains i && eagF md ops l ms (listed.setIfInBounds i true)))

theorem wpAnyF_congr {S S' : Array Bool → World → Prop} (p : Array Bool → Prop) (hp : ∀ listed i, p listed → p (listed.setIfInBounds i true)) (he : ∀ listed, p listed → S listed = S' listed) :
    ∀ (fuel : Nat) (listed : Array Bool) (a : Act) (w : World), p listed → wpAnyF P md ops Q S fuel listed a w → wpAnyF P md ops Q S' fuel listed a w
  | 0, _, _, _, _, h => h
  | fuel + 1, listed, _, _, hl, h => ⟨h.1, fun i hi => wpOp_mono (fun a' w' h' => ⟨(he _ (hp _ i hl)) ▸ h'.1, wpAnyF_congr p hp he fuel _ a' w' (hp _ i hl) h'.2⟩) (h.2 i hi)⟩

theorem sOf_c {c : World → Prop} : ∀ (m : List (Nat × (World → Prop))) (b : World → Prop) (listed : Array Bool), (∀ w, b w → c w) → (∀ x ∈ m, ∀ w, x.2 w → c w) → ∀ w, sOf m b listed w → c w
  | [], _, _, hb, _, w, h => hb w h
  | (m, p) :: r, b, listed, hb, hm, w, h => by
    simp only [sOf] at h
    split at h
    · exact sOf_c r p listed (hm (m, p) (by simp)) (fun x hx => hm x (by simp [hx])) w h
    · exact hb w h

theorem wpAnyF_of_eag {c : World → Prop} (hs : Region.noSelect ops = true) (hQ : ∀ c d v a w, Q (.panic c) (Act.put a d v) w → Q (.panic c) a w) :
    ∀ (l : List (Nat × Nat)) (m : List (Nat × (World → Prop))) (b : World → Prop) (listed : Array Bool) (a : Act) (w : World), (∀ x ∈ m, listed.getD x.1 false = false) →
      (∀ w, b w → c w) → (∀ x ∈ m, ∀ w, x.2 w → c w) → eagF md ops l (m.map (·.1)) listed = true → b w → wpEagF P ops Q c l m b a w → wpAnyF P md ops Q (sOf m b) l.length listed a w
  | [], m, b, listed, a, w, hm, _, _, hB, _, h => ⟨by simpa [eagF] using hB, h⟩
  | (i, 0) :: l, m, b, listed, a, w, hm, hc, hcm, hB, hb, h => by
    simp only [eagF, Bool.and_eq_true] at hB
    obtain ⟨hr, hf, hms, hB'⟩ := hB
    obtain ⟨o, v, ho, hy, hrest⟩ := h
    have hbase : ∀ listed' : Array Bool, (∀ x ∈ m, listed'.getD x.1 false = false) → sOf m b listed' = b := by
      intro listed' h'
      cases m with
      | nil => rfl
      | cons x r => simp only [sOf]; rw [if_neg (by rw [h' x (by simp)]; simp)]
    have hmi : ∀ x ∈ m, x.1 ≠ i := fun x hx e => by
      have := List.all_eq_true.1 hms x.1 (List.mem_map.2 ⟨x, hx, rfl⟩)
      simp [e] at this
    have hmw : ∀ j oj, ops[j]? = some oj → (∀ e ∈ oj.after, Region.binds md e = true → e.on ≠ i) → ∀ x ∈ m, x.1 ≠ j := fun j oj hoj hno x hx e => by
      have := List.all_eq_true.1 hms x.1 (List.mem_map.2 ⟨x, hx, rfl⟩)
      rw [e, hoj] at this
      simp only [Option.map_some, Option.getD_some, Bool.and_eq_true, Array.any_eq_true] at this
      obtain ⟨_, n, hn, h1, h2⟩ := this
      exact hno _ (Array.getElem_mem hn) h1 (by simpa using h2)
    refine wpAnyF_first (T := b) ho (Region.noSelect_spec hs) (fun c a w => hQ c _ _ a w) (fun listed w => by rw [sOf_other m b listed hmi]) (fun j oj hoj hno listed h w hw => h w (by rw [sOf_other m b listed (hmw j oj hoj hno)] at hw; exact hw))
      l.length listed a w (by rw [hbase listed hm]; exact fun _ h => h) (Region.free_spec ho hf) (by simpa using hr) hy (by rw [hbase listed hm]; exact hb) ?_
    exact wpAnyF_of_eag hs hQ l m b _ _ _ (fun x hx => by rw [getD_set_ne false (Ne.symm (hmi x hx))]; exact hm x hx) hc hcm hB' hb hrest
  | (i, n + 3) :: l, m, b, listed, a, w, hm, hc, hcm, hB, hb, h => by
    simp only [eagF, Bool.and_eq_true, Bool.not_eq_true'] at hB
    obtain ⟨hr, hf, hni, hB'⟩ := hB
    obtain ⟨o, v, ho, hy, hrest⟩ := h
    have hmi : ∀ x ∈ m, x.1 ≠ i := fun x hx e => by
      have : (m.map (·.1)).contains i = true := by simp only [List.contains_iff_mem]; exact List.mem_map.2 ⟨x, hx, e⟩
      rw [this] at hni; cases hni
    have hbase : ∀ listed' : Array Bool, (∀ x ∈ m, listed'.getD x.1 false = false) → sOf m b listed' = b := by
      intro listed' h'
      cases m with
      | nil => rfl
      | cons x r => simp only [sOf]; rw [if_neg (by rw [h' x (by simp)]; simp)]
    refine wpAnyF_first (T := c) ho (Region.noSelect_spec hs) (fun c a w => hQ c _ _ a w) (fun listed w => by rw [sOf_other m b listed hmi]) (fun _ _ _ _ _ _ => sOf_c m b _ hc hcm)
      l.length listed a w (sOf_c m b _ hc hcm) (Region.free_spec ho hf) (by simpa using hr) hy (by rw [hbase listed hm]; exact hb) ?_
    exact wpAnyF_of_eag hs hQ l m b _ _ _ (fun x hx => by rw [getD_set_ne false (Ne.symm (hmi x hx))]; exact hm x hx) hc hcm hB' hb hrest
  | (i, 1) :: l, m, b, listed, a, w, hm, hc, hcm, hB, hb, h => by
    simp only [eagF, Bool.and_eq_true, decide_eq_true_eq, Bool.not_eq_true'] at hB
    obtain ⟨hr, hni, hB'⟩ := hB
    have hmi : ∀ x ∈ m, x.1 ≠ i := fun x hx e => by
      have : (m.map (·.1)).contains i = true := by simp only [List.contains_iff_mem]; exact List.mem_map.2 ⟨x, hx, e⟩
      rw [this] at hni; cases hni
    have hm' : ∀ x ∈ m, (listed.setIfInBounds i true).getD x.1 false = false := fun x hx => by rw [getD_set_ne false (Ne.symm (hmi x hx))]; exact hm x hx
    have hbase : sOf m b (listed.setIfInBounds i true) = b := by
      cases m with
      | nil => rfl
      | cons x r => simp only [sOf]; rw [if_neg (by rw [hm' x (by simp)]; simp)]
    refine ⟨fun h0 => (by rw [h0] at hr; cases hr), fun j hj => ?_⟩
    rw [hr] at hj
    have hji : j = i := by simpa using hj
    subst hji
    refine wpOp_mono (fun a' w' h' => ⟨by rw [hbase]; exact h'.1, wpAnyF_of_eag hs hQ l m b _ _ _ hm' hc hcm hB' h'.1 h'.2⟩) h
  | (i, 2) :: l, [], b, listed, a, w, hm, hc, hcm, hB, hb, h => by simp [eagF] at hB
  | (i, 2) :: l, (m, p) :: r, b, listed, a, w, hm, hc, hcm, hB, hb, h => by
    simp only [eagF, List.map_cons, Bool.and_eq_true, decide_eq_true_eq, beq_iff_eq, Bool.not_eq_true'] at hB
    obtain ⟨hr, hmi, hlt, hni, hB'⟩ := hB
    subst hmi
    have hri : ∀ x ∈ r, x.1 ≠ m := fun x hx e => by
      have : (r.map (·.1)).contains m = true := by simp only [List.contains_iff_mem]; exact List.mem_map.2 ⟨x, hx, e⟩
      rw [this] at hni; cases hni
    have hm' : ∀ x ∈ r, (listed.setIfInBounds m true).getD x.1 false = false := fun x hx => by rw [getD_set_ne false (Ne.symm (hri x hx))]; exact hm x (by simp [hx])
    have hset : ∀ (listed' : Array Bool), listed'.getD m false = true → sOf ((m, p) :: r) b listed' = sOf r p listed' := fun listed' h' => by simp only [sOf]; rw [if_pos h']
    have hgot : (listed.setIfInBounds m true).getD m false = true := by simp [Array.getD_eq_getD_getElem?, hlt]
    have hbase : sOf r p (listed.setIfInBounds m true) = p := by
      cases r with
      | nil => rfl
      | cons x r => simp only [sOf]; rw [if_neg (by rw [hm' x (by simp)]; simp)]
    refine ⟨fun h0 => (by rw [h0] at hr; cases hr), fun j hj => ?_⟩
    rw [hr] at hj
    have hji : j = m := by simpa using hj
    subst hji
    have h : wpOp P ops Q j (fun a' w' => p w' ∧ wpEagF P ops Q c l r p a' w') a w := by simpa only [wpEagF] using h
    refine wpOp_mono (fun a' w' h' => ⟨by rw [hset _ hgot, hbase]; exact h'.1, ?_⟩) h
    refine wpAnyF_congr (S := sOf r p) (fun listed' => listed'.getD j false = true) ?_ (fun listed' h' => (hset listed' h').symm) _ _ _ _ hgot (wpAnyF_of_eag hs hQ l r p _ _ _ hm' (hcm (j, p) (by simp)) (fun x hx => hcm x (by simp [hx])) hB' h'.1 h'.2)
    intro listed' k hk
    by_cases hkj : k = j
    · subst hkj
      rcases Nat.lt_or_ge k listed'.size with h' | h'
      · simp [Array.getD_eq_getD_getElem?, h']
      · rw [show listed'.setIfInBounds k true = listed' from by simp [Array.setIfInBounds, Nat.not_lt.2 h']]; exact hk
    · rw [getD_set_ne false hkj]; exact hk

theorem wp_region_eagF {id : Nat} {a : Act} {w : World} {l : List Oper} {c : World → Prop} (m : List (Nat × (World → Prop))) (b : World → Prop) (ord : List (Nat × Nat)) (hm : P.follows .mixedOrders = true)
    (hB : (Region.noSelect l.toArray && (decide (ord.length = l.length) && eagF .any l.toArray ord (m.map (·.1)) (Array.replicate l.length false))) = true)
    (hQ : ∀ c d v a w, Q (.panic c) (Act.put a d v) w → Q (.panic c) a w) (hb : b w.drew) (hc : ∀ w, b w → c w) (hcm : ∀ x ∈ m, ∀ w, x.2 w → c w)
    (h : wpEagF P l.toArray Q c ord m b a w.drew) : (Code.region id l.toArray true).wp P Q a w := by
  simp only [Bool.and_eq_true, decide_eq_true_eq] at hB
  obtain ⟨hs, hl, hB⟩ := hB
  refine wp_region_any hm ?_
  have hx : ∀ x ∈ m, (Array.replicate l.length false).getD x.1 false = false := fun x _ => by
    rw [Array.getD_eq_getD_getElem?]
    rcases Nat.lt_or_ge x.1 l.length with h' | h' <;> simp [h', Array.getElem?_replicate]
  have := wpAnyF_of_eag (md := .any) hs hQ ord m b _ a w.drew hx hc hcm hB hb h
  rw [hl] at this
  exact wpAny_of_F _ _ _ _ (by simpa using this)
end
end Go.Proofs.Ytccbinnlnkpplaa
