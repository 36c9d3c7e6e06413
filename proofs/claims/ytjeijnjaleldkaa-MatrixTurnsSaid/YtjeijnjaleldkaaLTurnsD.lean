/- Texts in one: Ort, Ak3, WdPl, Add64, Sub64, WtP, Xi, PePl, PeDo, PeW, R4, MtW, Mt4, Mo1, Wb6, RtR, Zs, Pt0. -/
import Derived.Test.YtjeijnjaleldkaaLTurnsC
import Derived.Shelf.Spec.BitsCarry
import Derived.OrdersIn
namespace Go.Proofs.Ytjeijnjaleldkaa
set_option linter.all false
set_option maxRecDepth 100000
set_option maxHeartbeats 1000000
open Go.RowKit
section
variable {P : Program} {ops : Array Oper} {Q : Exit → Act → World → Prop} {md : Region.Mode}
def Cl (md : Region.Mode) (ops : Array Oper) (listed : Array Bool) : Prop := ∀ k ok, ops[k]? = some ok → listed.getD k false = true → ∀ e ∈ ok.after, Region.binds md e = true → listed.getD e.on false = true
theorem Cl.step {listed : Array Bool} {j : Nat} (h : Cl md ops listed) (hj : j ∈ Region.ready md ops listed) : Cl md ops (listed.setIfInBounds j true) := fun k ok hk hl e he hb => by
  by_cases e1 : j = k
  · subst e1
    obtain ⟨-, o, ho, hall⟩ := mem_ready.1 hj
    rw [hk] at ho
    cases ho
    exact getD_set_true (hall e he hb)
  · rw [getD_set_ne false e1] at hl
    exact getD_set_true (h k ok hk hl e he hb)
def reachT (md : Region.Mode) (ops : Array Oper) : Nat → Nat → Nat → Bool
  | 0, _, _ => false
  | f + 1, m, i => match ops[m]? with
    | some o => o.after.any fun e => Region.binds md e && (e.on == i || reachT md ops f e.on i)
    | none => false
theorem reach_listed {listed : Array Bool} {i : Nat} (h : Cl md ops listed) : ∀ (f d : Nat), listed.getD d false = true → reachT md ops f d i = true → listed.getD i false = true
  | 0, _, _, hr => by cases hr
  | f + 1, d, hd, hr => by
    unfold reachT at hr
    cases ho : ops[d]? with
    | none => rw [ho] at hr; cases hr
    | some o =>
      rw [ho] at hr
      simp only [Array.any_eq_true, Bool.and_eq_true, Bool.or_eq_true, beq_iff_eq] at hr
      obtain ⟨n, hn, hb, hor⟩ := hr
      have hl := h d o ho hd _ (Array.getElem_mem hn) hb
      rcases hor with e | e
      · rw [← e]; exact hl
      · exact reach_listed h f _ hl e
theorem reach_ready {listed : Array Bool} {m i f : Nat} (h : Cl md ops listed) (hm : m ∈ Region.ready md ops listed) (hr : reachT md ops f m i = true) : listed.getD i false = true := by
 cases f with
 | zero => cases hr
 | succ f =>
  unfold reachT at hr
  obtain ⟨-, o, ho, hall⟩ := mem_ready.1 hm
  rw [ho] at hr
  simp only [Array.any_eq_true, Bool.and_eq_true, Bool.or_eq_true, beq_iff_eq] at hr
  obtain ⟨n, hn, hb, hor⟩ := hr
  have hl := hall _ (Array.getElem_mem hn) hb
  rcases hor with e | e
  ·rw [← e]; exact hl
  ·exact reach_listed h f _ hl e
theorem wpAnyF_firstT {S : Array Bool → World → Prop} {T : World → Prop} {i : Nat} {oi : Oper} {v : Value} (hi : ops[i]? = some oi) (hsel : ∀ (j : Nat) (o : Oper) cs b, ops[j]? = some o → o.op ≠ .select cs b)
    (hQ : ∀ c a w, Q (.panic c) (a.put oi.dst v) w → Q (.panic c) a w)
    (hSi : ∀ listed w, S (listed.setIfInBounds i true) w ↔ S listed w)
    (hSj : ∀ j listed, Cl md ops listed → j ∈ Region.ready md ops listed → listed.getD i true = false → (∀ w, S listed w → T w) → ∀ w, S (listed.setIfInBounds j true) w → T w) :
    ∀ (fuel : Nat) (listed : Array Bool) (a : Act) (w : World), Cl md ops listed → (∀ w, S listed w → T w) →
      (∀ j oj, ops[j]? = some oj → j ≠ i → listed.getD j true = false → (∀ e ∈ oj.after, Region.binds md e = true → e.on ≠ i) → oi.apart ops oj = true) →
      i ∈ Region.ready md ops listed → YieldsIf P ops T oi v a → S listed w →
      wpAnyF P md ops Q S fuel (listed.setIfInBounds i true) (a.put oi.dst v) w → wpAnyF P md ops Q S (fuel + 1) listed a w := by
  intro fuel
  induction fuel with
  | zero =>
    intro listed a w hC hT _ hr hy hS H
    refine ⟨fun h => (by rw [h] at hr; cases hr), fun j hj => ?_⟩
    by_cases hji : j = i
    · subst hji; exact hy.wpOp hi (hT w hS) ⟨(hSi _ _).2 hS, H⟩
    · have := ready_mono hj hji
      rw [H.1] at this
      cases this
  | succ fuel ih =>
    intro listed a w hC hT hfree hr hy hS H
    refine ⟨fun h => (by rw [h] at hr; cases hr), fun j hj => ?_⟩
    by_cases hji : j = i
    · subst hji; exact hy.wpOp hi (hT w hS) ⟨(hSi _ _).2 hS, H⟩
    · have h1 := H.2 j (ready_mono hj hji)
      obtain ⟨hjun, oj, hoj, hall⟩ := mem_ready.1 hj
      have hnot : ∀ e ∈ oj.after, Region.binds md e = true → e.on ≠ i := fun e he hb heq => by
        have h1 := hall e he hb
        have h0 := (mem_ready.1 hr).1
        rw [heq] at h1
        rcases Nat.lt_or_ge i listed.size with h' | h'
        · simp [h'] at h0 h1; rw [h0] at h1; cases h1
        · simp [Array.getElem?_eq_none h'] at h1
      have h2 := wpOp_putIf hoj (hfree j oj hoj hji hjun hnot) (fun cs b => hsel i oi cs b hi) (fun cs b => hsel j oj cs b hoj) hQ hy h1
      have hfree' : ∀ k ok, ops[k]? = some ok → k ≠ i → (listed.setIfInBounds j true).getD k true = false →
          (∀ e ∈ ok.after, Region.binds md e = true → e.on ≠ i) → oi.apart ops ok = true := fun k ok hk hki hun hno => by
        refine hfree k ok hk hki ?_ hno
        by_cases hjk : j = k
        · subst hjk; exact hjun
        · rw [getD_set_ne true hjk] at hun; exact hun
      have hSjj := hSj j listed hC hj (mem_ready.1 hr).1 hT
      refine wpOp_mono (fun a' w' h3 => ?_) h2
      have hS3 : S (listed.setIfInBounds j true) w' := by
        have := h3.2.1
        rw [Array.setIfInBounds_comm _ _ (Ne.symm hji)] at this
        exact (hSi _ _).1 this
      refine ⟨hS3, ih (listed.setIfInBounds j true) a' w' (hC.step hj) hSjj hfree' (ready_mono hr (Ne.symm hji)) h3.1 hS3 ?_⟩
      rw [Array.setIfInBounds_comm _ _ hji]
      exact h3.2.2
def eagT (md : Region.Mode) (ops : Array Oper) : List (Nat × Nat) → List Nat → Array Bool → Bool
  | [], ms, listed => (Region.ready md ops listed).isEmpty
  | (i, 0) :: l, ms, listed => (Region.ready md ops listed).contains i && (Region.free md ops listed i &&
      ((ms.all fun m => m != i && reachT md ops 20 m i) && eagT md ops l ms (listed.setIfInBounds i true)))
  | (i, 1) :: l, ms, listed => decide (Region.ready md ops listed = [i]) && (!ms.contains i && eagT md ops l ms (listed.setIfInBounds i true))
  | (i, 2) :: l, ms, listed => match ms with
    | [] => false
    | m :: r => decide (Region.ready md ops listed = [i]) && (m == i && (decide (i < listed.size) && (!r.contains i && eagT md ops l r (listed.setIfInBounds i true))))
  | (i, _ + 3) :: l, ms, listed => (Region.ready md ops listed).contains i && (Region.free md ops listed i && (!ms.contains i && eagT md ops l ms (listed.setIfInBounds i true)))
theorem wpAnyF_of_eagT {c : World → Prop} (hs : Region.noSelect ops = true) (hQ : ∀ c d v a w, Q (.panic c) (Act.put a d v) w → Q (.panic c) a w) :
    ∀ (l : List (Nat × Nat)) (m : List (Nat × (World → Prop))) (b : World → Prop) (listed : Array Bool) (a : Act) (w : World), Cl md ops listed → (∀ x ∈ m, listed.getD x.1 false = false) →
      (∀ w, b w → c w) → (∀ x ∈ m, ∀ w, x.2 w → c w) → eagT md ops l (m.map (·.1)) listed = true → b w → wpEagF P ops Q c l m b a w → wpAnyF P md ops Q (sOf m b) l.length listed a w
  | [], m, b, listed, a, w, _, hm, _, _, hB, _, h => ⟨by simpa [eagT] using hB, h⟩
  | (i, 0) :: l, m, b, listed, a, w, hC, hm, hc, hcm, hB, hb, h => by
    simp only [eagT, Bool.and_eq_true] at hB
    obtain ⟨hr, hf, hms, hB'⟩ := hB
    obtain ⟨o, v, ho, hy, hrest⟩ := h
    have hbase : ∀ listed' : Array Bool, (∀ x ∈ m, listed'.getD x.1 false = false) → sOf m b listed' = b := by
      intro listed' h'
      cases m with
      | nil => rfl
      | cons x r => simp only [sOf]; rw [if_neg (by rw [h' x (by simp)]; simp)]
    have hmi : ∀ x ∈ m, x.1 ≠ i := fun x hx e => by
      have := List.all_eq_true.1 hms x.1 (List.mem_map.2 ⟨x, hx, rfl⟩)
      simp [e] at this
    have hmr : ∀ x ∈ m, reachT md ops 20 x.1 i = true := fun x hx => by
      have := List.all_eq_true.1 hms x.1 (List.mem_map.2 ⟨x, hx, rfl⟩)
      rw [Bool.and_eq_true] at this
      exact this.2
    have hir : i ∈ Region.ready md ops listed := by simpa using hr
    refine wpAnyF_firstT (T := b) ho (Region.noSelect_spec hs) (fun c a w => hQ c _ _ a w) (fun listed w => by rw [sOf_other m b listed hmi]) (fun j listed hCl hj hun h w hw => h w (by
        rw [sOf_other m b listed (fun x hx e => by
          have h1 := reach_ready hCl (e ▸ hj) (hmr x hx)
          rcases Nat.lt_or_ge i listed.size with h' | h'
          · simp [h'] at h1 hun; rw [hun] at h1; cases h1
          · simp [Array.getElem?_eq_none h'] at h1)] at hw
        exact hw))
      l.length listed a w hC (by rw [hbase listed hm]; exact fun _ h => h) (Region.free_spec ho hf) hir hy (by rw [hbase listed hm]; exact hb) ?_
    exact wpAnyF_of_eagT hs hQ l m b _ _ _ (hC.step (by simpa using hr)) (fun x hx => by rw [getD_set_ne false (Ne.symm (hmi x hx))]; exact hm x hx) hc hcm hB' hb hrest
  | (i, n + 3) :: l, m, b, listed, a, w, hC, hm, hc, hcm, hB, hb, h => by
    simp only [eagT, Bool.and_eq_true, Bool.not_eq_true'] at hB
    obtain ⟨hr, hf, hni, hB'⟩ := hB
    obtain ⟨o, v, ho, hy, hrest⟩ := h
    have hmi : ∀ x ∈ m, x.1 ≠ i := fun x hx e => by
      have : (m.map (·.1)).contains i = true := by simp only [List.contains_iff_mem]; exact List.mem_map.2 ⟨x, hx, e⟩
      rw [this] at hni; cases hni
    have hbase : ∀ listed' : Array Bool, (∀ x ∈ m, listed'.getD x.1 false = false) → sOf m b listed' = b := by
      intro listed' h'
      cases m with
      | nil => rfl
      | cons x r => simp only [sOf]; rw [if_neg (by rw [h' x (by simp)]; simp)]
    refine wpAnyF_firstT (T := c) ho (Region.noSelect_spec hs) (fun c a w => hQ c _ _ a w) (fun listed w => by rw [sOf_other m b listed hmi]) (fun _ _ _ _ _ _ => sOf_c m b _ hc hcm)
      l.length listed a w hC (sOf_c m b _ hc hcm) (Region.free_spec ho hf) (by simpa using hr) hy (by rw [hbase listed hm]; exact hb) ?_
    exact wpAnyF_of_eagT hs hQ l m b _ _ _ (hC.step (by simpa using hr)) (fun x hx => by rw [getD_set_ne false (Ne.symm (hmi x hx))]; exact hm x hx) hc hcm hB' hb hrest
  | (i, 1) :: l, m, b, listed, a, w, hC, hm, hc, hcm, hB, hb, h => by
    simp only [eagT, Bool.and_eq_true, decide_eq_true_eq, Bool.not_eq_true'] at hB
    obtain ⟨hr, hni, hB'⟩ := hB
    have hmi : ∀ x ∈ m, x.1 ≠ i := fun x hx e => by
      have : (m.map (·.1)).contains i = true := by simp only [List.contains_iff_mem]; exact List.mem_map.2 ⟨x, hx, e⟩
      rw [this] at hni; cases hni
    have hm' : ∀ x ∈ m, (listed.setIfInBounds i true).getD x.1 false = false := fun x hx => by rw [getD_set_ne false (Ne.symm (hmi x hx))]; exact hm x hx
    have hbase : sOf m b (listed.setIfInBounds i true) = b := by
      cases m with
      | nil => rfl
      | cons x r => simp only [sOf]; rw [if_neg (by rw [hm' x (by simp)]; simp)]
    refine ⟨fun h0 => (by rw [h0] at hr; cases hr), fun j hj => ?_⟩
    rw [hr] at hj
    have hji : j = i := by simpa using hj
    subst hji
    refine wpOp_mono (fun a' w' h' => ⟨by rw [hbase]; exact h'.1, wpAnyF_of_eagT hs hQ l m b _ _ _ (hC.step (by rw [hr]; simp)) hm' hc hcm hB' h'.1 h'.2⟩) h
  | (i, 2) :: l, [], b, listed, a, w, hC, hm, hc, hcm, hB, hb, h => by simp [eagT] at hB
  | (i, 2) :: l, (m, p) :: r, b, listed, a, w, hC, hm, hc, hcm, hB, hb, h => by
    simp only [eagT, List.map_cons, Bool.and_eq_true, decide_eq_true_eq, beq_iff_eq, Bool.not_eq_true'] at hB
    obtain ⟨hr, hmi, hlt, hni, hB'⟩ := hB
    subst hmi
    have hri : ∀ x ∈ r, x.1 ≠ m := fun x hx e => by
      have : (r.map (·.1)).contains m = true := by simp only [List.contains_iff_mem]; exact List.mem_map.2 ⟨x, hx, e⟩
      rw [this] at hni; cases hni
    have hm' : ∀ x ∈ r, (listed.setIfInBounds m true).getD x.1 false = false := fun x hx => by rw [getD_set_ne false (Ne.symm (hri x hx))]; exact hm x (by simp [hx])
    have hset : ∀ (listed' : Array Bool), listed'.getD m false = true → sOf ((m, p) :: r) b listed' = sOf r p listed' := fun listed' h' => by simp only [sOf]; rw [if_pos h']
    have hgot : (listed.setIfInBounds m true).getD m false = true := by simp [Array.getD_eq_getD_getElem?, hlt]
    have hbase : sOf r p (listed.setIfInBounds m true) = p := by
      cases r with
      | nil => rfl
      | cons x r => simp only [sOf]; rw [if_neg (by rw [hm' x (by simp)]; simp)]
    refine ⟨fun h0 => (by rw [h0] at hr; cases hr), fun j hj => ?_⟩
    rw [hr] at hj
    have hji : j = m := by simpa using hj
    subst hji
    have h : wpOp P ops Q j (fun a' w' => p w' ∧ wpEagF P ops Q c l r p a' w') a w := by simpa only [wpEagF] using h
    refine wpOp_mono (fun a' w' h' => ⟨by rw [hset _ hgot, hbase]; exact h'.1, ?_⟩) h
    refine wpAnyF_congr (S := sOf r p) (fun listed' => listed'.getD j false = true) ?_ (fun listed' h' => (hset listed' h').symm) _ _ _ _ hgot (wpAnyF_of_eagT hs hQ l r p _ _ _ (hC.step (by rw [hr]; simp)) hm' (hcm (j, p) (by simp)) (fun x hx => hcm x (by simp [hx])) hB' h'.1 h'.2)
    intro listed' k hk
    by_cases hkj : k = j
    · subst hkj
      rcases Nat.lt_or_ge k listed'.size with h' | h'
      · simp [Array.getD_eq_getD_getElem?, h']
      · rw [show listed'.setIfInBounds k true = listed' from by simp [Array.setIfInBounds, Nat.not_lt.2 h']]; exact hk
    · rw [getD_set_ne false hkj]; exact hk
theorem wp_region_eagT {id : Nat} {a : Act} {w : World} {l : List Oper} {c : World → Prop} (m : List (Nat × (World → Prop))) (b : World → Prop) (ord : List (Nat × Nat)) (hm : P.follows .mixedOrders = true)
    (hB : (Region.noSelect l.toArray && (decide (ord.length = l.length) && eagT .any l.toArray ord (m.map (·.1)) (Array.replicate l.length false))) = true)
    (hQ : ∀ c d v a w, Q (.panic c) (Act.put a d v) w → Q (.panic c) a w) (hb : b w.drew) (hc : ∀ w, b w → c w) (hcm : ∀ x ∈ m, ∀ w, x.2 w → c w)
    (h : wpEagF P l.toArray Q c ord m b a w.drew) : (Code.region id l.toArray true).wp P Q a w := by
  simp only [Bool.and_eq_true, decide_eq_true_eq] at hB
  obtain ⟨hs, hl, hB⟩ := hB
  refine wp_region_any hm ?_
  have hx : ∀ x ∈ m, (Array.replicate l.length false).getD x.1 false = false := fun x _ => by
    rw [Array.getD_eq_getD_getElem?]
    rcases Nat.lt_or_ge x.1 l.length with h' | h' <;> simp [h', Array.getElem?_replicate]
  have := wpAnyF_of_eagT (md := .any) hs hQ ord m b _ a w.drew (fun k ok hk h => by
    rw [Array.getD_eq_getD_getElem?] at h
    rcases Nat.lt_or_ge k l.length with h' | h' <;> simp [h', Array.getElem?_replicate] at h) hx hc hcm hB hb h
  rw [hl] at this
  exact wpAny_of_F _ _ _ _ (by simpa using this)
end
section
variable {R : Option Nat} {P : Program} {ops : Array Oper} {Q : Exit → Act → World → Prop} {B : World} {F : List Nat} {s0 : Option (List Blk × List Blk)}
theorem wk_drawsT {id : Nat} {a : Act} {s : List Blk} {l : List Oper} (z z1 : List Blk) (ord : List (Nat × Nat)) (mk : List Nat) (hm : P.follows .mixedOrders = true)
    (hB : ((Region.noSelect l.toArray && (decide (ord.length = l.length) && eagT .any l.toArray ord mk (Array.replicate l.length false))) &&
      ((ord.all fun p => decide (p.1 < l.length)) && (decide (mk.length ≤ 1) && decide ((ord.map (·.2)).filter (· == 2) = mk.map fun _ => 2)))) = true)
    (hQ : ∀ c d v a w, Q (.panic c) (Act.put a d v) w → Q (.panic c) a w) (hz : z.Sublist s) (hzz : mk = [] → z = z1)
    (h : Rg none P l.toArray Q B F (some (z, z1)) (ord.map fun p => (l.getD p.1 default, p.2)) a s) (hy : z1.Sublist z := by exact List.Sublist.refl _) : Wk none P B F Q a s (Code.region id l.toArray true) := fun w K => by
  simp only [Bool.and_eq_true, decide_eq_true_eq, List.all_eq_true] at hB
  obtain ⟨hB1, h1, h3, h4⟩ := hB
  refine wpIn_wide.2 ?_
  match mk, h3, h4, hB1, hzz with
  | [], _, h4, hB1, hzz =>
    refine wp_region_eagT [] (Kn B F z) ord hm (by simp only [Bool.and_eq_true, decide_eq_true_eq]; exact hB1) hQ (K.drew.sub hz) (fun w K => K.sub hy) (fun x hx => nomatch hx) ?_
    refine rg_eag l rfl 0 ord (z, z1) a s [] (.inr ⟨rfl, hzz rfl, fun p hp e => ?_⟩) (by rw [if_pos rfl]; exact h4) (by simpa [List.all_eq_true] using h1) h w.drew K.drew
    have : p.2 ∈ (ord.map (·.2)).filter (· == 2) := List.mem_filter.2 ⟨List.mem_map.2 ⟨p, hp, rfl⟩, by simp [e]⟩
    rw [h4] at this; cases this
  | [x], _, h4, hB1, _ =>
    refine wp_region_eagT [(x, Kn B F z1)] (Kn B F z) ord hm (by simp only [Bool.and_eq_true, decide_eq_true_eq]; exact hB1) hQ (K.drew.sub hz) (fun w K => K.sub hy) (fun x hx w K => by simp only [List.mem_singleton] at hx; subst hx; exact K) ?_
    exact rg_eag l rfl x ord (z, z1) a s [(x, Kn B F z1)] (.inl rfl) (by rw [if_neg (by simp)]; exact h4) (by simpa [List.all_eq_true] using h1) h w.drew K.drew
  | _ :: _ :: _, h3, _, _, _ => simp at h3
theorem wk_drawsT_m {id : Nat} {a : Act} {s z1 : List Blk} (hz1 : z1.Sublist s) {l : List Oper} (ord : List (Nat × Nat)) (mk : Nat) (hm : P.follows .mixedOrders = true)
    (hB : ((Region.noSelect l.toArray && (decide (ord.length = l.length) && eagT .any l.toArray ord [mk] (Array.replicate l.length false))) &&
      ((ord.all fun p => decide (p.1 < l.length)) && (decide ([mk].length ≤ 1) && decide ((ord.map (·.2)).filter (· == 2) = [mk].map fun _ => 2)))) = true)
    (hQ : ∀ c d v a w, Q (.panic c) (Act.put a d v) w → Q (.panic c) a w)
    (h : Rg none P l.toArray Q B F (some (s, z1)) (ord.map fun p => (l.getD p.1 default, p.2)) a s) : Wk none P B F Q a s (Code.region id l.toArray true) :=
  wk_drawsT s z1 ord [mk] hm hB hQ (List.Sublist.refl _) (fun e => nomatch e) h hz1
end
theorem between_yes (x y : Nm) (hx : x.Ok) (hz : NotZ x y) (t : Nat) (h : btw x y = some t) (w : World) : Calls Try.prog 90 #[nmV x, nmV y] w fun e w' => e = .returned (.tuple #[.int .i64 t, .bool true]) ∧ Below w.heap.size w w' := by
 have h1 := between_any x y hx hz w
 unfold btV btB at h1
 rwa [h] at h1
theorem between_none (x y : Nm) (hx : x.Ok) (hz : NotZ x y) (h : btw x y = none) (w : World) : Calls Try.prog 90 #[nmV x, nmV y] w fun e w' => e = .returned (.tuple #[.int .i64 0, .bool false]) ∧ Below w.heap.size w w' := by
 have h1 := between_any x y hx hz w
 unfold btV btB at h1
 rwa [h] at h1
theorem malike_any (n m : Int) (xs ys : List Nm) (a a' : Option Addr) (c c' : Nat) (hl : xs.length ≤ 1000000) (hl' : ys.length ≤ 1000000) (w : World) (hA : AS w a (nms xs)) (hB : AS w a' (nms ys)) : Calls Try.prog 39 #[.agg #[.int .i64 n, .slice a xs.length c], .agg #[.int .i64 m, .slice a' ys.length c']] w fun e w' => e = .returned (.tuple #[.bool (alkB n m xs ys), .int .i64 (alkE n m xs ys)]) ∧ Below w.heap.size w w' := by
 go_enter Try.func39, Try.ntmps39
 refine wk_start ?_
 refine wk_seq ?_
 refine wk_region [1, 1, 0, 0] rfl Kx ?_
 simp only [qy]
 refine Rgn fun g1 => ?_
 simp only [qz]
 refine Rgn fun g2 => ?_
 simp only [qz]
 refine rg_assign ?_
 simp only [qz]
 refine rg_assign ?_
 simp only [qz]
 refine rg_nil (ek_next (wk_seq (wk_block (wk_seq ?_))))
 refine wk_region [0, 1, 0, 0, 0, 1, 0, 0, 0] rfl Kx ?_
 simp only [qy]
 refine rf_loadR (n := 2) rfl rfl rfl Try.underlying24 rfl Kx (fun w hw => Kn.hd0 (Kn.tl hw)) rfl rfl ?_
 simp only [qz]
 apply rg_pureb Rx Kx
 case hargs => exact Ax
 case h => exact fun w hw => mvalid_any n xs a c hl w (hA.kn0 hw)
 case hz => exact Nz
 intro x h1
 cases x
 ·(try simp only [qd, ne_eq] at h1)
  simp only [qz]
  refine rf_not rfl rfl rfl ?_
  simp only [qz]
  refine rg_move ?_
  simp only [qz]
  refine rg_skip Rx ?_
  simp only [qz]
  refine rg_skip_h Rx Nz ?_
  simp only [qz]
  refine rg_skip Rx ?_
  simp only [qz]
  refine rf_pick rfl rfl rfl ?_
  simp only [qz]
  refine rg_assign ?_
  simp only [qz]
  refine rg_nil (ek_next (wk_cond_t rfl (wk_seq ?_)))
  refine wk_region [0, 0] rfl Kx ?_
  simp only [qy]
  refine rg_assign ?_
  simp only [qz]
  refine rg_assign ?_
  simp only [qz]
  refine rg_nil (ek_next (wk_ret (ek_block_ret (ek_then_ret ?_))))
  refine ek_ret (fun w hw => ⟨rfl, _, res_tt _ _ rfl, ?_⟩)
  (try simp only [qz])
  obtain ⟨e1, e2⟩ := alk_bad (n := n) (m := m) (xs := xs) (ys := ys) (by rw [h1]; rfl)
  exact ⟨by rw [e1, e2], hw.below⟩
 (try simp only [qd, ne_eq] at h1)
 simp only [qz]
 have hv := h1
 obtain ⟨N, rfl, hN1, hN, hlx, hlx36, hox⟩ := validB_N' hv
 replace hlx := Lib.hid hlx
 refine rf_not rfl rfl rfl ?_
 simp only [qz]
 refine rg_move ?_
 simp only [qz]
 refine rf_loadR (n := 2) rfl rfl rfl Try.underlying24 rfl Kx (fun w hw => Kn.hd0 hw) rfl rfl ?_
 simp only [qz]
 apply rg_pureb Rx Kx
 case hargs => exact Ax
 case h => exact fun w hw => mvalid_any m ys a' c' hl' w (hB.kn0 hw)
 case hz => exact Nz
 intro x h2
 cases x
 ·(try simp only [qd, ne_eq] at h2)
  simp only [qz]
  refine rf_not rfl rfl rfl ?_
  simp only [qz]
  refine rf_pick rfl rfl rfl ?_
  simp only [qz]
  refine rg_assign ?_
  simp only [qz]
  refine rg_nil (ek_next (wk_cond_t rfl (wk_seq ?_)))
  refine wk_region [0, 0] rfl Kx ?_
  simp only [qy]
  refine rg_assign ?_
  simp only [qz]
  refine rg_assign ?_
  simp only [qz]
  refine rg_nil (ek_next (wk_ret (ek_block_ret (ek_then_ret ?_))))
  refine ek_ret (fun w hw => ⟨rfl, _, res_tt _ _ rfl, ?_⟩)
  (try simp only [qz])
  obtain ⟨e1, e2⟩ := alk_bad (n := (N : Int)) (m := m) (xs := xs) (ys := ys) (by rw [hv, h2]; rfl)
  exact ⟨by rw [e1, e2], hw.below⟩
 (try simp only [qd, ne_eq] at h2)
 simp only [qz]
 have hv2 := h2
 obtain ⟨M, rfl, hM1, hM, hly, hly36, hoy⟩ := validB_N' hv2
 replace hly := Lib.hid hly
 refine rf_not rfl rfl rfl ?_
 simp only [qz]
 refine rf_pick rfl rfl rfl ?_
 simp only [qz]
 refine rg_assign ?_
 simp only [qz]
 refine rg_nil (ek_next (wk_cond_f rfl (wk_seq ?_)))
 refine wk_region [0, 0, 0, 0, 0, 0] rfl Kx ?_
 simp only [qy]
 refine rf_field (n := 0) (j := 0) rfl rfl rfl Try.underlying24 rfl Kx rfl ?_
 simp only [qz]
 refine rf_load rfl rfl rfl Try.underlying3 rfl (fun w hw => (Kn.hd0 (Kn.tl hw)).at rfl) ?_
 simp only [qz]
 refine rf_field (n := 0) (j := 0) rfl rfl rfl Try.underlying24 rfl Kx rfl ?_
 simp only [qz]
 refine rf_load rfl rfl rfl Try.underlying3 rfl (fun w hw => (Kn.hd0 hw).at rfl) ?_
 simp only [qz]
 refine rfb_neq rfl rfl rfl rfl ?_
 intro x h3
 cases x
 ·(try simp only [qd, ne_eq] at h3)
  simp only [qz]
  refine rg_assign ?_
  simp only [qz]
  refine rg_nil (ek_next (wk_cond_f rfl (wk_skip (ek_block (ek_next (wk_seq ?_))))))
  obtain rfl : N = M := by omega
  have hvv : (validB N xs && validB N ys) = true := by rw [hv, hv2]; rfl
  obtain ⟨e1, e2⟩ := alk_ok hvv
  have hle1 : ys.length ≤ xs.length := by rw [hlx.out, hly.out]; exact Nat.le_refl _
  have hle2 : xs.length ≤ ys.length := by rw [hlx.out, hly.out]; exact Nat.le_refl _
  have hp1 : 0 < xs.length := by rw [hlx.out]; exact Nat.mul_pos Ox Ox
  replace e1 := Lib.hid e1
  replace e2 := Lib.hid e2
  replace hvv := Lib.hid hvv
  obtain ⟨b1, o1, ha, hlt1, hcell1⟩ := AS.openN hA hp1
  obtain ⟨b2, o2, hb, hlt2, hcell2⟩ := AS.openN hB Ox
  subst ha hb
  refine wk_region [0, 0, 1, 1, 0, 1, 0] rfl Kx ?_
  simp only [qy]
  refine rf_field (n := 0) (j := 0) rfl rfl rfl Try.underlying24 rfl Kx rfl ?_
  simp only [qz]
  refine rf_load rfl rfl rfl Try.underlying3 rfl (fun w hw => (Kn.hd0 (Kn.tl hw)).at rfl) ?_
  simp only [qz]
  refine rg_makeMap kvI Rx Nz (fun bt => ?_)
  simp only [qz]
  refine rg_makeMap (kvE N) Rx Nz (fun be => ?_)
  simp only [qz]
  refine rf_build (cs := fun a => #[a.eval (.tmp 31), a.eval (.tmp 32), a.eval (.tmp 33)]) rfl rfl Kx ?_
  simp only [qz]
  refine rg_new (cs := #[.int .i64 N, .map (some bt), .map (some be)]) (ty := 117) Rx (fun w => ?_) Nz (fun gp => ?_)
  focus go_simp
  simp only [qz]
  refine rg_assign ?_
  simp only [qz]
  refine rg_nil (ek_next (wk_seq (wk_seq ?_)))
  refine wk_region [0, 0, 0, 0] rfl Kx ?_
  simp only [qy]
  refine rf_field (n := 0) (j := 1) rfl rfl rfl Try.underlying24 rfl Kx rfl ?_
  simp only [qz]
  refine rf_load rfl rfl rfl Try.underlying22 rfl (fun w hw => (Kn.hd0 (Kn.tl (Kn.tl (Kn.tl (Kn.tl hw))))).at rfl) ?_
  simp only [qz]
  refine rf_len rfl rfl rfl Try.underlying22 ?_
  simp only [qz]
  refine rg_move ?_
  simp only [qz]
  refine rg_nil (ek_next (wk_block ?_))
  refine wk_loopF [4, 5, 7, 8, 9, 10, 11, 39, 40, 41, 42, 43, 44, 45, 46, 47, 48, 49, 50, 51, 52, 53, 54, 55, 56, 57, 58, 59, 60, 61, 62, 63, 64, 65, 66, 67, 68, 69, 70, 71, 72, 73, 74, 75, 76, 77, 78, 79, 80, 81, 82] (fun mz f s => ∃ (i : Nat) (el : List (Nat × Nat × Nat)), f 39 = .int .i64 i ∧ s = ((gp, .cells #[.int .i64 N, .map (some bt), .map (some be)] 117) :: ((be, mapO (kvE N) el) :: ((bt, mapO kvI []) :: ((g2, .cells #[.int .i64 N, .slice (some ⟨b2, o2, none⟩) ys.length c'] 24) :: ((g1, .cells #[.int .i64 N, .slice (some ⟨b1, o1, none⟩) xs.length c] 24) :: []))))) ∧ mz = xs.length - i ∧ i ≤ xs.length ∧ Hid (EdgA N (edM N xs ys) el i)) ((fun (i : Nat) (el : List (Nat × Nat × Nat)) => xs.length - i) (0) ([])) ?_ Kx ?_
  ·exact ⟨0, [], rfl, rfl, rfl, by omega, (Lib.hid (edgA_start _ _))⟩
  rintro mz f1 s ⟨i, el, hs1_39, rfl, hn, hd1, hd2⟩
  simp only [Act.putF, List.foldl_cons, List.foldl_nil, hs1_39, Act.put, Act.eval, q1, q2, q3, q4, q5, q6, q7, q8, q9, q10, q11, q12, q13, q14, q15, q16, q17, q18, Nat.reduceAdd, Bool.not_true, Bool.not_false]
  clear hs1_39
  refine wk_seq ?_
  refine wk_region [0] rfl Kx ?_
  simp only [qy]
  refine rfb_lss rfl rfl rfl rfl ?_
  intro x h4
  cases x
  ·(try simp only [qd, ne_eq] at h4)
   simp only [qz]
   refine rg_nil (ek_next (wk_seq (wk_cond_f rfl (wk_exit (ek_then_exit (ek_then_exit (ek_block_exit (ek_next (wk_seq (wk_seq ?_))))))))))
   refine wk_region [0, 0, 0, 0] rfl Kx ?_
   simp only [qy]
   refine rf_field (n := 0) (j := 0) rfl rfl rfl Try.underlying24 rfl Kx rfl ?_
   simp only [qz]
   refine rf_load rfl rfl rfl Try.underlying3 rfl (fun w hw => (Kn.hd0 (Kn.tl (Kn.tl (Kn.tl (Kn.tl hw))))).at rfl) ?_
   simp only [qz]
   refine rf_mul rfl rfl rfl rfl (wrap_ok Ox Ox) ?_
   simp only [qz]
   refine rg_move ?_
   simp only [qz]
   refine rg_nil (ek_next (wk_block ?_))
   obtain rfl : i = xs.length := by omega
   have hLi : LisA N (edM N xs ys) el := EdgA.lis (by have h := hd2.out; rwa [hlx.out] at h)
   refine wk_loopF [4, 5, 12, 13, 14, 86, 87, 88, 89, 90, 91, 92, 93, 94, 95, 96, 97, 98, 99, 100, 101, 102, 103, 104, 105, 106] (fun mz f s => ∃ (k : Nat) (tm : List (Int × Int)), f 86 = .int .i64 k ∧ s = ((gp, .cells #[.int .i64 N, .map (some bt), .map (some be)] 117) :: ((be, mapO (kvE N) el) :: ((bt, mapO kvI tm) :: ((g2, .cells #[.int .i64 N, .slice (some ⟨b2, o2, none⟩) ys.length c'] 24) :: ((g1, .cells #[.int .i64 N, .slice (some ⟨b1, o1, none⟩) xs.length c] 24) :: []))))) ∧ mz = 2 * N - k ∧ k ≤ 2 * N ∧ Hid (CloA N (edM N xs ys) (toT tm)) ∧ KvA tm ∧ Hid (∀ u, u < k → 0 ≤ toT tm u)) ((fun (k : Nat) (tm : List (Int × Int)) => 2 * N - k) (0) ([])) ?_ Kx ?_
   ·exact ⟨0, [], rfl, rfl, rfl, by omega, (Lib.hid (cloA_start (fun _ _ => by show (-1 : Int) < 0; decide))), (fun q x h => by cases h), (Lib.hid (fun u hu => by omega))⟩
   rintro mz f2 s ⟨k, tm, hs2_86, rfl, hn, hf1, hf2, hf3, hf4⟩
   simp only [Act.putF, List.foldl_cons, List.foldl_nil, hs2_86, Act.put, Act.eval, q1, q2, q3, q4, q5, q6, q7, q8, q9, q10, q11, q12, q13, q14, q15, q16, q17, q18, Nat.reduceAdd, Bool.not_true, Bool.not_false]
   clear hs2_86
   refine wk_seq ?_
   refine wk_region [0] rfl Kx ?_
   simp only [qy]
   refine rfb_lss rfl rfl rfl rfl ?_
   intro x h5
   cases x
   ·(try simp only [qd, ne_eq] at h5)
    simp only [qz]
    refine rg_nil (ek_next (wk_seq (wk_cond_f rfl (wk_exit (ek_then_exit (ek_then_exit (ek_block_exit (ek_next (wk_seq ?_)))))))))
    refine wk_region [0, 0] rfl Kx ?_
    simp only [qy]
    refine rg_assign ?_
    simp only [qz]
    refine rg_assign ?_
    simp only [qz]
    refine rg_nil (ek_next (wk_ret ?_))
    refine ek_ret (fun w hw => ⟨rfl, _, res_tt _ _ rfl, ?_⟩)
    (try simp only [qz])
    have ha := alikeA_yes (clo_all hf2.out (fun u hu => hf4.out u Ox))
    exact ⟨by rw [e1.out, e2.out, ha], hw.below⟩
   (try simp only [qd, ne_eq] at h5)
   simp only [qz]
   refine rg_nil (ek_next (wk_seq (wk_cond_t rfl (wk_skip (ek_next (wk_seq (wk_block (wk_seq ?_))))))))
   refine wk_region [0, 0] rfl Kx ?_
   simp only [qy]
   refine rg_move ?_
   simp only [qz]
   refine rg_assign ?_
   simp only [qz]
   refine rg_nil (ek_next (wk_seq ?_))
   refine wk_region [0, 0, 0, 0, 0, 0, 0, 0, 0, 0, 0] rfl Kx ?_
   simp only [qy]
   refine rg_move ?_
   simp only [qz]
   apply rg_soft
   case hy => (intro w hw; go_simp; (try go_bits); exact Yld.mk _ _)
   simp only [qz]
   refine rf_field (n := 0) (j := 1) rfl rfl rfl Try.underlying117 rfl Kx rfl ?_
   simp only [qz]
   refine rf_load rfl rfl rfl Try.underlying114 rfl (fun w hw => (Kn.hd0 hw).at rfl) ?_
   simp only [qz]
   refine rg_move ?_
   simp only [qz]
   rcases hgi : getI tm (k : Int) with _ | v
   ·refine rg_lookup0 rfl rfl rfl rfl Try.underlying114 Try.underlying3 (fun w => by kernel_rfl) hgi (List.Mem.tail _ (List.Mem.tail _ (List.Mem.head _))) ?_
    simp only [qz]
    refine rg_move ?_
    simp only [qz]
    refine rf_extract rfl rfl rfl rfl ?_
    simp only [qz]
    refine rf_extract rfl rfl rfl rfl ?_
    simp only [qz]
    refine rg_assign ?_
    simp only [qz]
    refine rg_assign ?_
    simp only [qz]
    refine rg_nil (ek_next (wk_seq ?_))
    refine wk_region [0, 0, 0, 0, 0, 1, 0, 0] rfl Kx ?_
    simp only [qy]
    refine rg_move ?_
    simp only [qz]
    refine rf_not rfl rfl rfl ?_
    simp only [qz]
    refine rg_move ?_
    simp only [qz]
    apply rg_soft_g
    case hg => rfl
    case hy => (intro w hw; go_simp; (try go_bits); exact Yld.mk _ _)
    simp only [qz]
    apply rg_soft_g
    case hg => rfl
    case hy => (intro w hw; go_simp; (try go_bits); exact Yld.mk _ _)
    simp only [qz]
    refine rg_spread (N := N) (E := edM N xs ys) (L := el) (tl := tm) (nn := N) (args := #[.pointer (some ⟨gp, 0, none⟩), .int .i64 (k : Int), .int .i64 0]) Rx Kx (by simp only [qm, qs, Act.eval]) (perm_at (l := [_, _]) (List.Perm.refl _)) (fun w hK' => spread_any N hN (edM N xs ys) el hLi gp bt be N _ tm k 0 rfl Ox (by decide) (by decide) hf3 w hK') (fun bb tn hres hkn => ?_)
    cases bb
    ·simp only [Act.put, Act.eval, qn, qv, Nat.reduceAdd]
     refine rf_not rfl rfl rfl ?_
     simp only [qz]
     refine rf_pick rfl rfl rfl ?_
     simp only [qz]
     refine rg_nil (ek_next (wk_cond_t rfl (wk_seq ?_)))
     refine wk_region [0, 0] rfl Kx ?_
     simp only [qy]
     refine rg_assign ?_
     simp only [qz]
     refine rg_assign ?_
     simp only [qz]
     refine rg_nil (ek_next (wk_ret (ek_block_ret (ek_then_ret (ek_then_ret (ek_block_ret (ek_then_ret ?_)))))))
     refine ek_ret (fun w hw => ⟨rfl, _, res_tt _ _ rfl, ?_⟩)
     (try simp only [qz])
     have ha := SpF.no hres hf2.out Ox (by rw [toT_none hgi]; decide)
     exact ⟨by rw [e1.out, e2.out, ha], hw.below⟩
    simp only [Act.put, Act.eval, qn, qv, Nat.reduceAdd]
    refine rf_not rfl rfl rfl ?_
    simp only [qz]
    refine rf_pick rfl rfl rfl ?_
    simp only [qz]
    refine rg_nil (ek_next (wk_cond_f rfl (wk_skip (ek_block (ek_next ?_)))))
    refine wk_region [0, 0] rfl Kx ?_
    simp only [qy]
    refine rf_add rfl rfl rfl rfl (wrap_ok Ox Ox) ?_
    simp only [qz]
    refine rg_move ?_
    simp only [qz]
    refine rg_nil ?_
    refine ek_perm (perm_at (l := [_]) (perm_at (l := [_]) (List.Perm.refl _))) ?_
    refine ek_roundF (2 * N - (k + 1)) Ox Kx ?_
    exact ⟨k + 1, tn, rfl, by rfl, by rfl, Ox, (Lib.hid (SpT.clo hres hf2.out)), hkn, (Lib.hid (fun u hu => by rcases (by omega : u < k ∨ u = k) with h | rfl; rw [SpT.mono hres u Ox (hf4.out u h)]; exact hf4.out u h; rw [SpT.at' hres]; exact Int.le_refl _))⟩
   refine rg_lookup1 rfl rfl rfl rfl Try.underlying114 Try.underlying3 (fun w => by kernel_rfl) hgi (List.Mem.tail _ (List.Mem.tail _ (List.Mem.head _))) ?_
   simp only [qz]
   refine rg_move ?_
   simp only [qz]
   refine rf_extract rfl rfl rfl rfl ?_
   simp only [qz]
   refine rf_extract rfl rfl rfl rfl ?_
   simp only [qz]
   refine rg_assign ?_
   simp only [qz]
   refine rg_assign ?_
   simp only [qz]
   refine rg_nil (ek_next (wk_seq ?_))
   refine wk_region [0, 0, 0, 0, 0, 1, 0, 0] rfl Kx ?_
   simp only [qy]
   refine rg_move ?_
   simp only [qz]
   refine rf_not rfl rfl rfl ?_
   simp only [qz]
   refine rg_move ?_
   simp only [qz]
   refine rg_skip Rx ?_
   simp only [qz]
   refine rg_skip Rx ?_
   simp only [qz]
   refine rg_skip_h Rx Nz ?_
   simp only [qz]
   refine rg_skip Rx ?_
   simp only [qz]
   refine rf_pick rfl rfl rfl ?_
   simp only [qz]
   refine rg_nil (ek_next (wk_cond_f rfl (wk_skip (ek_block (ek_next ?_)))))
   refine wk_region [0, 0] rfl Kx ?_
   simp only [qy]
   refine rf_add rfl rfl rfl rfl (wrap_ok Ox Ox) ?_
   simp only [qz]
   refine rg_move ?_
   simp only [qz]
   refine rg_nil ?_
   refine ek_roundF (2 * N - (k + 1)) Ox Kx ?_
   exact ⟨k + 1, tm, rfl, by rfl, by rfl, Ox, hf2, hf3, (Lib.hid (fun u hu => by rcases (by omega : u < k ∨ u = k) with h | rfl; exact hf4.out u h; rw [toT_some hgi]; exact (hf3 _ _ hgi).1))⟩
  (try simp only [qd, ne_eq] at h4)
  simp only [qz]
  refine rg_nil (ek_next (wk_seq (wk_cond_t rfl (wk_skip (ek_next (wk_seq (wk_block (wk_seq ?_))))))))
  refine wk_region [0, 0, 0, 1, 0, 1] rfl Kx ?_
  simp only [qy]
  refine rg_move ?_
  simp only [qz]
  refine rf_indexS (n := i) (sz := 5) (j := o1 + i * 5) rfl rfl rfl rfl Try.underlying22 Kx Ox Ox rfl ?_
  simp only [qz]
  refine rf_loadC (n := 5) (vs := [.int .i64 (nm xs i).a, .int .i64 (nm xs i).b, .int .i64 (nm xs i).c, .int .i64 (nm xs i).d, .int .i64 (nm xs i).k]) rfl rfl rfl Try.underlying29 rfl Kx rfl (fun w hw => atN_range ((hcell1 i Ox).kn hw hlt1 (by simp))) ?_
  simp only [qz]
  refine Rgn fun g3 => ?_
  simp only [qz]
  refine rg_assign ?_
  simp only [qz]
  refine rf_storeR (n := 5) rfl rfl Kx rfl rfl (UpdR.here _ _ _ Nl) Nz ?_
  simp only [qz, Nat.reduceAdd]
  refine rg_nil (ek_next (wk_seq ?_))
  refine wk_region [0, 0, 0, 0, 0, 1, 1] rfl Kx ?_
  simp only [qy]
  refine rf_field (n := 0) (j := 1) rfl rfl rfl Try.underlying24 rfl Kx rfl ?_
  simp only [qz]
  refine rf_load rfl rfl rfl Try.underlying22 rfl (fun w hw => (Kn.hd0 (Kn.tl (Kn.tl (Kn.tl (Kn.tl hw))))).at rfl) ?_
  simp only [qz]
  refine rg_move ?_
  simp only [qz]
  refine rf_indexS (n := i) (sz := 5) (j := o2 + i * 5) rfl rfl rfl rfl Try.underlying22 Kx Ox Ox rfl ?_
  simp only [qz]
  refine rf_loadC (n := 5) (vs := [.int .i64 (nm ys i).a, .int .i64 (nm ys i).b, .int .i64 (nm ys i).c, .int .i64 (nm ys i).d, .int .i64 (nm ys i).k]) rfl rfl rfl Try.underlying29 rfl Kx rfl (fun w hw => atN_range ((hcell2 i Ox).kn hw hlt2 (by simp))) ?_
  simp only [qz]
  refine Rgn fun g4 => ?_
  simp only [qz]
  refine rf_storeR (n := 5) rfl rfl Kx rfl rfl (UpdR.here _ _ _ Nl) Nz ?_
  simp only [qz, Nat.reduceAdd]
  refine rg_nil (ek_next (wk_seq (wk_seq ?_)))
  refine wk_region [0, 0, 0, 0, 0, 0, 0, 0] rfl Kx ?_
  simp only [qy]
  refine rf_loadR (n := 5) rfl rfl rfl Try.underlying29 rfl Kx (fun w hw => Kn.hd0 (Kn.tl hw)) rfl rfl ?_
  simp only [qz]
  refine rf_build (cs := fun a => #[.int .i64 0, .int .i64 0, .int .i64 0, .int .i64 0, .int .i64 0]) rfl rfl Kx ?_
  simp only [qz]
  refine rfb_eqN (nm xs i) (Nm.zero) rfl rfl rfl rfl ?_
  intro x h6
  cases x
  ·(try simp only [qd, ne_eq] at h6)
   simp only [qz]
   refine rg_move ?_
   simp only [qz]
   refine rg_skip Rx ?_
   simp only [qz]
   refine rg_skip Rx ?_
   simp only [qz]
   refine rg_skip Rx ?_
   simp only [qz]
   refine rf_pick rfl rfl rfl ?_
   simp only [qz]
   refine rg_nil (ek_next (wk_cond_f rfl (wk_skip (ek_next (wk_seq ?_)))))
   refine wk_region [0, 0, 1, 0, 0, 0, 0, 0] rfl Kx ?_
   simp only [qy]
   refine rf_loadR (n := 5) rfl rfl rfl Try.underlying29 rfl Kx (fun w hw => Kn.hd0 (Kn.tl hw)) rfl rfl ?_
   simp only [qz]
   refine rf_loadR (n := 5) rfl rfl rfl Try.underlying29 rfl Kx (fun w hw => Kn.hd0 hw) rfl rfl ?_
   simp only [qz]
   have hnz : NotZ (nm xs i) (nm ys i) := (fun h => h6 h.1)
   rcases hbw : btw (nm xs i) (nm ys i) with _ | et
   ·apply rg_pure Rx Kx
    case hargs => exact Ax
    case h => exact fun w hw => between_none (nm xs i) (nm ys i) (ok_at hox Ox) hnz hbw w
    case hz => exact Nz
    simp only [qz]
    refine rg_move ?_
    simp only [qz]
    refine rf_extract rfl rfl rfl rfl ?_
    simp only [qz]
    refine rf_extract rfl rfl rfl rfl ?_
    simp only [qz]
    refine rg_assign ?_
    simp only [qz]
    refine rg_assign ?_
    simp only [qz]
    refine rg_nil (ek_next (wk_seq (wk_seq ?_)))
    refine wk_region [0, 0] rfl Kx ?_
    simp only [qy]
    refine rg_move ?_
    simp only [qz]
    refine rf_not rfl rfl rfl ?_
    simp only [qz]
    refine rg_nil (ek_next (wk_cond_t rfl (wk_seq ?_)))
    refine wk_region [0, 0] rfl Kx ?_
    simp only [qy]
    refine rg_assign ?_
    simp only [qz]
    refine rg_assign ?_
    simp only [qz]
    refine rg_nil (ek_next (wk_ret (ek_then_ret (ek_block_ret (ek_then_ret (ek_then_ret (ek_block_ret (ek_then_ret ?_))))))))
    refine ek_ret (fun w hw => ⟨rfl, _, res_tt _ _ rfl, ?_⟩)
    (try simp only [qz])
    have ha := none_no (Nat.div_lt_of_lt_mul (by have := hlx.out; omega)) (Nat.mod_lt _ Ox) (edM_s (N := N) hnz hbw)
    exact ⟨by rw [e1.out, e2.out, ha], hw.below⟩
   apply rg_pure Rx Kx
   case hargs => exact Ax
   case h => exact fun w hw => between_yes (nm xs i) (nm ys i) (ok_at hox Ox) hnz et hbw w
   case hz => exact Nz
   simp only [qz]
   refine rg_move ?_
   simp only [qz]
   refine rf_extract rfl rfl rfl rfl ?_
   simp only [qz]
   refine rf_extract rfl rfl rfl rfl ?_
   simp only [qz]
   refine rg_assign ?_
   simp only [qz]
   refine rg_assign ?_
   simp only [qz]
   refine rg_nil (ek_next (wk_seq (wk_seq ?_)))
   refine wk_region [0, 0] rfl Kx ?_
   simp only [qy]
   refine rg_move ?_
   simp only [qz]
   refine rf_not rfl rfl rfl ?_
   simp only [qz]
   refine rg_nil (ek_next (wk_cond_f rfl (wk_skip (ek_next ?_))))
   have hmod : i % N < N := Nat.mod_lt _ Ox
   have hdiv : i / N < N := Nat.div_lt_of_lt_mul (by have := hlx.out; omega)
   refine wk_drawsT_m (hz1 := (sc _ (sc _ (sc _ (sk _ (sc _ (sc _ (sc _ sn)))))))) [(0, 0), (1, 0), (2, 0), (3, 0), (4, 0), (5, 0), (6, 0), (7, 0), (8, 0), (9, 0), (10, 0), (11, 0), (12, 0), (13, 0), (14, 0), (15, 0), (16, 0), (17, 2)] 17 Kx Kx (fun c d v a w h => by cases d <;> exact h) ?_
   simp only [List.map_cons, List.map_nil, List.getD_cons_zero, List.getD_cons_succ]
   refine rg_move ?_
   simp only [qz]
   apply rg_soft
   case hy => (intro w hw; go_simp; (try go_bits); exact Yld.mk _ _)
   simp only [qz]
   refine rf_field (n := 0) (j := 2) rfl rfl rfl Try.underlying117 rfl Kx rfl ?_
   simp only [qz]
   refine rf_load rfl rfl rfl Try.underlying115 rfl (fun w hw => (Kn.hd0 (Kn.tl (Kn.tl hw))).at rfl) ?_
   simp only [qz]
   refine rg_move ?_
   simp only [qz]
   refine rf_field (n := 0) (j := 0) rfl rfl rfl Try.underlying24 rfl Kx rfl ?_
   simp only [qz]
   refine rf_load rfl rfl rfl Try.underlying3 rfl (fun w hw => (Kn.hd0 (Kn.tl (Kn.tl (Kn.tl (Kn.tl (Kn.tl (Kn.tl hw))))))).at rfl) ?_
   simp only [qz]
   refine rf_quo (r := ((i / N : Nat) : Int)) rfl rfl rfl rfl Ox (quo_n Ox) ?_
   simp only [qz]
   refine rf_field (n := 0) (j := 0) rfl rfl rfl Try.underlying24 rfl Kx rfl ?_
   simp only [qz]
   refine rf_load rfl rfl rfl Try.underlying3 rfl (fun w hw => (Kn.hd0 (Kn.tl (Kn.tl (Kn.tl (Kn.tl (Kn.tl (Kn.tl hw))))))).at rfl) ?_
   simp only [qz]
   refine rg_move ?_
   simp only [qz]
   refine rf_field (n := 0) (j := 0) rfl rfl rfl Try.underlying24 rfl Kx rfl ?_
   simp only [qz]
   refine rf_load rfl rfl rfl Try.underlying3 rfl (fun w hw => (Kn.hd0 (Kn.tl (Kn.tl (Kn.tl (Kn.tl (Kn.tl (Kn.tl hw))))))).at rfl) ?_
   simp only [qz]
   refine rf_rem (r := ((i % N : Nat) : Int)) rfl rfl rfl rfl Ox rem_n ?_
   simp only [qz]
   refine rf_add rfl rfl rfl rfl (wrap_ok Ox Ox) ?_
   simp only [qz]
   refine rf_build (cs := fun a => #[a.eval (.tmp 72), a.eval (.tmp 79)]) rfl rfl Kx ?_
   simp only [qz]
   refine rg_move ?_
   simp only [qz]
   refine rg_updateEM (N := N) (i := i / N) (k := i % N) (e := et) (xs := el) rfl rfl rfl rfl Ox (hd2.out.fresh (Nat.div_add_mod' i N).symm) (Rep.there _ (Rep.there _ (Rep.there _ (Rep.here _)))) (sc _ (sc _ (sc _ (sk _ (sc _ (sc _ (sc _ sn))))))) ?_
   simp only [qz]
   refine rg_nil (ek_block (ek_next ?_))
   refine wk_region [0, 0] rfl Kx ?_
   simp only [qy]
   refine rf_add rfl rfl rfl rfl (wrap_ok Ox Ox) ?_
   simp only [qz]
   refine rg_move ?_
   simp only [qz]
   refine rg_nil ?_
   refine ek_sub (sk _ (sk _ (sc _ (sc _ (sc _ (sc _ (sc _ sn))))))) ?_
   refine ek_roundF (xs.length - (i + 1)) Ox Kx ?_
   exact ⟨i + 1, el ++ [(i / N, i % N, et)], rfl, by rfl, by rfl, Ox, (Lib.hid (hd2.out.push hdiv (Nat.mod_lt _ Ox) (btw_lt hbw) (Nat.div_add_mod' i N).symm (edM_s (fun h => h6 h.1) hbw)))⟩
  (try simp only [qd, ne_eq] at h6)
  simp only [qz]
  refine rg_move ?_
  simp only [qz]
  refine rf_loadR (n := 5) rfl rfl rfl Try.underlying29 rfl Kx (fun w hw => Kn.hd0 hw) rfl rfl ?_
  simp only [qz]
  refine rf_loadR (n := 5) rfl rfl rfl Try.underlying29 rfl Kx (fun w hw => Kn.hd0 (Kn.tl hw)) rfl rfl ?_
  simp only [qz]
  refine rfb_eqN (nm ys i) (nm xs i) rfl rfl rfl rfl ?_
  intro x h7
  cases x
  ·(try simp only [qd, ne_eq] at h7)
   simp only [qz]
   refine rf_pick rfl rfl rfl ?_
   simp only [qz]
   refine rg_nil (ek_next (wk_cond_f rfl (wk_skip (ek_next (wk_seq ?_)))))
   refine wk_region [0, 0, 1, 0, 0, 0, 0, 0] rfl Kx ?_
   simp only [qy]
   refine rf_loadR (n := 5) rfl rfl rfl Try.underlying29 rfl Kx (fun w hw => Kn.hd0 (Kn.tl hw)) rfl rfl ?_
   simp only [qz]
   refine rf_loadR (n := 5) rfl rfl rfl Try.underlying29 rfl Kx (fun w hw => Kn.hd0 hw) rfl rfl ?_
   simp only [qz]
   have hnz : NotZ (nm xs i) (nm ys i) := (fun h => h7 (h.2.trans h.1.symm))
   rcases hbw : btw (nm xs i) (nm ys i) with _ | et
   ·apply rg_pure Rx Kx
    case hargs => exact Ax
    case h => exact fun w hw => between_none (nm xs i) (nm ys i) (ok_at hox Ox) hnz hbw w
    case hz => exact Nz
    simp only [qz]
    refine rg_move ?_
    simp only [qz]
    refine rf_extract rfl rfl rfl rfl ?_
    simp only [qz]
    refine rf_extract rfl rfl rfl rfl ?_
    simp only [qz]
    refine rg_assign ?_
    simp only [qz]
    refine rg_assign ?_
    simp only [qz]
    refine rg_nil (ek_next (wk_seq (wk_seq ?_)))
    refine wk_region [0, 0] rfl Kx ?_
    simp only [qy]
    refine rg_move ?_
    simp only [qz]
    refine rf_not rfl rfl rfl ?_
    simp only [qz]
    refine rg_nil (ek_next (wk_cond_t rfl (wk_seq ?_)))
    refine wk_region [0, 0] rfl Kx ?_
    simp only [qy]
    refine rg_assign ?_
    simp only [qz]
    refine rg_assign ?_
    simp only [qz]
    refine rg_nil (ek_next (wk_ret (ek_then_ret (ek_block_ret (ek_then_ret (ek_then_ret (ek_block_ret (ek_then_ret ?_))))))))
    refine ek_ret (fun w hw => ⟨rfl, _, res_tt _ _ rfl, ?_⟩)
    (try simp only [qz])
    have ha := none_no (Nat.div_lt_of_lt_mul (by have := hlx.out; omega)) (Nat.mod_lt _ Ox) (edM_s (N := N) hnz hbw)
    exact ⟨by rw [e1.out, e2.out, ha], hw.below⟩
   apply rg_pure Rx Kx
   case hargs => exact Ax
   case h => exact fun w hw => between_yes (nm xs i) (nm ys i) (ok_at hox Ox) hnz et hbw w
   case hz => exact Nz
   simp only [qz]
   refine rg_move ?_
   simp only [qz]
   refine rf_extract rfl rfl rfl rfl ?_
   simp only [qz]
   refine rf_extract rfl rfl rfl rfl ?_
   simp only [qz]
   refine rg_assign ?_
   simp only [qz]
   refine rg_assign ?_
   simp only [qz]
   refine rg_nil (ek_next (wk_seq (wk_seq ?_)))
   refine wk_region [0, 0] rfl Kx ?_
   simp only [qy]
   refine rg_move ?_
   simp only [qz]
   refine rf_not rfl rfl rfl ?_
   simp only [qz]
   refine rg_nil (ek_next (wk_cond_f rfl (wk_skip (ek_next ?_))))
   have hmod : i % N < N := Nat.mod_lt _ Ox
   have hdiv : i / N < N := Nat.div_lt_of_lt_mul (by have := hlx.out; omega)
   refine wk_drawsT_m (hz1 := (sc _ (sc _ (sc _ (sk _ (sc _ (sc _ (sc _ sn)))))))) [(0, 0), (1, 0), (2, 0), (3, 0), (4, 0), (5, 0), (6, 0), (7, 0), (8, 0), (9, 0), (10, 0), (11, 0), (12, 0), (13, 0), (14, 0), (15, 0), (16, 0), (17, 2)] 17 Kx Kx (fun c d v a w h => by cases d <;> exact h) ?_
   simp only [List.map_cons, List.map_nil, List.getD_cons_zero, List.getD_cons_succ]
   refine rg_move ?_
   simp only [qz]
   apply rg_soft
   case hy => (intro w hw; go_simp; (try go_bits); exact Yld.mk _ _)
   simp only [qz]
   refine rf_field (n := 0) (j := 2) rfl rfl rfl Try.underlying117 rfl Kx rfl ?_
   simp only [qz]
   refine rf_load rfl rfl rfl Try.underlying115 rfl (fun w hw => (Kn.hd0 (Kn.tl (Kn.tl hw))).at rfl) ?_
   simp only [qz]
   refine rg_move ?_
   simp only [qz]
   refine rf_field (n := 0) (j := 0) rfl rfl rfl Try.underlying24 rfl Kx rfl ?_
   simp only [qz]
   refine rf_load rfl rfl rfl Try.underlying3 rfl (fun w hw => (Kn.hd0 (Kn.tl (Kn.tl (Kn.tl (Kn.tl (Kn.tl (Kn.tl hw))))))).at rfl) ?_
   simp only [qz]
   refine rf_quo (r := ((i / N : Nat) : Int)) rfl rfl rfl rfl Ox (quo_n Ox) ?_
   simp only [qz]
   refine rf_field (n := 0) (j := 0) rfl rfl rfl Try.underlying24 rfl Kx rfl ?_
   simp only [qz]
   refine rf_load rfl rfl rfl Try.underlying3 rfl (fun w hw => (Kn.hd0 (Kn.tl (Kn.tl (Kn.tl (Kn.tl (Kn.tl (Kn.tl hw))))))).at rfl) ?_
   simp only [qz]
   refine rg_move ?_
   simp only [qz]
   refine rf_field (n := 0) (j := 0) rfl rfl rfl Try.underlying24 rfl Kx rfl ?_
   simp only [qz]
   refine rf_load rfl rfl rfl Try.underlying3 rfl (fun w hw => (Kn.hd0 (Kn.tl (Kn.tl (Kn.tl (Kn.tl (Kn.tl (Kn.tl hw))))))).at rfl) ?_
   simp only [qz]
   refine rf_rem (r := ((i % N : Nat) : Int)) rfl rfl rfl rfl Ox rem_n ?_
   simp only [qz]
   refine rf_add rfl rfl rfl rfl (wrap_ok Ox Ox) ?_
   simp only [qz]
   refine rf_build (cs := fun a => #[a.eval (.tmp 72), a.eval (.tmp 79)]) rfl rfl Kx ?_
   simp only [qz]
   refine rg_move ?_
   simp only [qz]
   refine rg_updateEM (N := N) (i := i / N) (k := i % N) (e := et) (xs := el) rfl rfl rfl rfl Ox (hd2.out.fresh (Nat.div_add_mod' i N).symm) (Rep.there _ (Rep.there _ (Rep.there _ (Rep.here _)))) (sc _ (sc _ (sc _ (sk _ (sc _ (sc _ (sc _ sn))))))) ?_
   simp only [qz]
   refine rg_nil (ek_block (ek_next ?_))
   refine wk_region [0, 0] rfl Kx ?_
   simp only [qy]
   refine rf_add rfl rfl rfl rfl (wrap_ok Ox Ox) ?_
   simp only [qz]
   refine rg_move ?_
   simp only [qz]
   refine rg_nil ?_
   refine ek_sub (sk _ (sk _ (sc _ (sc _ (sc _ (sc _ (sc _ sn))))))) ?_
   refine ek_roundF (xs.length - (i + 1)) Ox Kx ?_
   exact ⟨i + 1, el ++ [(i / N, i % N, et)], rfl, by rfl, by rfl, Ox, (Lib.hid (hd2.out.push hdiv (Nat.mod_lt _ Ox) (btw_lt hbw) (Nat.div_add_mod' i N).symm (edM_s (fun h => h7 (h.2.trans h.1.symm)) hbw)))⟩
  (try simp only [qd, ne_eq] at h7)
  simp only [qz]
  refine rf_pick rfl rfl rfl ?_
  simp only [qz]
  refine rg_nil (ek_next (wk_cond_t rfl (wk_exit (ek_then_exit (ek_block_exit (ek_next ?_))))))
  refine wk_region [0, 0] rfl Kx ?_
  simp only [qy]
  refine rf_add rfl rfl rfl rfl (wrap_ok Ox Ox) ?_
  simp only [qz]
  refine rg_move ?_
  simp only [qz]
  refine rg_nil ?_
  refine ek_sub (sk _ (sk _ (sc _ (sc _ (sc _ (sc _ (sc _ sn))))))) ?_
  refine ek_roundF (xs.length - (i + 1)) Ox Kx ?_
  exact ⟨i + 1, el, rfl, by rfl, by rfl, Ox, (Lib.hid (hd2.out.none (Nat.mod_lt _ Ox) (Nat.div_add_mod' i N).symm (edM_z h6 h7)))⟩
 (try simp only [qd, ne_eq] at h3)
 simp only [qz]
 refine rg_assign ?_
 simp only [qz]
 refine rg_nil (ek_next (wk_cond_t rfl (wk_seq ?_)))
 refine wk_region [0, 0] rfl Kx ?_
 simp only [qy]
 refine rg_assign ?_
 simp only [qz]
 refine rg_assign ?_
 simp only [qz]
 refine rg_nil (ek_next (wk_ret (ek_block_ret (ek_then_ret ?_))))
 refine ek_ret (fun w hw => ⟨rfl, _, res_tt _ _ rfl, ?_⟩)
 (try simp only [qz])
 obtain ⟨e1, e2⟩ := alk_size (n := (N : Int)) (m := (M : Int)) (xs := xs) (ys := ys) (by rw [hv, hv2]; rfl) Ox
 exact ⟨by rw [e1, e2], hw.below⟩
structure W6 where
  w0 : Int
  w1 : Int
  w2 : Int
  w3 : Int
  w4 : Int
  w5 : Int
deriving DecidableEq, Inhabited
def W6.val (x : W6) : Int := x.w0 + 18446744073709551616 * (x.w1 + 18446744073709551616 * (x.w2 + 18446744073709551616 * (x.w3 + 18446744073709551616 * (x.w4 + 18446744073709551616 * x.w5))))
structure W6.Wf (x : W6) : Prop where
  a0 : 0 ≤ x.w0
  b0 : x.w0 < 18446744073709551616
  a1 : 0 ≤ x.w1
  b1 : x.w1 < 18446744073709551616
  a2 : 0 ≤ x.w2
  b2 : x.w2 < 18446744073709551616
  a3 : 0 ≤ x.w3
  b3 : x.w3 < 18446744073709551616
  a4 : 0 ≤ x.w4
  b4 : x.w4 < 18446744073709551616
  a5 : 0 ≤ x.w5
  b5 : x.w5 < 18446744073709551616
def W6.of (n : Int) : W6 := ⟨n % 18446744073709551616, n / 18446744073709551616 % 18446744073709551616, n / 18446744073709551616 / 18446744073709551616 % 18446744073709551616, n / 18446744073709551616 / 18446744073709551616 / 18446744073709551616 % 18446744073709551616, n / 18446744073709551616 / 18446744073709551616 / 18446744073709551616 / 18446744073709551616 % 18446744073709551616, n / 18446744073709551616 / 18446744073709551616 / 18446744073709551616 / 18446744073709551616 / 18446744073709551616 % 18446744073709551616⟩
theorem W6.of_wf (n : Int) : (W6.of n).Wf := ⟨by simp only [W6.of]; omega, by simp only [W6.of]; omega, by simp only [W6.of]; omega, by simp only [W6.of]; omega, by simp only [W6.of]; omega, by simp only [W6.of]; omega, by simp only [W6.of]; omega, by simp only [W6.of]; omega, by simp only [W6.of]; omega, by simp only [W6.of]; omega, by simp only [W6.of]; omega, by simp only [W6.of]; omega⟩
theorem W6.of_val (n : Int) : (W6.of n).val = n - 39402006196394479212279040100143613805079739270465446667948293404245721771497210611414266254884915640806627990306816 * (n / 18446744073709551616 / 18446744073709551616 / 18446744073709551616 / 18446744073709551616 / 18446744073709551616 / 18446744073709551616) := by simp only [W6.val, W6.of]; omega
theorem W6.ext' {x y : W6} (hx : x.Wf) (hy : y.Wf) (h : x.val = y.val) : x = y := by
 obtain ⟨a0, a1, a2, a3, a4, a5⟩ := x
 obtain ⟨b0, b1, b2, b3, b4, b5⟩ := y
 obtain ⟨h1, h2, h3, h4, h5, h6, h7, h8, h9, h10, h11, h12⟩ := hx
 obtain ⟨k1, k2, k3, k4, k5, k6, k7, k8, k9, k10, k11, k12⟩ := hy
 simp only [W6.val] at *
 congr 1 <;> omega
theorem W6.val_range {x : W6} (hx : x.Wf) : 0 ≤ x.val ∧ x.val < 39402006196394479212279040100143613805079739270465446667948293404245721771497210611414266254884915640806627990306816 := by
 obtain ⟨h1, h2, h3, h4, h5, h6, h7, h8, h9, h10, h11, h12⟩ := hx
 simp only [W6.val]
 omega
theorem W6.of_eq {x : W6} {n : Int} (hx : x.Wf) (q : Int) (h : x.val = n + 39402006196394479212279040100143613805079739270465446667948293404245721771497210611414266254884915640806627990306816 * q) : x = W6.of n := by
 refine W6.ext' hx (W6.of_wf n) ?_
 have h1 := W6.val_range hx
 have h2 := W6.val_range (W6.of_wf n)
 rw [W6.of_val] at h2 ⊢
 omega
def In384 (n : Int) : Prop := -19701003098197239606139520050071806902539869635232723333974146702122860885748605305707133127442457820403313995153408 ≤ n ∧ n < 19701003098197239606139520050071806902539869635232723333974146702122860885748605305707133127442457820403313995153408
theorem W6.of_inj {m n : Int} (hm : In384 m) (hn : In384 n) (h : W6.of m = W6.of n) : m = n := by
 have h1 := W6.of_val m
 have h2 := W6.of_val n
 rw [h] at h1
 unfold In384 at hm hn
 omega
theorem W6.of_whole {n : Int} (h0 : -9223372036854775808 ≤ n) (h1 : n < 9223372036854775808) : W6.of n = ⟨n % 18446744073709551616, (if n < 0 then 18446744073709551615 else 0), (if n < 0 then 18446744073709551615 else 0), (if n < 0 then 18446744073709551615 else 0), (if n < 0 then 18446744073709551615 else 0), (if n < 0 then 18446744073709551615 else 0)⟩ := by
 simp only [W6.of]
 split <;> congr 1 <;> omega
theorem W6.add_eq {m n : Int} {s0 s1 s2 s3 s4 s5 c0 c1 c2 c3 c4 c5 : Int} (hw : (⟨s0, s1, s2, s3, s4, s5⟩ : W6).Wf)
    (h0 : s0 + 18446744073709551616 * c0 = (W6.of m).w0 + (W6.of n).w0) (h1 : s1 + 18446744073709551616 * c1 = (W6.of m).w1 + (W6.of n).w1 + c0) (h2 : s2 + 18446744073709551616 * c2 = (W6.of m).w2 + (W6.of n).w2 + c1)
    (h3 : s3 + 18446744073709551616 * c3 = (W6.of m).w3 + (W6.of n).w3 + c2) (h4 : s4 + 18446744073709551616 * c4 = (W6.of m).w4 + (W6.of n).w4 + c3) (h5 : s5 + 18446744073709551616 * c5 = (W6.of m).w5 + (W6.of n).w5 + c4) :
    (⟨s0, s1, s2, s3, s4, s5⟩ : W6) = W6.of (m + n) := by
  have e1 := W6.of_val m
  have e2 := W6.of_val n
  refine W6.of_eq hw (-(m / 18446744073709551616 / 18446744073709551616 / 18446744073709551616 / 18446744073709551616 / 18446744073709551616 / 18446744073709551616) - (n / 18446744073709551616 / 18446744073709551616 / 18446744073709551616 / 18446744073709551616 / 18446744073709551616 / 18446744073709551616) - c5) ?_
  generalize (m / 18446744073709551616 / 18446744073709551616 / 18446744073709551616 / 18446744073709551616 / 18446744073709551616 / 18446744073709551616) = p at *
  generalize (n / 18446744073709551616 / 18446744073709551616 / 18446744073709551616 / 18446744073709551616 / 18446744073709551616 / 18446744073709551616) = q at *
  generalize W6.of m = x at *
  generalize W6.of n = y at *
  simp only [W6.val] at *
  omega
theorem W6.neg_eq {m : Int} {s0 s1 s2 s3 s4 s5 c0 c1 c2 c3 c4 c5 : Int} (hw : (⟨s0, s1, s2, s3, s4, s5⟩ : W6).Wf)
    (h0 : s0 = 18446744073709551616 * c0 - (W6.of m).w0) (h1 : s1 = 18446744073709551616 * c1 - (W6.of m).w1 - c0) (h2 : s2 = 18446744073709551616 * c2 - (W6.of m).w2 - c1)
    (h3 : s3 = 18446744073709551616 * c3 - (W6.of m).w3 - c2) (h4 : s4 = 18446744073709551616 * c4 - (W6.of m).w4 - c3) (h5 : s5 = 18446744073709551616 * c5 - (W6.of m).w5 - c4) :
    (⟨s0, s1, s2, s3, s4, s5⟩ : W6) = W6.of (-m) := by
  have e1 := W6.of_val m
  refine W6.of_eq hw ((m / 18446744073709551616 / 18446744073709551616 / 18446744073709551616 / 18446744073709551616 / 18446744073709551616 / 18446744073709551616) + c5) ?_
  generalize (m / 18446744073709551616 / 18446744073709551616 / 18446744073709551616 / 18446744073709551616 / 18446744073709551616 / 18446744073709551616) = p at *
  generalize W6.of m = x at *
  simp only [W6.val] at *
  omega
theorem W6.times_eq {m n : Int} {s0 s1 s2 s3 s4 s5 c0 c1 c2 c3 c4 c5 : Int} (hw : (⟨s0, s1, s2, s3, s4, s5⟩ : W6).Wf)
    (h0 : s0 + 18446744073709551616 * c0 = (W6.of m).w0 * n) (h1 : s1 + 18446744073709551616 * c1 = (W6.of m).w1 * n + c0) (h2 : s2 + 18446744073709551616 * c2 = (W6.of m).w2 * n + c1)
    (h3 : s3 + 18446744073709551616 * c3 = (W6.of m).w3 * n + c2) (h4 : s4 + 18446744073709551616 * c4 = (W6.of m).w4 * n + c3) (h5 : s5 + 18446744073709551616 * c5 = (W6.of m).w5 * n + c4) :
    (⟨s0, s1, s2, s3, s4, s5⟩ : W6) = W6.of (m * n) := by
  have e1 := W6.of_val m
  refine W6.of_eq hw (-(m / 18446744073709551616 / 18446744073709551616 / 18446744073709551616 / 18446744073709551616 / 18446744073709551616 / 18446744073709551616) * n - c5) ?_
  generalize (m / 18446744073709551616 / 18446744073709551616 / 18446744073709551616 / 18446744073709551616 / 18446744073709551616 / 18446744073709551616) = p at *
  generalize W6.of m = x at *
  simp only [W6.val] at *
  grind
theorem W6.half_eq {m : Int} (hm : In384 m) (he : m % 2 = 0) :
    (⟨(W6.of m).w0 / 2 + (W6.of m).w1 % 2 * 9223372036854775808, (W6.of m).w1 / 2 + (W6.of m).w2 % 2 * 9223372036854775808, (W6.of m).w2 / 2 + (W6.of m).w3 % 2 * 9223372036854775808,
      (W6.of m).w3 / 2 + (W6.of m).w4 % 2 * 9223372036854775808, (W6.of m).w4 / 2 + (W6.of m).w5 % 2 * 9223372036854775808, (W6.of m).w5 / 2 + (W6.of m).w5 / 9223372036854775808 * 9223372036854775808⟩ : W6) = W6.of (m / 2) := by
  have e1 := W6.of_val m
  have hw := W6.of_wf m
  have h0 : (W6.of m).w0 % 2 = 0 := by simp only [W6.of]; omega
  unfold In384 at hm
  have hp : (m / 18446744073709551616 / 18446744073709551616 / 18446744073709551616 / 18446744073709551616 / 18446744073709551616 / 18446744073709551616) = if m < 0 then -1 else 0 := by split <;> omega
  rw [hp] at e1
  clear hp
  generalize W6.of m = x at e1 h0 hw ⊢
  obtain ⟨x0, x1, x2, x3, x4, x5⟩ := x
  obtain ⟨h1, h2, h3, h4, h5, h6, h7, h8, h9, h10, h11, h12⟩ := hw
  simp only [W6.val] at *
  have t0 : x5 / 9223372036854775808 = if m < 0 then 1 else 0 := by split at e1 <;> split <;> omega
  rw [t0]
  refine W6.of_eq ⟨by dsimp only; omega, by dsimp only; omega, by dsimp only; omega, by dsimp only; omega, by dsimp only; omega, by dsimp only; omega, by dsimp only; omega, by dsimp only; omega, by dsimp only; omega, by dsimp only; omega, by dsimp only; split <;> omega, by dsimp only; split at e1 <;> split <;> omega⟩ (if m < 0 then 1 else 0) ?_
  simp only [W6.val]
  split at e1 <;> split <;> omega
theorem W6.odd_eq (m : Int) : (W6.of m).w0 % 2 = m % 2 := by simp only [W6.of]; omega
theorem run_Add64 (x y c s r : Int) (hx : 0 ≤ x) (hy : 0 ≤ y) (hc0 : 0 ≤ c) (hc : c ≤ 1) (hs : (x + y + c) % 18446744073709551616 = s) (hr : (x + y + c) / 18446744073709551616 = r) (w : World) :
    (callFunc 150 #[.int .u64 x, .int .u64 y, .int .u64 c]).run Try.prog w = .ok (.value (.tuple #[.int .u64 s, .int .u64 r])) w := by
  rw [run_callFunc_extern Try.func150 Kx Kx Kx (e := add64Entry) Kx, run_add64 x y c hx hy hc0 hc, hs, hr]
  rfl
theorem run_Sub64 (x y b s r : Nat) (hb : b ≤ 1) (hs : (x + 18446744073709551616 - y - b) % 18446744073709551616 = s) (hr : (if x < y + b then 1 else 0) = r) (w : World) :
    (callFunc 155 #[.int .u64 x, .int .u64 y, .int .u64 b]).run Try.prog w = .ok (.value (.tuple #[.int .u64 s, .int .u64 r])) w := by
  rw [run_callFunc_extern Try.func155 Kx Kx Kx (e := sub64Entry) Kx, run_sub64 x y b hb, hs, hr]
  rfl
theorem run_Sub64I (x y b s r : Int) (x0 : 0 ≤ x) (y0 : 0 ≤ y) (y1 : y < 18446744073709551616) (b0 : 0 ≤ b) (hb : b ≤ 1) (hs : (x + 18446744073709551616 - y - b) % 18446744073709551616 = s) (hr : (if x < y + b then 1 else 0) = r) (w : World) :
    (callFunc 155 #[.int .u64 x, .int .u64 y, .int .u64 b]).run Try.prog w = .ok (.value (.tuple #[.int .u64 s, .int .u64 r])) w := by
  obtain ⟨x, rfl⟩ := Int.eq_ofNat_of_zero_le x0
  obtain ⟨y, rfl⟩ := Int.eq_ofNat_of_zero_le y0
  obtain ⟨b, rfl⟩ := Int.eq_ofNat_of_zero_le b0
  have h := run_Sub64 x y b _ _ Ox rfl rfl w
  have e1 : (((x + 18446744073709551616 - y - b) % 18446744073709551616 : Nat) : Int) = s := by rw [← hs]; omega
  have e2 : (((if x < y + b then 1 else 0 : Nat)) : Int) = r := by rw [← hr]; split <;> split <;> omega
  rw [e1, e2] at h
  exact h
set_option maxHeartbeats 1000000
def sel4 {α : Type} (a b c d : α) : Nat → α
  | 0 => a
  | 1 => b
  | 2 => c
  | _ => d
def upd {α : Type} (T : Nat → α) (j : Nat) (t : α) : Nat → α := fun m => if m = j then t else T m
theorem upd_same {α : Type} (T : Nat → α) (j : Nat) (t : α) : upd T j t j = t := if_pos rfl
theorem upd_other {α : Type} (T : Nat → α) {j m : Nat} (t : α) (h : m ≠ j) : upd T j t m = T m := if_neg h
theorem lt4 {m : Nat} (h : m < 4) : m = 0 ∨ m = 1 ∨ m = 2 ∨ m = 3 := by omega
def acc (X Y : Nat → Int) : Nat → Nat → Int
  | 0, _ => 0
  | n + 1, m => if m = (n / 4 + n % 4) % 4 then acc X Y n m + (if 4 ≤ n / 4 + n % 4 then -(X (n / 4) * Y (n % 4)) else X (n / 4) * Y (n % 4)) else acc X Y n m
theorem acc_bound {X Y : Nat → Int} {M : Int} (h0 : 0 ≤ M) (h : ∀ i k, i < 4 → k < 4 → -M ≤ X i * Y k ∧ X i * Y k ≤ M) : ∀ n m, n ≤ 16 → -(n * M) ≤ acc X Y n m ∧ acc X Y n m ≤ n * M
  | 0, m, _ => by simp [acc]
  | n + 1, m, hn => by
    have ih := acc_bound h0 h n m (by omega)
    have hb := h (n / 4) (n % 4) (by omega) (by omega)
    have e : ((n + 1 : Nat) : Int) * M = n * M + M := by rw [Int.natCast_add, Int.add_mul]; simp
    rw [e]
    simp only [acc]
    split
    · split <;> omega
    · omega
theorem acc_16 (x y : Nm) : (⟨acc (sel4 x.a x.b x.c x.d) (sel4 y.a y.b y.c y.d) 16 0, acc (sel4 x.a x.b x.c x.d) (sel4 y.a y.b y.c y.d) 16 1, acc (sel4 x.a x.b x.c x.d) (sel4 y.a y.b y.c y.d) 16 2, acc (sel4 x.a x.b x.c x.d) (sel4 y.a y.b y.c y.d) 16 3, x.k + y.k⟩ : Nm) = x.mulR y := by
 unfold Nm.mulR
 congr 1 <;> simp [acc, sel4] <;> omega
theorem acc_step {X Y T : Nat → Int} {i k : Nat} (hk : k < 4) (h : acc X Y (i * 4 + k) = T) : acc X Y (i * 4 + (k + 1)) = upd T ((i + k) % 4) (T ((i + k) % 4) + (if 4 ≤ i + k then -(X i * Y k) else X i * Y k)) := by
 funext m
 have e1 : (i * 4 + k) / 4 = i := by omega
 have e2 : (i * 4 + k) % 4 = k := by omega
 rw [show i * 4 + (k + 1) = i * 4 + k + 1 by omega]
 simp only [acc]
 rw [e1, e2, h]
 unfold upd
 split
 ·next hm => rw [hm]
 ·rfl
theorem sel_cases {p : Nat → Prop} (h0 : p 0) (h1 : p 1) (h2 : p 2) (h3 : p 3) : ∀ m, m < 4 → p m := fun m hm => by
  rcases lt4 hm with rfl | rfl | rfl | rfl <;> assumption
def smB (n : Int) : Bool := decide (-1000000000 ≤ n) && decide (n ≤ 1000000000)
def numOk (y : Nm) : Bool := smB y.a && (smB y.b && (smB y.c && smB y.d))
def wnum (z : Nm) : Nm × Bool := if numOk z.nf = true then (z.nf, decide (z.nf.k ≤ 40)) else (Nm.zero, false)
theorem wnum_numV {z : Nm} : numV z.mk' = if (wnum z).2 = true then .tuple #[nmV (wnum z).1, .int .i64 0] else .tuple #[nmV Nm.zero, .int .i64 4] := by
 have hs : z.nf.small = (decide (z.nf.k ≤ 40) && numOk z.nf) := by
  rw [Bool.eq_iff_iff, small_iff]
  simp only [numOk, smB, Bool.and_eq_true, decide_eq_true_eq]
  constructor
  ·rintro ⟨h, h1, h2, h3, h4, h5, h6, h7, h8⟩
   exact ⟨h, ⟨h1, h2⟩, ⟨h3, h4⟩, ⟨h5, h6⟩, h7, h8⟩
  ·rintro ⟨h, ⟨h1, h2⟩, ⟨h3, h4⟩, ⟨h5, h6⟩, h7, h8⟩
   exact ⟨h, h1, h2, h3, h4, h5, h6, h7, h8⟩
 unfold Nm.mk' wnum
 rw [hs]
 cases numOk z.nf with
 | false => simp [numV]
 | true =>
  by_cases h : z.nf.k ≤ 40
  ·simp [h, numV]
  ·simp [h, numV]
section
variable {R : Option Nat} {P : Program} {ops : Array Oper} {Q : Exit → Act → World → Prop} {B : World} {F : List Nat} {s0 : Option (List Blk × List Blk)}
variable {l : List (Oper × Nat)} {a : Act} {s s' : List Blk} {d : Option Tmp} {op : Op} {t : TypeId} {p : String} {af : Array Edge} {v : Value} {gd : Option (Nat × Bool)} {m : Nat}
theorem run_isAgg {T : TypeId} {dd : TypeDesc} (hu : P.underlying T = some dd) (w : World) : (isAgg T).run P w = .ok (isRow dd) w := by
 unfold isAgg
 rw [Sem.run_bind, run_underlying hu w]
 cases dd <;> simp_all [isRow]
theorem rf_idxR {T : Nat} {x y : Operand} {n len e sz : Nat} {cs : Array Value} {k : IntKind} {dd : TypeDesc} (hm : soft03 m = true) (hg : Region.wanted ⟨d, .index T x y, t, p, af, gd⟩ (yielded ops a.tmps) = true)
    (hx : a.eval x = .agg cs) (hy : a.eval y = .int k (n : Int)) (hu : P.underlying T = some (.array len e)) (he : P.underlying e = some dd) (hr : isRow dd = true) (hs : (P.info? e).map (·.size) = some sz) (hn : n < len)
    {vs : Array Value} (hv : cs.extract (n * sz) (n * sz + sz) = vs) (h : Rg R P ops Q B F s0 l (a.put d (.agg vs)) s) : Rg R P ops Q B F s0 ((⟨d, .index T x y, t, p, af, gd⟩, m) :: l) a s := by
  subst hv
  refine rg_any hm hg (fun w => ?_) h
  unfold Yld
  cases hq : P.info? e with
  | none => simp [hq] at hs
  | some q =>
    have hs' : q.size = sz := by simpa [hq] using hs
    have ha := run_isAgg he w
    rw [hr] at ha
    simp [execOp, hx, hy, Instr.index, run_underlying hu, asIntOf, part, ha, sizeOf, typeInfo, hq, hs', hn]
theorem rf_idx1 {T : Nat} {x y : Operand} {n len e : Nat} {cs : Array Value} {k : IntKind} {dd : TypeDesc} (hm : soft03 m = true) (hg : Region.wanted ⟨d, .index T x y, t, p, af, gd⟩ (yielded ops a.tmps) = true)
    (hx : a.eval x = .agg cs) (hy : a.eval y = .int k (n : Int)) (hu : P.underlying T = some (.array len e)) (he : P.underlying e = some dd) (hr : isRow dd = false) (hs : (P.info? e).map (·.size) = some 1) (hn : n < len)
    (hv : cs[n]? = some v) (h : Rg R P ops Q B F s0 l (a.put d v) s) : Rg R P ops Q B F s0 ((⟨d, .index T x y, t, p, af, gd⟩, m) :: l) a s := by
  refine rg_any hm hg (fun w => ?_) h
  unfold Yld
  cases hq : P.info? e with
  | none => simp [hq] at hs
  | some q =>
    have hs' : q.size = 1 := by simpa [hq] using hs
    have ha := run_isAgg he w
    rw [hr] at ha
    simp [execOp, hx, hy, Instr.index, run_underlying hu, asIntOf, part, ha, sizeOf, typeInfo, hq, hs', hn, hv]
end
set_option maxHeartbeats 1000000
def pk {α : Type} : List α → (α → List α → Q4) → Q4
  | [], _ => 0
  | x :: t, F => F x t + pk t fun y r => F y (x :: r)
section
variable {α β : Type}
theorem pk_congr' : ∀ (l : List α) {F G : α → List α → Q4}, (∀ x r, (x :: r).Perm l → F x r = G x r) → pk l F = pk l G
  | [], _, _, _ => rfl
  | x :: t, F, G, h => by
    unfold pk
    rw [h x t (List.Perm.refl _), pk_congr' t fun y r hp => h y (x :: r) ((List.Perm.swap x y r).trans (hp.cons x))]
theorem pk_congr (l : List α) {F G : α → List α → Q4} (h : ∀ x r, F x r = G x r) : pk l F = pk l G := pk_congr' l fun x r _ => h x r
theorem add4 (a b c d : Q4) : a + b + (c + d) = a + c + (b + d) := by
 rw [Q4.add_assoc, Q4.add_assoc, ← Q4.add_assoc b c d, Q4.add_comm b c, Q4.add_assoc c b d]
theorem pk_add : ∀ (l : List α) (F G : α → List α → Q4), pk l (fun x r => F x r + G x r) = pk l F + pk l G
  | [], _, _ => (Q4.add_zero 0).symm
  | x :: t, F, G => by
    unfold pk
    rw [pk_add t, add4]
theorem pk_mul (c : Q4) : ∀ (l : List α) (F : α → List α → Q4), pk l (fun x r => c * F x r) = c * pk l F
  | [], _ => (Q4.mul_zero c).symm
  | x :: t, F => by
    unfold pk
    rw [pk_mul c t, Q4.mul_add]
theorem pk_mulr (c : Q4) (l : List α) (F : α → List α → Q4) : pk l (fun x r => F x r * c) = pk l F * c := by
 rw [Q4.mul_comm, ← pk_mul]
 exact pk_congr l fun x r => Q4.mul_comm _ _
theorem pk_zero : ∀ (l : List α), pk l (fun _ _ => 0) = 0
  | [] => rfl
  | x :: t => by
    unfold pk
    rw [pk_zero t, Q4.add_zero]
theorem pk_comm (m : List β) : ∀ (l : List α) (f : α → List α → β → List β → Q4), pk l (fun x r => pk m fun y q => f x r y q) = pk m fun y q => pk l fun x r => f x r y q
  | [], _ => (pk_zero m).symm
  | x :: t, f => by
    show (pk m fun y q => f x t y q) + pk t (fun z r => pk m fun y q => f z (x :: r) y q) = pk m fun y q => f x t y q + pk t fun z r => f z (x :: r) y q
    rw [pk_comm m t, ← pk_add]
theorem pk_swap : ∀ (l : List α) (f : α → α → List α → Q4), pk l (fun x r => pk r fun y q => f x y q) = pk l fun x r => pk r fun y q => f y x q
  | [], _ => rfl
  | x :: t, f => by
    have h := pk_swap t fun y z q => f y z (x :: q)
    show pk t (fun y q => f x y q) + pk t (fun y r => f y x r + pk r fun z q => f y z (x :: q)) = pk t (fun y q => f y x q) + pk t (fun y r => f x y r + pk r fun z q => f z y (x :: q))
    rw [pk_add, pk_add, h, ← Q4.add_assoc, ← Q4.add_assoc, Q4.add_comm (pk t fun y q => f x y q)]
theorem pk_perm {l l' : List α} (h : l.Perm l') : ∀ {F : α → List α → Q4}, (∀ x r r', r.Perm r' → F x r = F x r') → pk l F = pk l' F := by
 induction h with
 | nil => intro F _; rfl
 | cons x h ih =>
  intro F hF
  unfold pk
  rw [hF x _ _ h, ih fun y r r' hr => hF y _ _ (hr.cons x)]
 | swap x y t =>
  intro F hF
  show F y (x :: t) + (F x (y :: t) + pk t fun z r => F z (y :: x :: r)) = F x (y :: t) + (F y (x :: t) + pk t fun z r => F z (x :: y :: r))
  rw [← Q4.add_assoc, ← Q4.add_assoc, Q4.add_comm (F y (x :: t)), pk_congr t fun z r => hF z _ _ (List.Perm.swap x y r)]
 | trans _ _ ih1 ih2 => intro F hF; rw [ih1 hF, ih2 hF]
def pm (a : α → β → Q4) : List α → List β → Q4
  | [], _ => 1
  | r :: R, l => pk l fun x q => a r x * pm a R q
theorem pm_last (a : α → β → Q4) (r : α) : ∀ (R : List α) (l : List β), pm a (R ++ [r]) l = pk l fun x q => pm a R q * a r x
  | [], l => by
    show pk l (fun x q => a r x * 1) = pk l fun x q => 1 * a r x
    exact pk_congr l fun x q => Q4.mul_comm _ _
  | s :: R, l => by
    show pk l (fun x q => a s x * pm a (R ++ [r]) q) = pk l fun x q => (pk q fun y p => a s y * pm a R p) * a r x
    have h1 : pk l (fun x q => a s x * pm a (R ++ [r]) q) = pk l fun x q => pk q fun y p => a s x * pm a R p * a r y :=
      pk_congr l fun x q => by
        rw [pm_last a r R q, ← pk_mul]
        exact pk_congr q fun y p => (Q4.mul_assoc _ _ _).symm
    have h2 : pk l (fun x q => (pk q fun y p => a s y * pm a R p) * a r x) = pk l fun x q => pk q fun y p => a s y * pm a R p * a r x :=
      pk_congr l fun x q => (pk_mulr _ q _).symm
    rw [h1, h2]
    exact pk_swap l fun x y p => a s x * pm a R p * a r y
theorem pm_cols (a : α → β → Q4) : ∀ (R : List α) {l l' : List β}, l.Perm l' → pm a R l = pm a R l'
  | [], _, _, _ => rfl
  | r :: R, l, l', h => pk_perm h fun x q q' hq => by rw [pm_cols a R hq]
theorem pm_col (a : α → β → Q4) : ∀ (R : List α) (x : β) (C : List β), R.length = C.length + 1 → pm a R (x :: C) = pk R fun r S => a r x * pm a S C
  | [], _, _, h => by simp at h
  | r :: R, x, C, h => by
    have hl : R.length = C.length := by simpa using h
    show a r x * pm a R C + pk C (fun y q => a r y * pm a R (x :: q)) = a r x * pm a R C + pk R fun s S => a s x * pk C fun y q => a r y * pm a S q
    have h1 : pk C (fun y q => a r y * pm a R (x :: q)) = pk C fun y q => pk R fun s S => a r y * (a s x * pm a S q) :=
      pk_congr' C fun y q hp => by
        have := hp.length_eq
        rw [pm_col a R x q (by simp at this; omega), ← pk_mul]
    have h2 : pk R (fun s S => a s x * pk C fun y q => a r y * pm a S q) = pk R fun s S => pk C fun y q => a r y * (a s x * pm a S q) :=
      pk_congr R fun s S => by
        rw [← pk_mul]
        exact pk_congr C fun y q => by rw [← Q4.mul_assoc, ← Q4.mul_assoc, Q4.mul_comm (a s x)]
    rw [h1, h2, pk_comm]
theorem pm_T (a : α → β → Q4) : ∀ (l : List β) (R : List α), R.length = l.length → pm a R l = pm (fun y x => a x y) l R
  | [], R, h => by
    obtain rfl : R = [] := List.length_eq_zero_iff.1 h
    rfl
  | x :: C, R, h => by
    rw [pm_col a R x C (by simpa using h)]
    exact pk_congr' R fun r S hp => by
      have := hp.length_eq
      rw [pm_T a C S (by simp at this h; omega)]
theorem pm_congr {a b : α → β → Q4} : ∀ (R : List α) (l : List β), (∀ r ∈ R, ∀ x ∈ l, a r x = b r x) → pm a R l = pm b R l
  | [], _, _ => rfl
  | r :: R, l, h => pk_congr' l fun x q hp => by
    rw [h r (by simp) x (hp.mem_iff.1 (by simp)), pm_congr R q fun s hs y hy => h s (by simp [hs]) y (hp.mem_iff.1 (by simp [hy]))]
theorem pm_map {γ δ : Type} (a : α → β → Q4) (f : γ → α) (g : δ → β) : ∀ (R : List γ) (l : List δ), pm a (R.map f) (l.map g) = pm (fun r x => a (f r) (g x)) R l
  | [], _ => rfl
  | r :: R, l => by
    have key : ∀ (l : List δ) (F : β → List β → Q4), pk (l.map g) F = pk l fun x q => F (g x) (q.map g) := by
      intro l
      induction l with
      | nil => intro F; rfl
      | cons x t ih =>
        intro F
        show F (g x) (t.map g) + pk (t.map g) (fun y r => F y (g x :: r)) = F (g x) (t.map g) + pk t fun y r => F (g y) ((x :: r).map g)
        rw [ih]
        rfl
    show pk (l.map g) (fun x q => a (f r) x * pm a (R.map f) q) = pk l fun x q => a (f r) (g x) * pm (fun r x => a (f r) (g x)) R q
    rw [key]
    exact pk_congr l fun x q => by rw [pm_map a f g R q]
end
def slQ {α : Type} : List α → (α → Q4) → Q4
  | [], _ => 0
  | x :: t, f => f x + slQ t f
section
variable {α : Type}
theorem slQ_app (f : α → Q4) : ∀ (l m : List α), slQ (l ++ m) f = slQ l f + slQ m f
  | [], m => (Q4.zero_add _).symm
  | x :: t, m => by
    show f x + slQ (t ++ m) f = f x + slQ t f + slQ m f
    rw [slQ_app f t m, Q4.add_assoc]
theorem slQ_congr {f g : α → Q4} : ∀ (l : List α), (∀ x ∈ l, f x = g x) → slQ l f = slQ l g
  | [], _ => rfl
  | x :: t, h => by
    show f x + slQ t f = g x + slQ t g
    rw [h x (by simp), slQ_congr t fun y hy => h y (by simp [hy])]
end
theorem slQ_range (f : Nat → Q4) : ∀ n, slQ (List.range n) f = sumQ n f
  | 0 => rfl
  | n + 1 => by
    rw [List.range_succ, slQ_app, slQ_range f n]
    show sumQ n f + (f n + 0) = sumQ n f + f n
    rw [Q4.add_zero]
theorem pk_filter {α : Type} [DecidableEq α] (p : α → Bool) : ∀ (l : List α) (F : α → List α → Q4), l.Nodup → pk (l.filter p) F = slQ l fun k => if p k then F k (l.filter fun j => p j && decide (j ≠ k)) else 0
  | [], _, _ => rfl
  | x :: t, F, h => by
    have hx : x ∉ t := (List.nodup_cons.1 h).1
    have ht := (List.nodup_cons.1 h).2
    have e : (t.filter fun j => p j && decide (j ≠ x)) = t.filter p := List.filter_congr fun j hj => by
      have : j ≠ x := fun e => hx (e ▸ hj)
      simp [this]
    show _ = (if p x then F x ((x :: t).filter fun j => p j && decide (j ≠ x)) else 0) + slQ t _
    by_cases hp : p x = true
    · rw [List.filter_cons_of_pos hp, if_pos hp]
      have e0 : ((x :: t).filter fun j => p j && decide (j ≠ x)) = t.filter p := by rw [List.filter_cons_of_neg (by simp), e]
      rw [e0]
      show F x (t.filter p) + pk (t.filter p) (fun y r => F y (x :: r)) = _
      rw [pk_filter p t _ ht]
      congr 1
      refine slQ_congr t fun k hk => ?_
      have : x ≠ k := fun e => hx (e ▸ hk)
      rw [List.filter_cons_of_pos (by simp [hp, this])]
    · rw [List.filter_cons_of_neg hp, if_neg hp, pk_filter p t _ ht, Q4.zero_add]
      refine slQ_congr t fun k hk => ?_
      rw [List.filter_cons_of_neg (by simp [hp])]
def wyQ (a : Nat → Nat → Q4) (n : Nat) : Nat → Nat → Q4
  | 0, _ => 1
  | c + 1, S => sumQ n fun k => if S.testBit k then wyQ a n c (S - 2 ^ k) * a c k else 0
def colsOf (n S : Nat) : List Nat := (List.range n).filter fun k => S.testBit k
theorem bit_out : ∀ S, S < 64 → ∀ k, k < 6 → S.testBit k = true → S - 2 ^ k < 64 ∧ ∀ j, j < 6 → (S - 2 ^ k).testBit j = (S.testBit j && decide (j ≠ k)) := by decide
theorem wyQ_pm (a : Nat → Nat → Q4) {n : Nat} (hn : n ≤ 6) : ∀ c S, S < 64 → wyQ a n c S = pm a (List.range c) (colsOf n S)
  | 0, _, _ => rfl
  | c + 1, S, hS => by
    rw [List.range_succ, pm_last]
    unfold colsOf
    rw [pk_filter _ _ _ List.nodup_range, slQ_range]
    show sumQ n _ = sumQ n _
    have key : ∀ m, m ≤ n → sumQ m (fun k => if S.testBit k then wyQ a n c (S - 2 ^ k) * a c k else 0) = sumQ m fun k => if S.testBit k then pm a (List.range c) ((List.range n).filter fun j => S.testBit j && decide (j ≠ k)) * a c k else 0 := by
      intro m
      induction m with
      | zero => intro _; rfl
      | succ m ih =>
        intro hm
        show sumQ m _ + _ = sumQ m _ + _
        rw [ih (by omega)]
        congr 1
        dsimp only
        by_cases hb : S.testBit m = true
        · rw [if_pos hb, if_pos hb]
          obtain ⟨h1, h2⟩ := bit_out S hS m (by omega) hb
          rw [wyQ_pm a hn c _ h1]
          congr 2
          exact List.filter_congr fun j hj => h2 j (by have := List.mem_range.1 hj; omega)
        · rw [if_neg hb, if_neg hb]
    exact key n (Nat.le_refl _)
theorem cols_full : ∀ n, n ≤ 6 → colsOf n (2 ^ n - 1) = List.range n := by decide
theorem wyQ_full (a : Nat → Nat → Q4) {n : Nat} (hn : n ≤ 6) : wyQ a n n (2 ^ n - 1) = pm a (List.range n) (List.range n) := by
 have h : 2 ^ n - 1 < 64 := by
  have : n = 0 ∨ n = 1 ∨ n = 2 ∨ n = 3 ∨ n = 4 ∨ n = 5 ∨ n = 6 := by omega
  rcases this with rfl | rfl | rfl | rfl | rfl | rfl | rfl <;> decide
 rw [wyQ_pm a hn n _ h, cols_full n hn]
section
variable {α β : Type}
end
def Nm.pl (x y : Nm) : Nm := ⟨x.a + y.a, x.b + y.b, x.c + y.c, x.d + y.d, x.k⟩
theorem tr_down {B : Int} {z : Nm} (h : z.tr.Fit B) : z.Fit B := by
 obtain ⟨a0, a1, b0, b1, c0, c1, d0, d1⟩ := h
 simp only [Nm.tr] at *
 exact ⟨by omega, by omega, by omega, by omega, by omega, by omega, by omega, by omega⟩
theorem up_down {B : Int} : ∀ (n : Nat) {z : Nm}, (Nm.up n z).Fit B → z.Fit B
  | 0, _, h => h
  | n + 1, z, h => tr_down (up_down n (z := z.tr) h)
theorem mul_bd {x y A B : Int} (hx : -A ≤ x) (hx' : x ≤ A) (hy : -B ≤ y) (hy' : y ≤ B) : -(A * B) ≤ x * y ∧ x * y ≤ A * B := by
 have h1 : x.natAbs ≤ A.toNat := by omega
 have h2 : y.natAbs ≤ B.toNat := by omega
 have h3 := Nat.mul_le_mul h1 h2
 rw [← Int.natAbs_mul] at h3
 have h4 : ((A.toNat * B.toNat : Nat) : Int) = A * B := by
  rw [Int.natCast_mul, Int.toNat_of_nonneg (by omega), Int.toNat_of_nonneg (by omega)]
 omega
theorem mulR_fitG {A B : Int} {x y : Nm} (hx : x.Fit A) (hy : y.Fit B) : (x.mulR y).Fit (4 * (A * B)) := by
 obtain ⟨a0, a1, b0, b1, c0, c1, d0, d1⟩ := hx
 obtain ⟨a0', a1', b0', b1', c0', c1', d0', d1'⟩ := hy
 have p1 := mul_bd a0 a1 a0' a1'; have p2 := mul_bd a0 a1 b0' b1'; have p3 := mul_bd a0 a1 c0' c1'; have p4 := mul_bd a0 a1 d0' d1'
 have q1 := mul_bd b0 b1 a0' a1'; have q2 := mul_bd b0 b1 b0' b1'; have q3 := mul_bd b0 b1 c0' c1'; have q4 := mul_bd b0 b1 d0' d1'
 have r1 := mul_bd c0 c1 a0' a1'; have r2 := mul_bd c0 c1 b0' b1'; have r3 := mul_bd c0 c1 c0' c1'; have r4 := mul_bd c0 c1 d0' d1'
 have s1 := mul_bd d0 d1 a0' a1'; have s2 := mul_bd d0 d1 b0' b1'; have s3 := mul_bd d0 d1 c0' c1'; have s4 := mul_bd d0 d1 d0' d1'
 generalize A * B = M at *
 unfold Nm.mulR
 exact ⟨by dsimp only; omega, by dsimp only; omega, by dsimp only; omega, by dsimp only; omega, by dsimp only; omega, by dsimp only; omega, by dsimp only; omega, by dsimp only; omega⟩
theorem mulR_tl (x y : Nm) : x.tr.mulR y = (x.mulR y).tr := by
 unfold Nm.mulR Nm.tr
 congr 1 <;> grind
theorem mulR_tr (x y : Nm) : x.mulR y.tr = (x.mulR y).tr := by
 unfold Nm.mulR Nm.tr
 congr 1 <;> grind
theorem mulR_ul : ∀ (n : Nat) (x y : Nm), (Nm.up n x).mulR y = Nm.up n (x.mulR y)
  | 0, _, _ => rfl
  | n + 1, x, y => by
    show (Nm.up n x.tr).mulR y = Nm.up n (x.mulR y).tr
    rw [mulR_ul n, mulR_tl]
theorem mulR_ur : ∀ (n : Nat) (x y : Nm), x.mulR (Nm.up n y) = Nm.up n (x.mulR y)
  | 0, _, _ => rfl
  | n + 1, x, y => by
    show x.mulR (Nm.up n y.tr) = Nm.up n (x.mulR y).tr
    rw [mulR_ur n, mulR_tr]
theorem mulR_to {x y : Nm} {m n : Int} (hx : x.k ≤ m) (hy : y.k ≤ n) : (x.to m).mulR (y.to n) = (x.mulR y).to (m + n) := by
 have e : (x.mulR y).k = x.k + y.k := rfl
 unfold Nm.to
 rw [mulR_ul, mulR_ur, Nm.up_add, e]
 congr 1
 omega
structure Bd (n : Nat) (M : Int) (z : Nm) : Prop where
  k0 : 0 ≤ z.k
  k1 : z.k ≤ 40 * n
  fit : (z.to (40 * n)).Fit M
theorem Bd.self {n : Nat} {M : Int} {z : Nm} (h : Bd n M z) : z.Fit M := up_down _ h.fit
theorem Bd.mul {n : Nat} {M : Int} {x z : Nm} (hx : x.Ok) (h : Bd n M z) : Bd (n + 1) (4503599627370496 * M) (x.mulR z) := by
 have hf : (x.to 40).Fit 1048576000000000 := by unfold Nm.to; exact Nm.up40_fit hx.fit (by have := hx.k0; omega)
 have h0 := hx.k0; have h1 := hx.k1; have h2 := h.k0; have h3 := h.k1
 have ek : (x.mulR z).k = x.k + z.k := rfl
 have e := mulR_to hx.k1 h.k1
 have e2 : (40 : Int) + 40 * n = 40 * ((n + 1 : Nat) : Int) := by simp only [Int.natCast_add]; omega
 rw [e2] at e
 have hM : 0 ≤ M := by have := h.fit.a0; have := h.fit.a1; omega
 refine ⟨by omega, by omega, ?_⟩
 rw [← e]
 exact Nm.fit_mono (mulR_fitG hf h.fit) (by omega)
theorem Bd.mono {n : Nat} {M M' : Int} {z : Nm} (h : Bd n M z) (hM : M ≤ M') : Bd n M' z := ⟨h.k0, h.k1, Nm.fit_mono h.fit hM⟩
def Sq (n : Nat) (l : List (List Nm)) : Prop := ∀ s ∈ l, s.length = n ∧ ∀ z ∈ s, z.Ok
theorem Sq.tail {n : Nat} {l : List (List Nm)} (h : Sq n l) : Sq n l.tail := fun s hs => h s (List.mem_of_mem_tail hs)
set_option maxHeartbeats 1000000
def sumS : Nat → (Nat → Nat → Int) → Nat → Int
  | 0, _ => fun _ => 0
  | m + 1, f => fun j => sumS m f j + f m j
def wyS (A : Nat → Nat → Nat → Int) (n : Nat) : Nat → Nat → Nat → Int
  | 0, _ => sel4 1 0 0 0
  | c + 1, S => sumS n fun k => if S.testBit k then acc (wyS A n c (S - 2 ^ k)) (A c k) 16 else fun _ => 0
def nmF (T : Nat → Int) (k : Int) : Nm := ⟨T 0, T 1, T 2, T 3, k⟩
def co4 (z : Nm) : Nat → Int := sel4 z.a z.b z.c z.d
theorem val_pl {x y : Nm} (h : x.k = y.k) : (x.pl y).val = x.val + y.val := by
 unfold Nm.val Nm.pl
 dsimp only
 rw [← h, ← Q4.dn_add]
 congr 1
 apply Q4.ext' <;> simp only [Nm.co, Q4.aa, Q4.ab, Q4.ac, Q4.ad, Rat.intCast_add]
theorem dh_zero' : Q4.dh 0 = 0 := by
 apply Q4.ext' <;> simp only [Q4.dh, Q4.za, Q4.zb, Q4.zc, Q4.zd] <;> grind
theorem dn_zero' : ∀ n, Q4.dn n 0 = 0
  | 0 => rfl
  | n + 1 => by
    show Q4.dn n (Q4.dh 0) = 0
    rw [dh_zero']; exact dn_zero' n
theorem nmF_zero (k : Int) : (nmF (fun _ => 0) k).val = 0 := dn_zero' _
theorem sumS_val (f : Nat → Nat → Int) (K : Int) : ∀ m, (nmF (sumS m f) K).val = sumQ m fun k => (nmF (f k) K).val
  | 0 => nmF_zero K
  | m + 1 => by
    show (Nm.pl (nmF (sumS m f) K) (nmF (f m) K)).val = sumQ m _ + _
    rw [val_pl (x := nmF (sumS m f) K) (y := nmF (f m) K) rfl, sumS_val f K m]
theorem acc_cong {X X' Y : Nat → Int} (h : ∀ i, i < 4 → X i = X' i) : ∀ n j, n ≤ 16 → acc X Y n j = acc X' Y n j
  | 0, _, _ => rfl
  | n + 1, j, hn => by
    unfold acc
    rw [acc_cong h n j (by omega), h (n / 4) (by omega)]
theorem acc_nm (T : Nat → Int) (k : Int) (z : Nm) : nmF (acc T (co4 z) 16) (k + z.k) = (nmF T k).mulR z := by
 have e := acc_16 (nmF T k) z
 have hT : ∀ i, i < 4 → T i = sel4 (nmF T k).a (nmF T k).b (nmF T k).c (nmF T k).d i := by
  intro i hi
  rcases (by omega : i = 0 ∨ i = 1 ∨ i = 2 ∨ i = 3) with rfl | rfl | rfl | rfl <;> rfl
 rw [← e]
 unfold nmF co4
 rw [acc_cong hT 16 0 (by omega), acc_cong hT 16 1 (by omega), acc_cong hT 16 2 (by omega), acc_cong hT 16 3 (by omega)]
 rfl
section
variable {a : Nat → Nat → Nm} {K : Int} {n : Nat}
theorem wyS_val (hn : n ≤ 6) (hK : 0 ≤ K) (h : ∀ i k, i < n → k < n → 0 ≤ (a i k).k ∧ (a i k).k ≤ K) : ∀ c S, c ≤ n → (nmF (wyS (fun i k => co4 ((a i k).to K)) n c S) (c * K)).val = wyQ (fun i k => (a i k).val) n c S
  | 0, S, _ => by
    show (nmF (sel4 1 0 0 0) (((0 : Nat) : Int) * K)).val = 1
    rw [show ((0 : Nat) : Int) * K = 0 by simp]
    exact val_one
  | c + 1, S, hc => by
    show (nmF (sumS n _) _).val = sumQ n _
    rw [sumS_val]
    refine sumQ_congr fun k hk => ?_
    by_cases hb : S.testBit k = true
    · rw [if_pos hb, if_pos hb]
      obtain ⟨h0, h1⟩ := h c k (by omega) hk
      have ek := Nm.to_k (z := a c k) (m := K) h1
      have e := acc_nm (wyS (fun i k => co4 ((a i k).to K)) n c (S - 2 ^ k)) (c * K) ((a c k).to K)
      rw [ek] at e
      have e2 : ((c + 1 : Nat) : Int) * K = c * K + K := by rw [Int.natCast_add, Int.add_mul]; simp
      have hcK : 0 ≤ (c : Int) * K := Int.mul_nonneg (by omega) hK
      rw [e2, e, val_mulR (by show 0 ≤ (c : Int) * K; exact hcK) (by omega), wyS_val hn hK h c _ (by omega), to_up h0]
    · rw [if_neg hb, if_neg hb]
      exact nmF_zero _
end
def Be : Nat → Int
  | 0 => 1
  | c + 1 => 144115188075855872 * Be c
theorem Be_pos : ∀ n, 1 ≤ Be n
  | 0 => by show (1 : Int) ≤ 1; omega
  | n + 1 => by have := Be_pos n; show 1 ≤ 144115188075855872 * Be n; omega
theorem sumS_bd (f : Nat → Nat → Int) {M : Int} (j : Nat) : ∀ m, (∀ k, k < m → -M ≤ f k j ∧ f k j ≤ M) → -(m * M) ≤ sumS m f j ∧ sumS m f j ≤ m * M
  | 0, _ => by show -(((0 : Nat) : Int) * M) ≤ 0 ∧ 0 ≤ ((0 : Nat) : Int) * M; omega
  | m + 1, h => by
    have ih := sumS_bd f j m fun k hk => h k (by omega)
    have h1 := h m (by omega)
    have e : ((m + 1 : Nat) : Int) * M = m * M + M := by rw [Int.natCast_add, Int.add_mul]; simp
    show -(((m + 1 : Nat) : Int) * M) ≤ sumS m f j + f m j ∧ sumS m f j + f m j ≤ ((m + 1 : Nat) : Int) * M
    omega
theorem wyS_bd {A : Nat → Nat → Nat → Int} {n : Nat} (hn : n ≤ 6) (hA : ∀ i k j, i < n → k < n → j < 4 → -1048576000000000 ≤ A i k j ∧ A i k j ≤ 1048576000000000) : ∀ c S j, c ≤ n → j < 4 → -(Be c) ≤ wyS A n c S j ∧ wyS A n c S j ≤ Be c
  | 0, S, j, _, hj => by
    show -(1 : Int) ≤ sel4 1 0 0 0 j ∧ sel4 1 0 0 0 j ≤ (1 : Int)
    rcases (by omega : j = 0 ∨ j = 1 ∨ j = 2 ∨ j = 3) with rfl | rfl | rfl | rfl <;> decide
  | c + 1, S, j, hc, hj => by
    have hB := Be_pos c
    have key : ∀ k, k < n → -(16 * (Be c * 1048576000000000)) ≤ (if S.testBit k then acc (wyS A n c (S - 2 ^ k)) (A c k) 16 else fun _ => 0) j ∧ (if S.testBit k then acc (wyS A n c (S - 2 ^ k)) (A c k) 16 else fun _ => 0) j ≤ 16 * (Be c * 1048576000000000) := by
      intro k hk
      split
      · have := acc_bound (X := wyS A n c (S - 2 ^ k)) (Y := A c k) (M := Be c * 1048576000000000) (by omega) (fun i l hi hl => by
          have h1 := wyS_bd hn hA c (S - 2 ^ k) i (by omega) hi
          have h2 := hA c k l (by omega) hk hl
          exact mul_bd h1.1 h1.2 h2.1 h2.2) 16 j (by omega)
        exact this
      · dsimp only; omega
    have := sumS_bd (M := 16 * (Be c * 1048576000000000)) _ j n key
    show -(144115188075855872 * Be c) ≤ sumS n _ j ∧ sumS n _ j ≤ 144115188075855872 * Be c
    have e := Int.mul_le_mul_of_nonneg_right (show (n : Int) ≤ 6 by omega) (show 0 ≤ 16 * (Be c * 1048576000000000) by omega)
    omega
section
variable {P : Program} {ops : Array Oper} {Q : Exit → Act → World → Prop} {B : World} {F : List Nat} {z : List Blk}
theorem rt_inv (J : Nat → Array Bool → Act → List Blk → Prop)
    (step : ∀ n listed a s, J (n + 1) listed a s → Region.ready .any ops listed ≠ [] ∧ ∀ i ∈ Region.ready .any ops listed, ∃ o, ops[i]? = some o ∧
      Rg none P ops (Exit.then (fun a' w' => ∃ s', Kn B F s' w' ∧ z.Sublist s' ∧ J n (listed.setIfInBounds i true) a' s') Q) B F (some (z, z)) [(o, 1)] a s)
    (fin : ∀ listed a s, J 0 listed a s → Region.ready .any ops listed = [] ∧ Ek B F Q .normal a s) : ∀ n listed a s, J n listed a s → RT P ops Q B F z n listed a s
  | 0, listed, a, s, h => fun w K => ⟨(fin listed a s h).1, (fin listed a s h).2 w K⟩
  | n + 1, listed, a, s, h => fun w K => by
    obtain ⟨hne, hst⟩ := step n listed a s h
    refine wpAnyH_all rfl hne fun i hi => ?_
    obtain ⟨o, ho, hr⟩ := hst i hi
    refine wpOp_of_list ho ?_
    rcases hr with hr | ⟨hn, _⟩
    · refine hop_list (hop_mono ?_ (hop_panic (Q1 := Exit.then (fun a' w' => ∃ s', Kn B F s' w' ∧ z.Sublist s' ∧ J n (listed.setIfInBounds i true) a' s') Q) (Q := Q) (fun c a w h => h) (fun ⟨a₀, w₀, h₀⟩ => ⟨a₀, w₀, h₀⟩) (hr w K)))
      rintro a' w' ⟨s', K', _, h'⟩
      obtain ⟨s2, K2, hz2, hJ⟩ := h' w' K'
      exact ⟨K2.sub hz2, rt_inv J step fin n _ a' s2 hJ w' K2⟩
    · cases hn
end
def b4 (b : Nat → Bool) : List Bool := [b 0, b 1, b 2, b 3]
def st4 (b0 b1 b2 b3 : Bool) (k : Nat) : Array Bool := #[true, true, true, true, true, true, true, true, b0, b1, b2, b3, decide (0 < k), decide (1 < k), decide (2 < k), decide (3 < k)]
def ok4 (ops : Array Oper) (b0 b1 b2 b3 : Bool) (k : Nat) : Bool :=
  let r := Region.ready .any ops (st4 b0 b1 b2 b3 k)
  (r.isEmpty == (b0 && b1 && b2 && b3 && k == 4)) && r.all fun i => (decide (8 ≤ i) && decide (i < 12) && !([b0, b1, b2, b3].getD (i - 8) true)) || (decide (i = 12 + k) && decide (k < 4) && [b0, b1, b2, b3].getD k false)
def bools : List Bool := [false, true]
def chk4 (ops : Array Oper) : Bool := bools.all fun b0 => bools.all fun b1 => bools.all fun b2 => bools.all fun b3 => [0, 1, 2, 3, 4].all fun k => !(([b0, b1, b2, b3].take k).all id) || ok4 ops b0 b1 b2 b3 k
theorem chk4_at {ops : Array Oper} (h : chk4 ops = true) (b0 b1 b2 b3 : Bool) {k : Nat} (hk : k ≤ 4) (hb : (([b0, b1, b2, b3].take k).all id) = true) : ok4 ops b0 b1 b2 b3 k = true := by
  unfold chk4 at h
  have mb : ∀ b : Bool, b ∈ bools := fun b => by cases b <;> simp [bools]
  have h1 := List.all_eq_true.1 h b0 (mb b0)
  have h2 := List.all_eq_true.1 h1 b1 (mb b1)
  have h3 := List.all_eq_true.1 h2 b2 (mb b2)
  have h4 := List.all_eq_true.1 h3 b3 (mb b3)
  have h5 := List.all_eq_true.1 h4 k (by have : k = 0 ∨ k = 1 ∨ k = 2 ∨ k = 3 ∨ k = 4 := by omega
                                         rcases this with rfl | rfl | rfl | rfl | rfl <;> simp)
  rw [hb] at h5
  simpa using h5
def put4 (a : Act) (v : Nat → Value) : Act := ⟨(((a.tmps.setIfInBounds 6 (v 0)).setIfInBounds 7 (v 1)).setIfInBounds 8 (v 2)).setIfInBounds 9 (v 3), a.defers⟩
theorem put4_put (a : Act) (v : Nat → Value) (x : Value) {j : Nat} (hj : j < 4) : (put4 a v).put (some (6 + j)) x = put4 a (upd v j x) := by
 unfold put4 Act.put
 dsimp only
 congr 1
 refine Array.ext_getElem? fun i => ?_
 rcases lt4 hj with rfl | rfl | rfl | rfl <;> simp only [Array.getElem?_setIfInBounds, Array.size_setIfInBounds, upd] <;>
  by_cases h6 : 6 = i <;> by_cases h7 : 7 = i <;> by_cases h8 : 8 = i <;> by_cases h9 : 9 = i <;> simp [h6, h7, h8, h9] <;> omega
theorem put4_t (a : Act) (v : Nat → Value) (h : 10 ≤ a.tmps.size) {j : Nat} (hj : j < 4) : (put4 a v).eval (.tmp (6 + j)) = v j := by
 unfold put4 Act.eval
 dsimp only
 have h6 : 6 < a.tmps.size := by omega
 have h7 : 7 < a.tmps.size := by omega
 have h8 : 8 < a.tmps.size := by omega
 have h9 : 9 < a.tmps.size := by omega
 rcases lt4 hj with rfl | rfl | rfl | rfl <;> simp [Array.getD_eq_getD_getElem?, Array.getElem?_setIfInBounds, h6, h7, h8, h9]
theorem put4_r (a : Act) (v : Nat → Value) {j : Nat} (hj : 10 ≤ j) : (put4 a v).eval (.tmp j) = a.eval (.tmp j) := by
 unfold put4 Act.eval
 dsimp only
 have h6 : 6 ≠ j := by omega
 have h7 : 7 ≠ j := by omega
 have h8 : 8 ≠ j := by omega
 have h9 : 9 ≠ j := by omega
 simp [Array.getD_eq_getD_getElem?, Array.getElem?_setIfInBounds, h6, h7, h8, h9]
def X4 (T : Nat) (z0 : Array Value) (c : Nat → List Value) (g : Nat → Nat) (b : Nat → Bool) (k j : Nat) : List Blk := if b j then [(g j, .cells (if j < k then (c j).toArray else z0) T)] else []
def cnt4 (b : Nat → Bool) : Nat := (if b 0 then 0 else 1) + (if b 1 then 0 else 1) + (if b 2 then 0 else 1) + (if b 3 then 0 else 1)
def L4 (X : Nat → List Blk) (s : List Blk) : List Blk := X 0 ++ (X 1 ++ (X 2 ++ (X 3 ++ s)))
theorem L4_add {X Y : Nat → List Blk} {x : Blk} {s : List Blk} {j : Nat} (hj : j < 4) (h0 : X j = []) (h1 : Y j = [x]) (h : ∀ i, i < 4 → i ≠ j → Y i = X i) : (x :: L4 X s).Perm (L4 Y s) := by
 unfold L4
 rcases lt4 hj with rfl | rfl | rfl | rfl
 ·rw [h0, h1, h 1 (by decide) (by decide), h 2 (by decide) (by decide), h 3 (by decide) (by decide)]; exact List.Perm.refl _
 ·rw [h0, h1, h 0 (by decide) (by decide), h 2 (by decide) (by decide), h 3 (by decide) (by decide)]; exact List.perm_middle.symm
 ·rw [h0, h1, h 0 (by decide) (by decide), h 1 (by decide) (by decide), h 3 (by decide) (by decide)]
  exact List.perm_middle.symm.trans (List.Perm.append_left _ List.perm_middle.symm)
 ·rw [h0, h1, h 0 (by decide) (by decide), h 1 (by decide) (by decide), h 2 (by decide) (by decide)]
  exact List.perm_middle.symm.trans (List.Perm.append_left _ (List.perm_middle.symm.trans (List.Perm.append_left _ List.perm_middle.symm)))
theorem L4_upd {X Y : Nat → List Blk} {g T i : Nat} {vs : List Value} {cs : Array Value} {s : List Blk} {j : Nat} (hj : j < 4) (hi : i + vs.length ≤ cs.size) (h0 : X j = [(g, .cells cs T)]) (h1 : Y j = [(g, .cells (setMany cs i vs) T)]) (h : ∀ i, i < 4 → i ≠ j → Y i = X i) : UpdR g i vs (L4 X s) (L4 Y s) := by
 unfold L4
 rcases lt4 hj with rfl | rfl | rfl | rfl
 ·rw [h0, h1, h 1 (by decide) (by decide), h 2 (by decide) (by decide), h 3 (by decide) (by decide)]; exact UpdR.here _ _ _ hi
 ·rw [h0, h1, h 0 (by decide) (by decide), h 2 (by decide) (by decide), h 3 (by decide) (by decide)]; exact UpdR.app _ (UpdR.here _ _ _ hi)
 ·rw [h0, h1, h 0 (by decide) (by decide), h 1 (by decide) (by decide), h 3 (by decide) (by decide)]; exact UpdR.app _ (UpdR.app _ (UpdR.here _ _ _ hi))
 ·rw [h0, h1, h 0 (by decide) (by decide), h 1 (by decide) (by decide), h 2 (by decide) (by decide)]; exact UpdR.app _ (UpdR.app _ (UpdR.app _ (UpdR.here _ _ _ hi)))
theorem L4_sub (X : Nat → List Blk) (s : List Blk) : s.Sublist (L4 X s) :=
  (List.sublist_append_right _ _).trans ((List.sublist_append_right _ _).trans ((List.sublist_append_right _ _).trans (List.sublist_append_right _ _)))
section
variable {ops : Array Oper} {Q : Exit → Act → World → Prop} {B : World} {F : List Nat}
theorem rg_perm {R : Option Nat} {P : Program} {o : Oper} {a : Act} {s s' : List Blk} {zz : List Blk × List Blk} (hp : s.Perm s') (h : Rg R P ops Q B F (some zz) [(o, 1)] a s') : Rg R P ops Q B F (some zz) [(o, 1)] a s := by
 rcases h with h | ⟨hn, _⟩
 ·exact .inl fun w K => h w (K.perm hp)
 ·cases hn
theorem rt_4 {P : Program} {T : Nat} {z0 : Array Value} {c : Nat → List Value} {a1 : Act} {s : List Blk} (hchk : chk4 ops = true) (hsz : 10 ≤ a1.tmps.size)
    (hop : ∀ j, j < 4 → (∃ ty p af, ops[8 + j]? = some ⟨some (6 + j), .alloc T, ty, p, af, none⟩) ∧ ∃ ty p af, ops[12 + j]? = some ⟨none, .store T (.tmp (6 + j)) (.tmp (36 + 2 * j)), ty, p, af, none⟩)
    (halloc : ∀ (ev : Operand → Value) d ty p af (w : World), (execOp ev ⟨d, .alloc T, ty, p, af, none⟩).run P w = .ok (.value (.pointer (some ⟨w.heap.size, 0, none⟩))) (w.alloc (.cells z0 T)))
    (hc : ∀ j, j < 4 → a1.eval (.tmp (36 + 2 * j)) = .agg (c j).toArray) (hlen : ∀ j, j < 4 → (c j).length = z0.size) (hT : (P.info? T).map (·.size) = some z0.size) (h1 : ∀ j, j < 4 → (c j).all (·.oneCell') = true)
    (hset : ∀ j, j < 4 → setMany z0 0 (c j) = (c j).toArray) (hv : put4 a1 (fun j => a1.eval (.tmp (6 + j))) = a1)
    (k : ∀ g0 g1 g2 g3, Ek B F Q .normal (put4 a1 (sel4 (.pointer (some ⟨g0, 0, none⟩)) (.pointer (some ⟨g1, 0, none⟩)) (.pointer (some ⟨g2, 0, none⟩)) (.pointer (some ⟨g3, 0, none⟩)))) ((g0, .cells (c 0).toArray T) :: (g1, .cells (c 1).toArray T) :: (g2, .cells (c 2).toArray T) :: (g3, .cells (c 3).toArray T) :: s)) :
    RT P ops Q B F s 8 (st4 false false false false 0) a1 s := by
  refine rt_inv (fun n listed a s' => ∃ (b : Nat → Bool) (k : Nat) (g : Nat → Nat) (v : Nat → Value), k ≤ 4 ∧ (∀ j, j < k → b j = true) ∧ listed = st4 (b 0) (b 1) (b 2) (b 3) k ∧ n = cnt4 b + (4 - k) ∧ a = put4 a1 v ∧ (∀ j, j < 4 → b j = true → v j = .pointer (some ⟨g j, 0, none⟩)) ∧ s'.Perm (L4 (X4 T z0 c g b k) s)) ?_ ?_ 8 _ a1 s
    ⟨fun _ => false, 0, fun _ => 0, fun j => a1.eval (.tmp (6 + j)), by omega, fun j hj => by omega, rfl, rfl, hv.symm, (fun j _ h => nomatch h), List.Perm.refl _⟩
  · rintro n listed a s' ⟨b, k0, g, v, hk, hb, rfl, hn, rfl, hg, hp⟩
    have hall : (([b 0, b 1, b 2, b 3].take k0).all id) = true := by
      have : k0 = 0 ∨ k0 = 1 ∨ k0 = 2 ∨ k0 = 3 ∨ k0 = 4 := by omega
      rcases this with rfl | rfl | rfl | rfl | rfl <;> simp_all
    have hok := chk4_at hchk (b 0) (b 1) (b 2) (b 3) hk hall
    unfold ok4 at hok
    simp only [Bool.and_eq_true] at hok
    obtain ⟨hempty, hready⟩ := hok
    refine ⟨fun he => ?_, fun i hi => ?_⟩
    · rw [he] at hempty
      have : (b 0 && b 1 && b 2 && b 3 && k0 == 4) = true := by simpa using hempty
      simp only [Bool.and_eq_true, beq_iff_eq] at this
      unfold cnt4 at hn
      rw [if_pos this.1.1.1.1, if_pos this.1.1.1.2, if_pos this.1.1.2, if_pos this.1.2] at hn
      omega
    · have hi' := List.all_eq_true.1 hready i hi
      simp only [Bool.or_eq_true, Bool.and_eq_true, decide_eq_true_eq, Bool.not_eq_true'] at hi'
      rcases hi' with ⟨⟨h8, h12⟩, hbj⟩ | ⟨⟨rfl, hk4⟩, hbk⟩
      · obtain ⟨j, rfl⟩ : ∃ j, i = 8 + j := ⟨i - 8, by omega⟩
        have hj : j < 4 := by omega
        have hbj' : b j = false := by
          rw [show 8 + j - 8 = j by omega] at hbj
          rcases lt4 hj with rfl | rfl | rfl | rfl <;> simpa using hbj
        obtain ⟨⟨ty, p, af, ho⟩, _⟩ := hop j hj
        refine ⟨_, ho, rg_perm hp (rg_new (cs := z0) (ty := T) Rx (fun w => halloc _ _ _ _ _ w) (fun _ h => by cases h; exact (L4_sub _ _).trans (List.Sublist.refl _)) fun g' => ?_)⟩
        intro w K
        have hkj : k0 ≤ j := Nat.le_of_not_lt fun h => by have := hb j h; rw [hbj'] at this; cases this
        have hX0 : X4 T z0 c g b k0 j = [] := by unfold X4; rw [if_neg (by rw [hbj']; decide)]
        have hX1 : X4 T z0 c (upd g j g') (upd b j true) k0 j = [(g', .cells z0 T)] := by
          unfold X4
          rw [upd_same, upd_same, if_pos rfl, if_neg Ox]
        have hXo : ∀ i, i < 4 → i ≠ j → X4 T z0 c (upd g j g') (upd b j true) k0 i = X4 T z0 c g b k0 i := fun i _ hne => by
          unfold X4
          rw [upd_other b true hne, upd_other g g' hne]
        refine ⟨_, K.perm (L4_add hj hX0 hX1 hXo), L4_sub _ _, upd b j true, k0, upd g j g', upd v j (.pointer (some ⟨g', 0, none⟩)), hk, fun i hi => ?_, ?_, ?_, put4_put a1 v _ hj, fun i hi hbi => ?_, List.Perm.refl _⟩
        · by_cases e : i = j
          · omega
          · rw [upd_other b true e]; exact hb i hi
        · rcases lt4 hj with rfl | rfl | rfl | rfl <;> rfl
        · unfold cnt4 at hn ⊢
          rcases lt4 hj with rfl | rfl | rfl | rfl <;> simp [upd, hbj'] at hn ⊢ <;> omega
        · by_cases e : i = j
          · subst e; rw [upd_same, upd_same]
          · rw [upd_other v _ e, upd_other g _ e]; rw [upd_other b true e] at hbi; exact hg i hi hbi
      · have hbk' : b k0 = true := by rcases lt4 hk4 with rfl | rfl | rfl | rfl <;> simpa using hbk
        obtain ⟨_, ty, p, af, ho⟩ := hop k0 hk4
        have hX0 : X4 T z0 c g b k0 k0 = [(g k0, .cells z0 T)] := by unfold X4; rw [if_pos hbk', if_neg Ox]
        have hX1 : X4 T z0 c g b (k0 + 1) k0 = [(g k0, .cells (setMany z0 0 (c k0)) T)] := by unfold X4; rw [if_pos hbk', if_pos Ox, hset k0 hk4]
        have hXo : ∀ i, i < 4 → i ≠ k0 → X4 T z0 c g b (k0 + 1) i = X4 T z0 c g b k0 i := fun i _ hne => by
          have e : (i < k0 + 1) ↔ i < k0 := by omega
          unfold X4
          simp only [e]
        refine ⟨_, ho, rg_perm hp (rf_storeR (n := z0.size) (vs := c k0) ((put4_t a1 v hsz hk4).trans (hg k0 hk4 hbk')) ((put4_r a1 v Ox).trans (hc k0 hk4)) hT (hlen k0 hk4) (h1 k0 hk4) (L4_upd hk4 (by rw [hlen k0 hk4]; omega) hX0 hX1 hXo) (fun _ h => by cases h; exact L4_sub _ _) ?_)⟩
        intro w K
        refine ⟨_, K, L4_sub _ _, b, k0 + 1, g, v, by omega, fun i hi => ?_, ?_, ?_, rfl, hg, List.Perm.refl _⟩
        · rcases (by omega : i < k0 ∨ i = k0) with h | rfl
          · exact hb i h
          · exact hbk'
        · rcases lt4 hk4 with rfl | rfl | rfl | rfl <;> rfl
        · omega
  · rintro listed a s' ⟨b, k0, g, v, hk, hb, rfl, hn, rfl, hg, hp⟩
    have hk4 : k0 = 4 := by omega
    subst hk4
    have hc0 : cnt4 b = 0 := by omega
    have hok := chk4_at hchk (b 0) (b 1) (b 2) (b 3) hk (by simp [hb 0, hb 1, hb 2, hb 3])
    unfold ok4 at hok
    simp only [Bool.and_eq_true] at hok
    have e0 := hb 0 (by decide); have e1 := hb 1 (by decide); have e2 := hb 2 (by decide); have e3 := hb 3 (by decide)
    refine ⟨?_, ek_perm hp ?_⟩
    · have := hok.1
      rw [e0, e1, e2, e3] at this ⊢
      simpa using this
    · have hX : L4 (X4 T z0 c g b 4) s = (g 0, .cells (c 0).toArray T) :: (g 1, .cells (c 1).toArray T) :: (g 2, .cells (c 2).toArray T) :: (g 3, .cells (c 3).toArray T) :: s := by
        unfold L4 X4
        rw [e0, e1, e2, e3]
        rfl
      rw [hX]
      have hp4 : put4 a1 v = put4 a1 (sel4 (.pointer (some ⟨g 0, 0, none⟩)) (.pointer (some ⟨g 1, 0, none⟩)) (.pointer (some ⟨g 2, 0, none⟩)) (.pointer (some ⟨g 3, 0, none⟩))) := by
        unfold put4
        rw [hg 0 (by decide) e0, hg 1 (by decide) e1, hg 2 (by decide) e2, hg 3 (by decide) e3]
        rfl
      rw [hp4]
      exact k (g 0) (g 1) (g 2) (g 3)
end
def mapM (F : Nat → List Nm → Nat → Nat → NR) (n : Int) (xs : List Nm) : LR := if validB n xs then madeR n.toNat (F n.toNat xs) else .error 20
def trF (N : Nat) (xs : List Nm) (i k : Nat) : NR := .ok (nm xs (k * N + i))
theorem tr1_any (xs : List Nm) (a : Option Addr) (c : Nat) (N : Nat) (hN : N ≤ 6) (hlx : Hid (xs.length = N * N)) (hox : allOk xs = true) (i k gx : Nat) (hi : i < N) (hk : k < N) (w : World) (hA : AS w a (nms xs)) (hX : Hd w gx 83 #[.int .i64 N, .slice a xs.length c]) : Calls Try.prog 75 #[.int .i64 (i : Int), .int .i64 (k : Int), .pointer (some ⟨gx, 0, none⟩)] w fun e w' => e = .returned (numV (trF N xs i k)) ∧ Below w.heap.size w w' := by
 go_enter Try.func75, Try.ntmps75
 refine wk_start ?_
 refine wk_seq ?_
 refine wk_region [1, 0] rfl Kx ?_
 simp only [qy]
 refine Rgn fun g1 => ?_
 simp only [qz]
 refine rg_assign ?_
 simp only [qz]
 refine rg_nil (ek_next (wk_seq ?_))
 refine wk_region [0, 0, 0, 1, 1, 0] rfl Kx ?_
 simp only [qy]
 refine rf_loadC (n := 2) (vs := [.int .i64 N, .slice a xs.length c]) rfl rfl rfl Try.underlying83 rfl Kx rfl (fun w hw => cells_range (Kn.hdB hw hX (by simp)) 0 2) ?_
 simp only [qz]
 refine rg_move ?_
 simp only [qz]
 refine rg_move ?_
 simp only [qz]
 apply rg_pure Rx Kx
 case hargs => exact Ax
 case h => exact fun w hw => at_any N k i xs a c hlx.out hN hk hi w (hA.kn0 hw)
 case hz => exact Nz
 simp only [qz]
 refine rf_storeR (n := 5) rfl rfl Kx rfl rfl (UpdR.here _ _ _ Nl) Nz ?_
 simp only [qz, Nat.reduceAdd]
 refine rg_assign ?_
 simp only [qz]
 refine rg_nil (ek_next (wk_ret ?_))
 refine ek_ret (fun w hw => ⟨rfl, _, run_results2 rfl rfl (Kn.hd0 hw) Try.underlying29 rfl Kx, ?_⟩)
 (try simp only [qz])
 exact ⟨rfl, hw.below⟩
theorem mtranspose_any (n : Int) (xs : List Nm) (a : Option Addr) (c : Nat) (hl : xs.length ≤ 1000000) (w : World) (hA : AS w a (nms xs)) : Calls Try.prog 27 #[.agg #[.int .i64 n, .slice a xs.length c]] w fun e w' => RetM w (rN n.toNat (mapM trF n xs)) (rL (mapM trF n xs)) (rC (mapM trF n xs)) e w' := by
 go_enter Try.func27, Try.ntmps27
 refine wk_start ?_
 refine wk_seq ?_
 refine wk_region [1, 1, 0] rfl Kx ?_
 simp only [qy]
 refine Rgn fun g1 => ?_
 simp only [qz]
 refine Rgn fun g2 => ?_
 simp only [qz]
 refine rg_assign ?_
 simp only [qz]
 refine rg_nil (ek_next (wk_seq (wk_seq ?_)))
 refine wk_region [0, 1, 0] rfl Kx ?_
 simp only [qy]
 refine rf_loadR (n := 2) rfl rfl rfl Try.underlying24 rfl Kx (fun w hw => Kn.hd0 (Kn.tl hw)) rfl rfl ?_
 simp only [qz]
 apply rg_pureb Rx Kx
 case hargs => exact Ax
 case h => exact fun w hw => mvalid_any n xs a c hl w (hA.kn0 hw)
 case hz => exact Nz
 intro x h1
 cases x
 ·(try simp only [qd, ne_eq] at h1)
  simp only [qz]
  refine rf_not rfl rfl rfl ?_
  simp only [qz]
  refine rg_nil (ek_next (wk_cond_t rfl (wk_seq ?_)))
  refine wk_region [0, 1, 0] rfl Kx ?_
  simp only [qy]
  refine rf_build (cs := fun a => #[.int .i64 0, .slice none 0 0]) rfl rfl Kx ?_
  simp only [qz]
  refine rf_storeR (n := 2) rfl rfl Kx rfl rfl (UpdR.here _ _ _ Nl) Nz ?_
  simp only [qz, Nat.reduceAdd]
  refine rg_assign ?_
  simp only [qz]
  refine rg_nil (ek_next (wk_ret (ek_then_ret ?_)))
  refine ek_ret (fun w hw => ⟨rfl, _, run_results2 rfl rfl (Kn.hd0 hw) Try.underlying24 rfl Kx, ?_⟩)
  (try simp only [qz])
  exact retM_err (c := 20) (by unfold mapM; rw [h1]; rfl) hw.below
 (try simp only [qd, ne_eq] at h1)
 simp only [qz]
 have hv := h1
 obtain ⟨N, rfl, hN1, hN, hlx, hlx36, hox⟩ := validB_N' hv
 replace hlx := Lib.hid hlx
 have hcp : mapM trF (N : Int) xs = madeR N (trF N xs) := by (unfold mapM; rw [hv, if_pos rfl, Int.toNat_natCast])
 replace hcp := Lib.hid hcp
 refine rf_not rfl rfl rfl ?_
 simp only [qz]
 refine rg_nil (ek_next (wk_cond_f rfl (wk_skip (ek_next (wk_seq ?_)))))
 refine wk_region [0, 0, 1, 1] rfl Kx ?_
 simp only [qy]
 refine rf_loadR (n := 2) rfl rfl rfl Try.underlying24 rfl Kx (fun w hw => Kn.hd0 (Kn.tl hw)) rfl rfl ?_
 simp only [qz]
 refine rf_build (cs := fun a => #[cellAt (a.eval (.tmp 9)) 0, cellAt (a.eval (.tmp 9)) 1]) rfl rfl Kx ?_
 simp only [qz]
 refine Rgn fun g3 => ?_
 simp only [qz]
 refine rf_storeR (n := 2) rfl rfl Kx rfl rfl (UpdR.here _ _ _ Nl) Nz ?_
 simp only [qz, Nat.reduceAdd]
 refine rg_nil (ek_next (wk_seq ?_))
 refine wk_region [0, 0, 0, 1, 0, 0, 1, 0] rfl Kx ?_
 simp only [qy]
 refine rf_field (n := 0) (j := 0) rfl rfl rfl Try.underlying24 rfl Kx rfl ?_
 simp only [qz]
 refine rf_load rfl rfl rfl Try.underlying3 rfl (fun w hw => (Kn.hd0 (Kn.tl (Kn.tl hw))).at rfl) ?_
 simp only [qz]
 apply rg_soft
 case hy => (intro w hw; go_simp; (try go_bits); exact Yld.mk _ _)
 simp only [qz]
 apply rg_retM Rx Kx
 case hargs => exact Ax
 case h => exact fun w hw => made_any N hN (trF N xs) _ (fun i k c hi hk h => by cases h) w ⟨_, _, _, rfl, by kernel_rfl, fun w' hb vs r ⟨i, k, hi, hk, hv, hr⟩ => by
   subst hv hr
   have h := tr1_any xs a c N hN hlx hox i k g3 hi hk w' ((hA.kn0 hw).below hb) ((Kn.hd0 hw).belowS hb)
   simpa using h⟩
 case hz => exact Nz
 intro va5 vc5 u5 hO5
 simp only [qz]
 refine rf_extract rfl rfl rfl rfl ?_
 simp only [qz]
 refine rf_extract rfl rfl rfl rfl ?_
 simp only [qz]
 refine rf_storeR (n := 2) rfl rfl Kx rfl rfl (UpdR.app _ (UpdR.there _ (UpdR.here _ _ _ Nl))) Nz ?_
 simp only [qz, Nat.reduceAdd]
 refine rg_assign ?_
 simp only [qz]
 refine rg_nil (ek_next (wk_ret ?_))
 refine ek_ret (fun w hw => ⟨rfl, _, run_results2 rfl rfl (Kn.hd0 (Kn.tl (Kn.tlU hw))) Try.underlying24 rfl Kx, ?_⟩)
 (try simp only [qz])
 exact ⟨.slice va5 _ vc5, u5, by rw [hcp.out]; rfl, by rw [hcp.out]; exact hO5, hw.made (List.sublist_append_left _ _)⟩
theorem rTurned_any (z : Nm) (n : Nat) (hz : z.Ok) (hn : n ≤ 1000) (w : World) : Calls Try.prog 42 #[nmV z, .int .i64 (n : Int)] w fun e w' => e = .returned (nmV (Nm.turn n z)) ∧ Below w.heap.size w w' := by
 go_enter Try.func42, Try.ntmps42
 refine wk_start ?_
 refine wk_seq ?_
 refine wk_region [1, 1] rfl Kx ?_
 simp only [qy]
 refine Rgn fun g1 => ?_
 simp only [qz]
 refine Rgn fun g2 => ?_
 simp only [qz]
 refine rg_nil (ek_next (wk_seq (wk_seq ?_)))
 refine wk_region [0] rfl Kx ?_
 simp only [qy]
 refine rg_assign ?_
 simp only [qz]
 refine rg_nil (ek_next (wk_block ?_))
 refine wk_loopF [5, 6, 7, 8, 9, 10, 11, 12, 13, 14, 15, 16, 17, 18, 19, 20, 21, 22, 23, 24, 25] (fun mz f s => ∃ (i : Nat) (y : Nm), f 5 = .int .i64 i ∧ s = ((g2, .cells #[.int .i64 0, .int .i64 0, .int .i64 0, .int .i64 0, .int .i64 0] 29) :: ((g1, .cells #[.int .i64 y.a, .int .i64 y.b, .int .i64 y.c, .int .i64 y.d, .int .i64 y.k] 29) :: [])) ∧ mz = n - i ∧ i ≤ n ∧ Hid (Nm.turn i z = y) ∧ y.Ok) ((fun (i : Nat) (y : Nm) => n - i) (0) (z)) ?_ Kx ?_
 ·exact ⟨0, z, rfl, rfl, rfl, by omega, (Lib.hid rfl), hz⟩
 rintro mz f1 s ⟨i, y, hs1_5, rfl, hn, hd1, hd2, hd3⟩
 simp only [Act.putF, List.foldl_cons, List.foldl_nil, hs1_5, Act.put, Act.eval, q1, q2, q3, q4, q5, q6, q7, q8, q9, q10, q11, q12, q13, q14, q15, q16, q17, q18, Nat.reduceAdd, Bool.not_true, Bool.not_false]
 clear hs1_5
 refine wk_seq (wk_seq ?_)
 refine wk_region [0, 0, 0] rfl Kx ?_
 simp only [qy]
 refine rg_move ?_
 simp only [qz]
 refine rg_move ?_
 simp only [qz]
 refine rfb_lss rfl rfl rfl rfl ?_
 intro x h1
 cases x
 ·(try simp only [qd, ne_eq] at h1)
  simp only [qz]
  refine rg_nil (ek_next (wk_cond_f rfl (wk_exit (ek_then_exit (ek_then_exit (ek_block_exit (ek_next (wk_seq ?_))))))))
  refine wk_region [0, 1] rfl Kx ?_
  simp only [qy]
  refine rf_loadR (n := 5) rfl rfl rfl Try.underlying29 rfl Kx (fun w hw => Kn.hd0 (Kn.tl hw)) rfl rfl ?_
  simp only [qz]
  refine rf_storeR (n := 5) rfl rfl Kx rfl rfl (UpdR.here _ _ _ Nl) Nz ?_
  simp only [qz, Nat.reduceAdd]
  refine rg_nil (ek_next (wk_ret ?_))
  refine ek_ret (fun w hw => ⟨rfl, _, run_results1 rfl rfl (Kn.hd0 hw) Try.underlying29 rfl Kx, ?_⟩)
  (try simp only [qz])
  obtain rfl : i = n := by omega
  exact ⟨by rw [hd2.out], hw.below⟩
 (try simp only [qd, ne_eq] at h1)
 simp only [qz]
 refine rg_nil (ek_next (wk_cond_t rfl (wk_skip (ek_next (wk_seq (wk_block ?_))))))
 have hyr : y.rot.Ok := turn_ok hd3 1
 obtain ⟨fa0, fa1, fb0, fb1, fc0, fc1, fd0, fd1⟩ := hd3.fit
 refine wk_region [0, 0, 0, 0, 0, 0, 0, 0, 0, 0, 0, 0, 0, 0, 0, 1] rfl Kx ?_
 simp only [qy]
 refine rf_field (n := 3) (j := 0) rfl rfl rfl Try.underlying29 rfl Kx rfl ?_
 simp only [qz]
 refine rf_indexA (n := 3) (sz := 1) (j := 3) rfl rfl rfl rfl Try.underlying27 Kx (by decide) rfl ?_
 simp only [qz]
 refine rf_load rfl rfl rfl Try.underlying3 rfl (fun w hw => (Kn.hd0 (Kn.tl hw)).at rfl) ?_
 simp only [qz]
 refine rf_neg rfl rfl rfl (wrap_ok Ox Ox) ?_
 simp only [qz]
 refine rf_field (n := 3) (j := 0) rfl rfl rfl Try.underlying29 rfl Kx rfl ?_
 simp only [qz]
 refine rf_indexA (n := 0) (sz := 1) (j := 0) rfl rfl rfl rfl Try.underlying27 Kx (by decide) rfl ?_
 simp only [qz]
 refine rf_load rfl rfl rfl Try.underlying3 rfl (fun w hw => (Kn.hd0 (Kn.tl hw)).at rfl) ?_
 simp only [qz]
 refine rf_field (n := 3) (j := 0) rfl rfl rfl Try.underlying29 rfl Kx rfl ?_
 simp only [qz]
 refine rf_indexA (n := 1) (sz := 1) (j := 1) rfl rfl rfl rfl Try.underlying27 Kx (by decide) rfl ?_
 simp only [qz]
 refine rf_load rfl rfl rfl Try.underlying3 rfl (fun w hw => (Kn.hd0 (Kn.tl hw)).at rfl) ?_
 simp only [qz]
 refine rf_field (n := 3) (j := 0) rfl rfl rfl Try.underlying29 rfl Kx rfl ?_
 simp only [qz]
 refine rf_indexA (n := 2) (sz := 1) (j := 2) rfl rfl rfl rfl Try.underlying27 Kx (by decide) rfl ?_
 simp only [qz]
 refine rf_load rfl rfl rfl Try.underlying3 rfl (fun w hw => (Kn.hd0 (Kn.tl hw)).at rfl) ?_
 simp only [qz]
 refine rf_build (cs := fun a => #[a.eval (.tmp 14), a.eval (.tmp 17), a.eval (.tmp 20), a.eval (.tmp 23)]) rfl rfl Kx ?_
 simp only [qz]
 refine rf_field (n := 3) (j := 0) rfl rfl rfl Try.underlying29 rfl Kx rfl ?_
 simp only [qz]
 refine rf_storeR (n := 4) rfl rfl Kx rfl rfl (UpdR.there _ (UpdR.here _ _ _ Nl)) Nz ?_
 simp only [qz, Nat.reduceAdd]
 refine rg_nil (ek_block (ek_next ?_))
 refine wk_region [0, 0, 0] rfl Kx ?_
 simp only [qy]
 refine rg_move ?_
 simp only [qz]
 refine rf_add rfl rfl rfl rfl (wrap_ok Ox Ox) ?_
 simp only [qz]
 refine rg_assign ?_
 simp only [qz]
 refine rg_nil ?_
 refine ek_roundF (n - (i + 1)) Ox Kx ?_
 exact ⟨i + 1, y.rot, rfl, by rfl, by rfl, Ox, (Lib.hid (by rw [Nm.turn, hd2.out])), hyr⟩
theorem rAt_any (N i k : Nat) (xs : List Nm) (a : Option Addr) (c : Nat) (hl : xs.length = N * N) (hN : N ≤ 6) (hi : i < N) (hk : k < N) (w : World) (hA : AS w a (nms xs)) : Calls Try.prog 41 #[.agg #[.int .i64 N, .slice a xs.length c], .int .i64 i, .int .i64 k] w fun e w' => e = .returned (nmV (nm xs (i * N + k))) ∧ Below w.heap.size w w' := by
 have hm := ix_small hi hN
 have hc0 : ((i * N : Nat) : Int) = (i : Int) * N := Int.natCast_mul i N
 obtain ⟨b, off, rfl, hlt, hcell⟩ := AS.openN hA Ox
 go_enter Try.func41, Try.ntmps41
 refine wk_start ?_
 refine wk_seq ?_
 refine wk_region [1, 1] rfl Kx ?_
 simp only [qy]
 refine Rgn fun g1 => ?_
 simp only [qz]
 refine Rgn fun g2 => ?_
 simp only [qz]
 refine rg_nil (ek_next (wk_seq ?_))
 refine wk_region [0, 0, 0, 0, 0, 0, 0, 0, 0, 0, 1] rfl Kx ?_
 simp only [qy]
 refine rf_field (n := 0) (j := 1) rfl rfl rfl Try.underlying24 rfl Kx rfl ?_
 simp only [qz]
 refine rf_load rfl rfl rfl Try.underlying22 rfl (fun w hw => (Kn.hd0 (Kn.tl hw)).at rfl) ?_
 simp only [qz]
 refine rg_move ?_
 simp only [qz]
 refine rf_field (n := 0) (j := 0) rfl rfl rfl Try.underlying24 rfl Kx rfl ?_
 simp only [qz]
 refine rf_load rfl rfl rfl Try.underlying3 rfl (fun w hw => (Kn.hd0 (Kn.tl hw)).at rfl) ?_
 simp only [qz]
 refine rf_mul rfl rfl rfl rfl (wrap_ok Ox Ox) ?_
 simp only [qz]
 refine rg_move ?_
 simp only [qz]
 refine rf_add rfl rfl rfl rfl (wrap_ok Ox Ox) ?_
 simp only [qz]
 refine rf_indexS (n := i * N + k) (sz := 5) (j := off + (i * N + k) * 5) rfl rfl rfl rfl Try.underlying22 Kx (by rw [Int.natCast_add, Int.natCast_mul]) Ox rfl ?_
 simp only [qz]
 refine rf_loadC (n := 5) (vs := nmC (nm xs (i * N + k))) rfl rfl rfl Try.underlying29 rfl Kx rfl (fun w hw => atN_range ((hcell _ Ox).kn hw hlt (by simp))) ?_
 simp only [qz]
 refine rf_storeR (n := 5) rfl rfl Kx rfl rfl (UpdR.here _ _ _ Nl) Nz ?_
 simp only [qz, Nat.reduceAdd]
 refine rg_nil (ek_next (wk_ret ?_))
 refine ek_ret (fun w hw => ⟨rfl, _, run_results1 rfl rfl (Kn.hd0 hw) Try.underlying29 rfl Kx, ?_⟩)
 (try simp only [qz])
 first | exact ⟨rfl, hw.below⟩ | exact ⟨trivial, hw.below⟩ | exact hw.below
theorem rOne_any  (w : World) : Calls Try.prog 61 #[] w fun e w' => e = .returned (nmV Nm.one) ∧ Below w.heap.size w w' := by
 go_enter Try.func61, Try.ntmps61
 refine wk_start ?_
 refine wk_seq ?_
 refine wk_region [1] rfl Kx ?_
 simp only [qy]
 refine Rgn fun g1 => ?_
 simp only [qz]
 refine rg_nil (ek_next (wk_seq ?_))
 refine wk_region [0, 0, 1] rfl Kx ?_
 simp only [qy]
 refine rf_build (cs := fun a => #[a.eval (.const (.int .i64 1)), .int .i64 0, .int .i64 0, .int .i64 0]) rfl rfl Kx ?_
 simp only [qz]
 refine rf_build (cs := fun a => #[cellAt (a.eval (.tmp 1)) 0, cellAt (a.eval (.tmp 1)) 1, cellAt (a.eval (.tmp 1)) 2, cellAt (a.eval (.tmp 1)) 3, .int .i64 0]) rfl rfl Kx ?_
 simp only [qz]
 refine rf_storeR (n := 5) rfl rfl Kx rfl rfl (UpdR.here _ _ _ Nl) Nz ?_
 simp only [qz, Nat.reduceAdd]
 refine rg_nil (ek_next (wk_ret ?_))
 refine ek_ret (fun w hw => ⟨rfl, _, run_results1 rfl rfl (Kn.hd0 hw) Try.underlying29 rfl Kx, ?_⟩)
 (try simp only [qz])
 first | exact ⟨rfl, hw.below⟩ | exact ⟨trivial, hw.below⟩ | exact hw.below
section
variable {R : Option Nat} {P : Program} {ops : Array Oper} {Q : Exit → Act → World → Prop} {B : World} {F : List Nat} {fuel : Nat} {listed : Array Bool} {a : Act} {s : List Blk}
def RR (R : Option Nat) (P : Program) (ops : Array Oper) (Q : Exit → Act → World → Prop) (B : World) (F : List Nat) (fuel : Nat) (listed : Array Bool) (a : Act) (s : List Blk) : Prop :=
  ∀ w, Kn B F s w → wpAnyIn (FR R) 0 P .any ops Q fuel listed a w
abbrev QR (R : Option Nat) (P : Program) (ops : Array Oper) (Q : Exit → Act → World → Prop) (fuel : Nat) (listed : Array Bool) : Exit → Act → World → Prop :=
  Exit.then (wpAnyIn (FR R) 0 P .any ops Q fuel listed) Q
theorem ek_rr (h : RR R P ops Q B F fuel listed a s) : Ek B F (QR R P ops Q fuel listed) .normal a s := h
theorem oper_out {K : Act → World → Prop} {o : Oper} {w : World} (h : o.wpIn (FR R) 0 P a w K (Exit.then K Q)) : o.wpIn (FR R) 0 P a w K Q := by
 unfold Oper.wpIn at *
 refine ⟨h.1, ?_⟩
 have h := h.2
 generalize (o.semAt (FR R).round a.eval).run P w = r at *
 cases r with
 | ok n w' =>
  cases n <;> simp only [Oper.uponIn] at h ⊢ <;>
   first
    | exact h
    | exact ⟨h.1, CallsIn.mono h.2 (fun e w'' he => by cases e <;> first | exact he | (obtain ⟨a₀, w₀, h₀⟩ := he; exact ⟨a₀, w₀, h₀⟩))⟩
    | exact ⟨h.1, RoundIn.mono h.2 (fun e w'' he => by cases e <;> first | exact he | (obtain ⟨a₀, w₀, h₀⟩ := he; exact ⟨a₀, w₀, h₀⟩))⟩
 | halt x w' => cases x <;> simp only [Oper.uponIn] at h ⊢ <;> exact h
theorem op_one {i : Nat} {o : Oper} {K : Act → World → Prop} {w : World} (ho : ops[i]? = some o) (h : wpListIn (FR R) 0 P ops (Exit.then K Q) [o] a w) : wpOpIn (FR R) 0 P ops Q i K a w := by
 unfold wpOpIn
 simp only [ho]
 unfold wpListIn at h
 split
 ·next hw =>
  rw [if_pos hw] at h
  exact oper_out h
 ·next hw =>
  rw [if_neg hw] at h
  exact h
theorem rr_step {f : Nat} {o : Oper} {listed' : Array Bool} (hd : noDefer [o] = true) (h : Rg R P ops (QR R P ops Q fuel listed') B F none [(o, f)] a s) (w : World) (K : Kn B F s w) :
    wpListIn (FR R) 0 P ops (QR R P ops Q fuel listed') [o] a w := rg_text [(o, f)] a s hd h w K
theorem any_ready {rs : List Nat} {w : World} (hr : Region.ready .any ops listed = rs) (hne : rs ≠ []) (h : ∀ i ∈ rs, wpOpIn (FR R) 0 P ops Q i (wpAnyIn (FR R) 0 P .any ops Q fuel (listed.setIfInBounds i true)) a w) : wpAnyIn (FR R) 0 P .any ops Q (fuel + 1) listed a w :=
  ⟨fun h0 => absurd (hr ▸ h0) hne, hr ▸ h⟩
theorem rr_hard1 {i f : Nat} {o : Oper} (hr : Region.ready .any ops listed = [i]) (ho : ops[i]? = some o) (hd : noDefer [o] = true)
    (h : Rg R P ops (QR R P ops Q fuel (listed.setIfInBounds i true)) B F none [(o, f)] a s) : RR R P ops Q B F (fuel + 1) listed a s := fun w K =>
  any_ready hr (by simp) fun k hk => by
    obtain rfl : k = i := by simpa using hk
    exact op_one ho (rr_step hd h w K)
theorem rr_hard2 {i j f g : Nat} {o u : Oper} (hr : Region.ready .any ops listed = [i, j]) (ho : ops[i]? = some o) (hu : ops[j]? = some u) (hd : noDefer [o] = true) (hd' : noDefer [u] = true)
    (h : Rg R P ops (QR R P ops Q fuel (listed.setIfInBounds i true)) B F none [(o, f)] a s)
    (h' : Rg R P ops (QR R P ops Q fuel (listed.setIfInBounds j true)) B F none [(u, g)] a s) : RR R P ops Q B F (fuel + 1) listed a s := fun w K =>
  any_ready hr (by simp) fun k hk => by
    rcases (by simpa using hk : k = i ∨ k = j) with rfl | rfl
    · exact op_one ho (rr_step hd h w K)
    · exact op_one hu (rr_step hd' h' w K)
theorem rr_hard3 {i j k f g e : Nat} {o u v : Oper} (hr : Region.ready .any ops listed = [i, j, k]) (ho : ops[i]? = some o) (hu : ops[j]? = some u) (hv : ops[k]? = some v) (hd : noDefer [o] = true) (hd' : noDefer [u] = true) (hd'' : noDefer [v] = true)
    (h : Rg R P ops (QR R P ops Q fuel (listed.setIfInBounds i true)) B F none [(o, f)] a s)
    (h' : Rg R P ops (QR R P ops Q fuel (listed.setIfInBounds j true)) B F none [(u, g)] a s)
    (h'' : Rg R P ops (QR R P ops Q fuel (listed.setIfInBounds k true)) B F none [(v, e)] a s) : RR R P ops Q B F (fuel + 1) listed a s := fun w K =>
  any_ready hr (by simp) fun x hx => by
    rcases (by simpa using hx : x = i ∨ x = j ∨ x = k) with rfl | rfl | rfl
    · exact op_one ho (rr_step hd h w K)
    · exact op_one hu (rr_step hd' h' w K)
    · exact op_one hv (rr_step hd'' h'' w K)
theorem rr_nil (hr : (Region.ready .any ops listed).isEmpty = true) (h : Ek B F Q .normal a s) : RR R P ops Q B F 0 listed a s := fun w K => ⟨by simpa using hr, h w K⟩
theorem wk_rr {id : Nat} {l : List Oper} (hm : P.follows .mixedOrders = true) (h : RR R P l.toArray Q B F l.length (Array.replicate l.length false) a s) :
    Wk R P B F Q a s (Code.region id l.toArray true) := fun w K => wpIn_region_any hm (by
      have := h w.drew K.drew
      simpa using this)
end
abbrev zs (xs : List Int) : List Value := xs.map (.int .i64 ·)
theorem zInfo : (Try.prog.info? 3).map (fun i => (i.zero, i.size, i.bytes)) = some (some (.int .i64 0), 1, 8) := by kernel_rfl
def OwnZ (u : List Blk) (v : Value) (xs : List Int) : Prop := Own 3 1 u v xs.length (zs xs)
theorem OwnZ.one {g : Nat} (x : Int) : OwnZ [(g, .cells #[.int .i64 x] 3)] (.slice (some ⟨g, 0, none⟩) 1 1) [x] :=
  Own.whole (cur := #[.int .i64 x]) rfl (by simp only [maxLen]; omega)
theorem OwnZ.addr {u : List Blk} {av : Option Addr} {n c : Nat} {row : List Int} (h : OwnZ u (.slice av n c) row) (hn : 0 < row.length) : ∃ ad, av = some ad ∧ ∀ {B w : World} {F : List Nat} {s : List Blk}, Kn B F s w → u.Sublist s → AS w (some ad) (zs row) := by
 rcases h.2 with ⟨_, e, h0⟩ | ⟨g, cap, cur, _, e, _⟩
 ·omega
 ·cases e
  refine ⟨_, rfl, fun K hs => ?_⟩
  obtain ⟨a, cap, e, hA⟩ := Own.as (s := []) h (by rw [List.append_nil]; exact K.sub hs)
  cases e
  exact hA
theorem sInfo : (Try.prog.info? 37).map (fun i => (i.zero, i.size, i.bytes)) = some (some (.slice none 0 0), 1, 24) := by kernel_rfl
inductive RowsZ : List Blk → List Value → List (List Int) → Prop
  | nil : RowsZ [] [] []
  | snoc {us : List Blk} {hs : List Value} {rows : List (List Int)} {u : List Blk} {h : Value} {row : List Int} : RowsZ us hs rows → OwnZ u h row → RowsZ (u ++ us) (hs ++ [h]) (rows ++ [row])
theorem RowsZ.len {us : List Blk} {hs : List Value} {rows : List (List Int)} (h : RowsZ us hs rows) : hs.length = rows.length := by
 induction h with
 | nil => rfl
 | snoc _ _ ih => simp [ih]
theorem RowsZ.cells {us : List Blk} {hs : List Value} {rows : List (List Int)} (h : RowsZ us hs rows) : ∀ v ∈ hs, v.oneCell' = true := by
 induction h with
 | nil => intro v hv; simp at hv
 | snoc _ hO ih =>
  intro v hv
  rcases List.mem_append.1 hv with hv | hv
  ·exact ih v hv
  ·obtain ⟨a, c, e, _⟩ := Own.val hO
   simp at hv
   rw [hv, e]
   rfl
theorem RowsZ.as {us : List Blk} {hs : List Value} {rows : List (List Int)} (h : RowsZ us hs rows) : ∀ {B w : World} {F : List Nat} {s : List Blk}, Kn B F s w → us.Sublist s → ∀ k, k < rows.length → ∃ a c, hs[k]? = some (.slice a (rows.getD k []).length c) ∧ AS w a (zs (rows.getD k [])) := by
 induction h with
 | nil => intro B w F s K hs k hk; simp at hk
 | @snoc us hs rows u h row h0 hO ih =>
  intro B w F s K hsub k hk
  have hl := h0.len
  rcases (by simp at hk; omega : k < rows.length ∨ k = rows.length) with hk | rfl
  ·obtain ⟨a, c, h1, h2⟩ := ih K ((List.sublist_append_right _ _).trans hsub) k hk
   have e : (rows ++ [row]).getD k [] = rows.getD k [] := by rw [List.getD_eq_getElem?_getD, List.getElem?_append_left hk, ← List.getD_eq_getElem?_getD]
   rw [e]
   exact ⟨a, c, by rw [List.getElem?_append_left Ox]; exact h1, h2⟩
  ·have e : (rows ++ [row]).getD rows.length [] = row := by simp [List.getD_eq_getElem?_getD]
   rw [e]
   have K' := K.sub ((List.sublist_append_left u us).trans hsub)
   obtain ⟨a, c, e1, e2⟩ := Own.as (s := []) hO (by rw [List.append_nil]; exact K')
   refine ⟨a, c, ?_, e2⟩
   rw [List.getElem?_append_right Ox]
   simp [hl, e1]
theorem RowsZ.row {us : List Blk} {hs : List Value} {rows : List (List Int)} (h : RowsZ us hs rows) : ∀ k, k < rows.length → ∃ a c u, hs[k]? = some (.slice a (rows.getD k []).length c) ∧ OwnZ u (.slice a (rows.getD k []).length c) (rows.getD k []) ∧ u.Sublist us := by
 induction h with
 | nil => intro k hk; simp at hk
 | @snoc us hs rows u h row h0 hO ih =>
  intro k hk
  have hl := h0.len
  rcases (by simp at hk; omega : k < rows.length ∨ k = rows.length) with hk | rfl
  ·obtain ⟨a, c, u', h1, h2, h3⟩ := ih k hk
   have e : (rows ++ [row]).getD k [] = rows.getD k [] := by rw [List.getD_eq_getElem?_getD, List.getElem?_append_left hk, ← List.getD_eq_getElem?_getD]
   rw [e]
   exact ⟨a, c, u', by rw [List.getElem?_append_left Ox]; exact h1, h2, h3.trans (List.sublist_append_right _ _)⟩
  ·have e : (rows ++ [row]).getD rows.length [] = row := by simp [List.getD_eq_getElem?_getD]
   rw [e]
   obtain ⟨a, c, rfl, _⟩ := Own.val hO
   exact ⟨a, c, u, by rw [List.getElem?_append_right Ox]; simp [hl], hO, List.sublist_append_left _ _⟩
def OwnL (U : List Blk) (v : Value) (rows : List (List Int)) : Prop := ∃ u us hs, U = u ++ us ∧ Own 37 1 u v rows.length hs ∧ RowsZ us hs rows
theorem OwnL.nil : OwnL [] (.slice none 0 0) [] := ⟨[], [], [], rfl, Own.nil _ _, .nil⟩
def RetL (w : World) (rows : List (List Int)) (c : Int) (e : Ending) (w' : World) : Prop := ∃ v U, e = .returned (.tuple #[v, .int .i64 c]) ∧ OwnL U v rows ∧ Made w U w'
def RoundsP (L M lp : Nat) (r : Loop) (C : List (List Int) → List Blk → Prop) : Prop :=
  r.params.size = 1 ∧ (∀ ys s, C ys s → (lp, Obj.loop r) ∈ s) ∧
  ∀ (R : Option Nat) (B : World) (F : List Nat) (ys : List (List Int)) (row : List Int) (u : List Blk) (v : Value) (s rest : List Blk) (w : World), 0 < row.length → row.length = M → ys.length < L → C ys s → OwnZ u v row → Kn B F (u ++ (s ++ rest)) w →
    RoundIn (FR R) 0 Try.prog lp r.fn ((r.params.zip #[v]).foldl (fun tmps (t, a) => tmps.setIfInBounds t a) r.tmps) r.assign r.body w
      (fun e w' => ∃ s', e = .returned (.bool true) ∧ C (ys ++ [row]) s' ∧ Kn B F (s' ++ rest) w')
section
variable {R : Option Nat} {ops : Array Oper} {Q : Exit → Act → World → Prop} {B : World} {F : List Nat} {s0 : Option (List Blk × List Blk)}
variable {l lst : List (Oper × Nat)} {a : Act} {s S : List Blk} {d : Option Tmp} {op : Op} {t : TypeId} {p : String} {af : Array Edge} {v : Value}
theorem rg_yieldP {C : List (List Int) → List Blk → Prop} {L M lp : Nat} {r : Loop} {ys : List (List Int)} {row : List Int} {u sC rest : List Blk} {fo : Operand} {cargs : Array Operand} {at_ : Array TypeId} {gd : Option (Nat × Bool)}
    (hR : RoundsP L M lp r C) (hC : C ys sC) (hl0 : 0 < row.length) (hl1 : row.length = M) (hy : ys.length < L) (hO : OwnZ u v row) (hp : S.Perm (u ++ (sC ++ rest)))
    (hg : Region.wanted ⟨d, .call ⟨.value fo, cargs, at_⟩, t, p, af, gd⟩ (yielded ops a.tmps) = true)
    (hf : a.eval fo = .func (.yield lp) #[] #[]) (hargs : cargs.map a.eval = #[v])
    (h : ∀ s', C (ys ++ [row]) s' → Rg R Try.prog ops Q B F none lst (a.put d (.bool true)) (s' ++ rest)) :
    Rg R Try.prog ops Q B F none ((⟨d, .call ⟨.value fo, cargs, at_⟩, t, p, af, gd⟩, 1) :: lst) a S := by
  refine rg_yield (r := r) hg hf hargs hR.1.symm (hp.mem_iff.2 (List.mem_append_right _ (List.mem_append_left _ (hR.2.1 ys sC hC)))) fun w K => ?_
  exact (hR.2.2 R B F ys row u v sC rest w hl0 hl1 hy hC hO (K.perm hp)).mono fun e w' ⟨s', he, hC', hK⟩ => ⟨_, _, he, hK, h s' hC'⟩
theorem rg_consZ {so xo : Operand} {row : List Int} {g : Nat} {x : Int} {gd : Option (Nat × Bool)} (hg : Region.wanted ⟨d, .call ⟨.builtin .append, #[so, xo], #[37, 37]⟩, t, p, af, gd⟩ (yielded ops a.tmps) = true)
    (hs : a.eval so = .slice (some ⟨g, 0, none⟩) 1 1) {ad : Addr} {c : Nat} (hx : a.eval xo = .slice (some ad) row.length c) (hA : ∀ w, Kn B F S w → AS w (some ad) (zs row)) (hn : row.length ≤ 1000) (hne : 0 < row.length)
    (hp : S.Perm ((g, .cells #[.int .i64 x] 3) :: s)) (hzz : ∀ z ∈ s0, z.1.Sublist s)
    (h : ∀ u' a' c', OwnZ u' (.slice a' (row.length + 1) c') (x :: row) → Rg R Try.prog ops Q B F s0 l (a.put d (.slice a' (row.length + 1) c')) (u' ++ s)) :
    Rg R Try.prog ops Q B F s0 ((⟨d, .call ⟨.builtin .append, #[so, xo], #[37, 37]⟩, t, p, af, gd⟩, 1) :: l) a S := by
  obtain ⟨i, hi, hz, hsz, hb⟩ := info_partsN zInfo
  refine rg_append (u := [(g, .cells #[.int .i64 x] 3)]) (s := s) (i := i) (z := .int .i64 0) (size := 1) (bytes := 8) (n := 1) (m := row.length) (xs := [.int .i64 x]) (news := zs row) (ad := ad) hg
    Try.underlying37 hi hz hsz hb rfl (by decide) hs (Own.whole (cur := #[.int .i64 x]) rfl (by simp only [maxLen]; omega)) hx (by simp) ?_ (by simp [Value.oneCell']) (by simp only [maxLen]; omega) Ox hp hzz ?_
  · intro w K j y hj
    have hne' : zs row ≠ [] := by intro e; simp at e; subst e; simp at hne
    obtain ⟨b, off, e, _, hc⟩ := hA w K hne'
    cases e
    have hj' : j < (zs row).length := by
      rcases Nat.lt_or_ge j (zs row).length with h | h
      · exact h
      · rw [List.getElem?_eq_none h] at hj; cases hj
    have hq := hc j hj'
    have e1 : (⟨b, off, none⟩ : Addr).add j = ⟨b, off + j, none⟩ := Addr.add_mid ..
    rw [e1, hq, hj]
  · intro u' v' hO _
    obtain ⟨a', c', rfl, -⟩ := Own.val hO
    have e : 1 + row.length = row.length + 1 := by omega
    rw [e] at hO ⊢
    exact h u' a' c' hO
theorem rg_appL {so xo : Operand} {u : List Blk} {hs : List Value} {n g : Nat} {h : Value} {gd : Option (Nat × Bool)} (hg : Region.wanted ⟨d, .call ⟨.builtin .append, #[so, xo], #[33, 33]⟩, t, p, af, gd⟩ (yielded ops a.tmps) = true)
    (hs0 : a.eval so = v) (hown : Own 37 1 u v n hs) (hx : a.eval xo = .slice (some ⟨g, 0, none⟩) 1 1) (hn : n ≤ 1000000) (h1 : h.oneCell' = true) (hp : S.Perm (u ++ s))
    (hnews : ∀ w, Kn B F S w → Hd w g 37 #[h]) (hzz : ∀ z ∈ s0, z.1.Sublist s)
    (k : ∀ u' a' c', Own 37 1 u' (.slice a' (n + 1) c') (n + 1) (hs ++ [h]) → Rg R Try.prog ops Q B F s0 l (a.put d (.slice a' (n + 1) c')) (u' ++ s)) :
    Rg R Try.prog ops Q B F s0 ((⟨d, .call ⟨.builtin .append, #[so, xo], #[33, 33]⟩, t, p, af, gd⟩, 1) :: l) a S := by
  obtain ⟨i, hi, hz, hsz, hb⟩ := info_partsN sInfo
  refine rg_append (u := u) (s := s) (i := i) (z := .slice none 0 0) (size := 1) (bytes := 24) (n := n) (m := 1) (c := 1) (xs := hs) (news := [h]) (ad := ⟨g, 0, none⟩) hg
    Try.underlying33 hi hz hsz hb rfl (by decide) hs0 hown hx Rx ?_ (by simpa using h1) (by simp only [maxLen]; omega) Ox hp hzz ?_
  · intro w K j y hj
    have hd := (hnews w K).cell
    match j, hj with
    | 0, hj => simp only [List.getElem?_cons_zero, Option.some.injEq] at hj; subst hj; exact hd 0
    | j + 1, hj => simp at hj
  · intro u' v' hO _
    obtain ⟨a', c', rfl, -⟩ := Own.val hO
    exact k u' a' c' hO
end
section
variable {R : Option Nat} {ops : Array Oper} {Q : Exit → Act → World → Prop} {B : World} {F : List Nat} {s0 : Option (List Blk × List Blk)}
variable {l : List (Oper × Nat)} {a : Act} {s S : List Blk} {d : Option Tmp} {op : Op} {t : TypeId} {p : String} {af : Array Edge} {v : Value}
theorem rg_retL {f : Nat} {cargs : Array Operand} {at_ : Array TypeId} {args : Array Value} {c : Int} {rows : List (List Int)} {P : Program} {gd : Option (Nat × Bool)} (hg : Region.wanted ⟨d, .call ⟨.value (.func f), cargs, at_⟩, t, p, af, gd⟩ (yielded ops a.tmps) = true) (hgo : isGo P f = true)
    (h : ∀ w, Kn B F s w → Calls P f args w (RetL w rows c)) (hargs : cargs.map a.eval = args)
    (hz : ∀ z ∈ s0, z.1.Sublist s) (k : ∀ (va : Option Addr) (vc : Nat) (u : List Blk), OwnL u (.slice va rows.length vc) rows → Rg R P ops Q B F s0 l (a.put d (.tuple #[.slice va rows.length vc, .int .i64 c])) (u ++ s)) :
    Rg R P ops Q B F s0 ((⟨d, .call ⟨.value (.func f), cargs, at_⟩, t, p, af, gd⟩, 1) :: l) a s :=
  rg_call hg hgo hargs fun w K => (h w K).mono fun e w' ⟨v, u, he, hO, hm⟩ => by
    obtain ⟨u1, us, hs, e1, hO1, hR1⟩ := hO
    obtain ⟨a', c', rfl, -⟩ := Own.val hO1
    exact ⟨_, u ++ s, he, K.add hm, fun z hz' => (hz z hz').trans (List.sublist_append_right _ _), k a' c' u ⟨u1, us, hs, e1, hO1, hR1⟩⟩
end
def marksD (ds : List Nat) : List Blk := ds.map fun d => (d, .deferred (some []))
def collD (ds : List Nat) : List Deferred := ds.map fun d => ⟨.collected d, #[]⟩
section
variable {R : Option Nat} {P : Program} {Q : Exit → Act → World → Prop} {B : World} {F : List Nat} {a : Act} {s : List Blk} {X : Ending → World → Prop}
theorem leaves_marks {fn : Func} {tmps : Array Value} (h : ∀ w, Kn B F s w → ∃ v, (results fn tmps).run P w = .ok v w ∧ X (.returned v) w) : ∀ (ds : List Nat) (w : World), Kn B F (marksD ds ++ s) w → LeavesInM (FR none) 0 P fn tmps X (collD ds) .returning w
  | [], w, K => h w K
  | d :: ds, w, K => ⟨by simp, .inl ⟨d, _, rfl, run_takeDeferred (K.own (d, .deferred (some [])) (by simp [marksD])), leaves_marks h ds _ ((K.rep (Rep.here _)).tl)⟩⟩
theorem ek_normMn {fn : Func} {tmps : Array Value} (ds : List Nat) (h : ∀ w, Kn B F s w → ∃ v, (results fn tmps).run P w = .ok v w ∧ X (.returned v) w) :
    Ek B F (bodyPostM (FR none) 0 P fn X) .normal ⟨tmps, collD ds⟩ (marksD ds ++ s) := fun w K => leaves_marks h ds w K
theorem ek_retMn {fn : Func} {tmps : Array Value} (ds : List Nat) (h : ∀ w, Kn B F s w → ∃ v, (results fn tmps).run P w = .ok v w ∧ X (.returned v) w) :
    Ek B F (bodyPostM (FR none) 0 P fn X) .ret ⟨tmps, collD ds⟩ (marksD ds ++ s) := fun w K => leaves_marks h ds w K
def RelD (W : List Nat) (a0 : Act) (J : Nat → (Nat → Value) → List Deferred → List Blk → Prop) : Nat → Act → List Blk → Prop := fun n a s => ∃ f, a = ⟨(Act.putF a0 W f).tmps, a.defers⟩ ∧ J n f a.defers s
theorem wk_loopD {c : Code} (W : List Nat) (J : Nat → (Nat → Value) → List Deferred → List Blk → Prop) (n : Nat) (h0 : J n (Act.valF a) a.defers s) (ha : a = Act.putF a W (Act.valF a))
    (round : ∀ n f ds s, J n f ds s → Wk R P B F (Exit.then (Rnd B F (RelD W a J) n) Q) ⟨(Act.putF a W f).tmps, ds⟩ s c) : Wk R P B F Q a s (.loop c) :=
  wk_loop (RelD W a J) n ⟨_, ha, h0⟩ fun n a' s' h => by
    obtain ⟨f, ha', hJ⟩ := h
    rw [ha']
    exact round n f a'.defers s' hJ
theorem ek_roundD {W : List Nat} {a0 : Act} {J : Nat → (Nat → Value) → List Deferred → List Blk → Prop} {n : Nat} (m : Nat) (hm : m < n) (ha : a = ⟨(Act.putF a0 W (Act.valF a)).tmps, a.defers⟩) (h : J m (Act.valF a) a.defers s) :
    Ek B F (Exit.then (Rnd B F (RelD W a0 J) n) Q) .normal a s := ek_round m hm ⟨_, ha, h⟩
end
end Go.Proofs.Ytjeijnjaleldkaa
