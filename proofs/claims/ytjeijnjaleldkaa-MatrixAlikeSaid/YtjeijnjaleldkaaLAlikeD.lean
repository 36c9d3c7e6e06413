/- Texts in one: Ort, Ak3, Zs, Mob, AkT, Mo1, Wb6. -/
import Derived.Test.YtjeijnjaleldkaaLAlikeC
namespace Go.Proofs.Ytjeijnjaleldkaa
set_option linter.all false
set_option maxRecDepth 100000
set_option maxHeartbeats 1000000
open Go.RowKit
section
variable {P : Program} {ops : Array Oper} {Q : Exit → Act → World → Prop} {md : Region.Mode}
def Cl (md : Region.Mode) (ops : Array Oper) (listed : Array Bool) : Prop := ∀ k ok, ops[k]? = some ok → listed.getD k false = true → ∀ e ∈ ok.after, Region.binds md e = true → listed.getD e.on false = true
theorem Cl.step {listed : Array Bool} {j : Nat} (h : Cl md ops listed) (hj : j ∈ Region.ready md ops listed) : Cl md ops (listed.setIfInBounds j true) := fun k ok hk hl e he hb => by
  by_cases e1 : j = k
  · subst e1
    obtain ⟨-, o, ho, hall⟩ := mem_ready.1 hj
    rw [hk] at ho
    cases ho
    exact getD_set_true (hall e he hb)
  · rw [getD_set_ne false e1] at hl
    exact getD_set_true (h k ok hk hl e he hb)
def reachT (md : Region.Mode) (ops : Array Oper) : Nat → Nat → Nat → Bool
  | 0, _, _ => false
  | f + 1, m, i => match ops[m]? with
    | some o => o.after.any fun e => Region.binds md e && (e.on == i || reachT md ops f e.on i)
    | none => false
theorem reach_listed {listed : Array Bool} {i : Nat} (h : Cl md ops listed) : ∀ (f d : Nat), listed.getD d false = true → reachT md ops f d i = true → listed.getD i false = true
  | 0, _, _, hr => by cases hr
  | f + 1, d, hd, hr => by
    unfold reachT at hr
    cases ho : ops[d]? with
    | none => rw [ho] at hr; cases hr
    | some o =>
      rw [ho] at hr
      simp only [Array.any_eq_true, Bool.and_eq_true, Bool.or_eq_true, beq_iff_eq] at hr
      obtain ⟨n, hn, hb, hor⟩ := hr
      have hl := h d o ho hd _ (Array.getElem_mem hn) hb
      rcases hor with e | e
      · rw [← e]; exact hl
      · exact reach_listed h f _ hl e
theorem reach_ready {listed : Array Bool} {m i f : Nat} (h : Cl md ops listed) (hm : m ∈ Region.ready md ops listed) (hr : reachT md ops f m i = true) : listed.getD i false = true := by
 cases f with
 | zero => cases hr
 | succ f =>
  unfold reachT at hr
  obtain ⟨-, o, ho, hall⟩ := mem_ready.1 hm
  rw [ho] at hr
  simp only [Array.any_eq_true, Bool.and_eq_true, Bool.or_eq_true, beq_iff_eq] at hr
  obtain ⟨n, hn, hb, hor⟩ := hr
  have hl := hall _ (Array.getElem_mem hn) hb
  rcases hor with e | e
  ·rw [← e]; exact hl
  ·exact reach_listed h f _ hl e
theorem wpAnyF_firstT {S : Array Bool → World → Prop} {T : World → Prop} {i : Nat} {oi : Oper} {v : Value} (hi : ops[i]? = some oi) (hsel : ∀ (j : Nat) (o : Oper) cs b, ops[j]? = some o → o.op ≠ .select cs b)
    (hQ : ∀ c a w, Q (.panic c) (a.put oi.dst v) w → Q (.panic c) a w)
    (hSi : ∀ listed w, S (listed.setIfInBounds i true) w ↔ S listed w)
    (hSj : ∀ j listed, Cl md ops listed → j ∈ Region.ready md ops listed → listed.getD i true = false → (∀ w, S listed w → T w) → ∀ w, S (listed.setIfInBounds j true) w → T w) :
    ∀ (fuel : Nat) (listed : Array Bool) (a : Act) (w : World), Cl md ops listed → (∀ w, S listed w → T w) →
      (∀ j oj, ops[j]? = some oj → j ≠ i → listed.getD j true = false → (∀ e ∈ oj.after, Region.binds md e = true → e.on ≠ i) → oi.apart ops oj = true) →
      i ∈ Region.ready md ops listed → YieldsIf P ops T oi v a → S listed w →
      wpAnyF P md ops Q S fuel (listed.setIfInBounds i true) (a.put oi.dst v) w → wpAnyF P md ops Q S (fuel + 1) listed a w := by
  intro fuel
  induction fuel with
  | zero =>
    intro listed a w hC hT _ hr hy hS H
    refine ⟨fun h => (by rw [h] at hr; cases hr), fun j hj => ?_⟩
    by_cases hji : j = i
    · subst hji; exact hy.wpOp hi (hT w hS) ⟨(hSi _ _).2 hS, H⟩
    · have := ready_mono hj hji
      rw [H.1] at this
      cases this
  | succ fuel ih =>
    intro listed a w hC hT hfree hr hy hS H
    refine ⟨fun h => (by rw [h] at hr; cases hr), fun j hj => ?_⟩
    by_cases hji : j = i
    · subst hji; exact hy.wpOp hi (hT w hS) ⟨(hSi _ _).2 hS, H⟩
    · have h1 := H.2 j (ready_mono hj hji)
      obtain ⟨hjun, oj, hoj, hall⟩ := mem_ready.1 hj
      have hnot : ∀ e ∈ oj.after, Region.binds md e = true → e.on ≠ i := fun e he hb heq => by
        have h1 := hall e he hb
        have h0 := (mem_ready.1 hr).1
        rw [heq] at h1
        rcases Nat.lt_or_ge i listed.size with h' | h'
        · simp [h'] at h0 h1; rw [h0] at h1; cases h1
        · simp [Array.getElem?_eq_none h'] at h1
      have h2 := wpOp_putIf hoj (hfree j oj hoj hji hjun hnot) (fun cs b => hsel i oi cs b hi) (fun cs b => hsel j oj cs b hoj) hQ hy h1
      have hfree' : ∀ k ok, ops[k]? = some ok → k ≠ i → (listed.setIfInBounds j true).getD k true = false →
          (∀ e ∈ ok.after, Region.binds md e = true → e.on ≠ i) → oi.apart ops ok = true := fun k ok hk hki hun hno => by
        refine hfree k ok hk hki ?_ hno
        by_cases hjk : j = k
        · subst hjk; exact hjun
        · rw [getD_set_ne true hjk] at hun; exact hun
      have hSjj := hSj j listed hC hj (mem_ready.1 hr).1 hT
      refine wpOp_mono (fun a' w' h3 => ?_) h2
      have hS3 : S (listed.setIfInBounds j true) w' := by
        have := h3.2.1
        rw [Array.setIfInBounds_comm _ _ (Ne.symm hji)] at this
        exact (hSi _ _).1 this
      refine ⟨hS3, ih (listed.setIfInBounds j true) a' w' (hC.step hj) hSjj hfree' (ready_mono hr (Ne.symm hji)) h3.1 hS3 ?_⟩
      rw [Array.setIfInBounds_comm _ _ hji]
      exact h3.2.2
def eagT (md : Region.Mode) (ops : Array Oper) : List (Nat × Nat) → List Nat → Array Bool → Bool
  | [], ms, listed => (Region.ready md ops listed).isEmpty
  | (i, 0) :: l, ms, listed => (Region.ready md ops listed).contains i && (Region.free md ops listed i &&
      ((ms.all fun m => m != i && reachT md ops 20 m i) && eagT md ops l ms (listed.setIfInBounds i true)))
  | (i, 1) :: l, ms, listed => decide (Region.ready md ops listed = [i]) && (!ms.contains i && eagT md ops l ms (listed.setIfInBounds i true))
  | (i, 2) :: l, ms, listed => match ms with
    | [] => false
    | m :: r => decide (Region.ready md ops listed = [i]) && (m == i && (decide (i < listed.size) && (!r.contains i && eagT md ops l r (listed.setIfInBounds i true))))
  | (i, _ + 3) :: l, ms, listed => (Region.ready md ops listed).contains i && (Region.free md ops listed i && (!ms.contains i && eagT md ops l ms (listed.setIfInBounds i true)))
theorem wpAnyF_of_eagT {c : World → Prop} (hs : Region.noSelect ops = true) (hQ : ∀ c d v a w, Q (.panic c) (Act.put a d v) w → Q (.panic c) a w) :
    ∀ (l : List (Nat × Nat)) (m : List (Nat × (World → Prop))) (b : World → Prop) (listed : Array Bool) (a : Act) (w : World), Cl md ops listed → (∀ x ∈ m, listed.getD x.1 false = false) →
      (∀ w, b w → c w) → (∀ x ∈ m, ∀ w, x.2 w → c w) → eagT md ops l (m.map (·.1)) listed = true → b w → wpEagF P ops Q c l m b a w → wpAnyF P md ops Q (sOf m b) l.length listed a w
  | [], m, b, listed, a, w, _, hm, _, _, hB, _, h => ⟨by simpa [eagT] using hB, h⟩
  | (i, 0) :: l, m, b, listed, a, w, hC, hm, hc, hcm, hB, hb, h => by
    simp only [eagT, Bool.and_eq_true] at hB
    obtain ⟨hr, hf, hms, hB'⟩ := hB
    obtain ⟨o, v, ho, hy, hrest⟩ := h
    have hbase : ∀ listed' : Array Bool, (∀ x ∈ m, listed'.getD x.1 false = false) → sOf m b listed' = b := by
      intro listed' h'
      cases m with
      | nil => rfl
      | cons x r => simp only [sOf]; rw [if_neg (by rw [h' x (by simp)]; simp)]
    have hmi : ∀ x ∈ m, x.1 ≠ i := fun x hx e => by
      have := List.all_eq_true.1 hms x.1 (List.mem_map.2 ⟨x, hx, rfl⟩)
      simp [e] at this
    have hmr : ∀ x ∈ m, reachT md ops 20 x.1 i = true := fun x hx => by
      have := List.all_eq_true.1 hms x.1 (List.mem_map.2 ⟨x, hx, rfl⟩)
      rw [Bool.and_eq_true] at this
      exact this.2
    have hir : i ∈ Region.ready md ops listed := by simpa using hr
    refine wpAnyF_firstT (T := b) ho (Region.noSelect_spec hs) (fun c a w => hQ c _ _ a w) (fun listed w => by rw [sOf_other m b listed hmi]) (fun j listed hCl hj hun h w hw => h w (by
        rw [sOf_other m b listed (fun x hx e => by
          have h1 := reach_ready hCl (e ▸ hj) (hmr x hx)
          rcases Nat.lt_or_ge i listed.size with h' | h'
          · simp [h'] at h1 hun; rw [hun] at h1; cases h1
          · simp [Array.getElem?_eq_none h'] at h1)] at hw
        exact hw))
      l.length listed a w hC (by rw [hbase listed hm]; exact fun _ h => h) (Region.free_spec ho hf) hir hy (by rw [hbase listed hm]; exact hb) ?_
    exact wpAnyF_of_eagT hs hQ l m b _ _ _ (hC.step (by simpa using hr)) (fun x hx => by rw [getD_set_ne false (Ne.symm (hmi x hx))]; exact hm x hx) hc hcm hB' hb hrest
  | (i, n + 3) :: l, m, b, listed, a, w, hC, hm, hc, hcm, hB, hb, h => by
    simp only [eagT, Bool.and_eq_true, Bool.not_eq_true'] at hB
    obtain ⟨hr, hf, hni, hB'⟩ := hB
    obtain ⟨o, v, ho, hy, hrest⟩ := h
    have hmi : ∀ x ∈ m, x.1 ≠ i := fun x hx e => by
      have : (m.map (·.1)).contains i = true := by simp only [List.contains_iff_mem]; exact List.mem_map.2 ⟨x, hx, e⟩
      rw [this] at hni; cases hni
    have hbase : ∀ listed' : Array Bool, (∀ x ∈ m, listed'.getD x.1 false = false) → sOf m b listed' = b := by
      intro listed' h'
      cases m with
      | nil => rfl
      | cons x r => simp only [sOf]; rw [if_neg (by rw [h' x (by simp)]; simp)]
    refine wpAnyF_firstT (T := c) ho (Region.noSelect_spec hs) (fun c a w => hQ c _ _ a w) (fun listed w => by rw [sOf_other m b listed hmi]) (fun _ _ _ _ _ _ => sOf_c m b _ hc hcm)
      l.length listed a w hC (sOf_c m b _ hc hcm) (Region.free_spec ho hf) (by simpa using hr) hy (by rw [hbase listed hm]; exact hb) ?_
    exact wpAnyF_of_eagT hs hQ l m b _ _ _ (hC.step (by simpa using hr)) (fun x hx => by rw [getD_set_ne false (Ne.symm (hmi x hx))]; exact hm x hx) hc hcm hB' hb hrest
  | (i, 1) :: l, m, b, listed, a, w, hC, hm, hc, hcm, hB, hb, h => by
    simp only [eagT, Bool.and_eq_true, decide_eq_true_eq, Bool.not_eq_true'] at hB
    obtain ⟨hr, hni, hB'⟩ := hB
    have hmi : ∀ x ∈ m, x.1 ≠ i := fun x hx e => by
      have : (m.map (·.1)).contains i = true := by simp only [List.contains_iff_mem]; exact List.mem_map.2 ⟨x, hx, e⟩
      rw [this] at hni; cases hni
    have hm' : ∀ x ∈ m, (listed.setIfInBounds i true).getD x.1 false = false := fun x hx => by rw [getD_set_ne false (Ne.symm (hmi x hx))]; exact hm x hx
    have hbase : sOf m b (listed.setIfInBounds i true) = b := by
      cases m with
      | nil => rfl
      | cons x r => simp only [sOf]; rw [if_neg (by rw [hm' x (by simp)]; simp)]
    refine ⟨fun h0 => (by rw [h0] at hr; cases hr), fun j hj => ?_⟩
    rw [hr] at hj
    have hji : j = i := by simpa using hj
    subst hji
    refine wpOp_mono (fun a' w' h' => ⟨by rw [hbase]; exact h'.1, wpAnyF_of_eagT hs hQ l m b _ _ _ (hC.step (by rw [hr]; simp)) hm' hc hcm hB' h'.1 h'.2⟩) h
  | (i, 2) :: l, [], b, listed, a, w, hC, hm, hc, hcm, hB, hb, h => by simp [eagT] at hB
  | (i, 2) :: l, (m, p) :: r, b, listed, a, w, hC, hm, hc, hcm, hB, hb, h => by
    simp only [eagT, List.map_cons, Bool.and_eq_true, decide_eq_true_eq, beq_iff_eq, Bool.not_eq_true'] at hB
    obtain ⟨hr, hmi, hlt, hni, hB'⟩ := hB
    subst hmi
    have hri : ∀ x ∈ r, x.1 ≠ m := fun x hx e => by
      have : (r.map (·.1)).contains m = true := by simp only [List.contains_iff_mem]; exact List.mem_map.2 ⟨x, hx, e⟩
      rw [this] at hni; cases hni
    have hm' : ∀ x ∈ r, (listed.setIfInBounds m true).getD x.1 false = false := fun x hx => by rw [getD_set_ne false (Ne.symm (hri x hx))]; exact hm x (by simp [hx])
    have hset : ∀ (listed' : Array Bool), listed'.getD m false = true → sOf ((m, p) :: r) b listed' = sOf r p listed' := fun listed' h' => by simp only [sOf]; rw [if_pos h']
    have hgot : (listed.setIfInBounds m true).getD m false = true := by simp [Array.getD_eq_getD_getElem?, hlt]
    have hbase : sOf r p (listed.setIfInBounds m true) = p := by
      cases r with
      | nil => rfl
      | cons x r => simp only [sOf]; rw [if_neg (by rw [hm' x (by simp)]; simp)]
    refine ⟨fun h0 => (by rw [h0] at hr; cases hr), fun j hj => ?_⟩
    rw [hr] at hj
    have hji : j = m := by simpa using hj
    subst hji
    have h : wpOp P ops Q j (fun a' w' => p w' ∧ wpEagF P ops Q c l r p a' w') a w := by simpa only [wpEagF] using h
    refine wpOp_mono (fun a' w' h' => ⟨by rw [hset _ hgot, hbase]; exact h'.1, ?_⟩) h
    refine wpAnyF_congr (S := sOf r p) (fun listed' => listed'.getD j false = true) ?_ (fun listed' h' => (hset listed' h').symm) _ _ _ _ hgot (wpAnyF_of_eagT hs hQ l r p _ _ _ (hC.step (by rw [hr]; simp)) hm' (hcm (j, p) (by simp)) (fun x hx => hcm x (by simp [hx])) hB' h'.1 h'.2)
    intro listed' k hk
    by_cases hkj : k = j
    · subst hkj
      rcases Nat.lt_or_ge k listed'.size with h' | h'
      · simp [Array.getD_eq_getD_getElem?, h']
      · rw [show listed'.setIfInBounds k true = listed' from by simp [Array.setIfInBounds, Nat.not_lt.2 h']]; exact hk
    · rw [getD_set_ne false hkj]; exact hk
theorem wp_region_eagT {id : Nat} {a : Act} {w : World} {l : List Oper} {c : World → Prop} (m : List (Nat × (World → Prop))) (b : World → Prop) (ord : List (Nat × Nat)) (hm : P.follows .mixedOrders = true)
    (hB : (Region.noSelect l.toArray && (decide (ord.length = l.length) && eagT .any l.toArray ord (m.map (·.1)) (Array.replicate l.length false))) = true)
    (hQ : ∀ c d v a w, Q (.panic c) (Act.put a d v) w → Q (.panic c) a w) (hb : b w.drew) (hc : ∀ w, b w → c w) (hcm : ∀ x ∈ m, ∀ w, x.2 w → c w)
    (h : wpEagF P l.toArray Q c ord m b a w.drew) : (Code.region id l.toArray true).wp P Q a w := by
  simp only [Bool.and_eq_true, decide_eq_true_eq] at hB
  obtain ⟨hs, hl, hB⟩ := hB
  refine wp_region_any hm ?_
  have hx : ∀ x ∈ m, (Array.replicate l.length false).getD x.1 false = false := fun x _ => by
    rw [Array.getD_eq_getD_getElem?]
    rcases Nat.lt_or_ge x.1 l.length with h' | h' <;> simp [h', Array.getElem?_replicate]
  have := wpAnyF_of_eagT (md := .any) hs hQ ord m b _ a w.drew (fun k ok hk h => by
    rw [Array.getD_eq_getD_getElem?] at h
    rcases Nat.lt_or_ge k l.length with h' | h' <;> simp [h', Array.getElem?_replicate] at h) hx hc hcm hB hb h
  rw [hl] at this
  exact wpAny_of_F _ _ _ _ (by simpa using this)
end
section
variable {R : Option Nat} {P : Program} {ops : Array Oper} {Q : Exit → Act → World → Prop} {B : World} {F : List Nat} {s0 : Option (List Blk × List Blk)}
theorem wk_drawsT {id : Nat} {a : Act} {s : List Blk} {l : List Oper} (z z1 : List Blk) (ord : List (Nat × Nat)) (mk : List Nat) (hm : P.follows .mixedOrders = true)
    (hB : ((Region.noSelect l.toArray && (decide (ord.length = l.length) && eagT .any l.toArray ord mk (Array.replicate l.length false))) &&
      ((ord.all fun p => decide (p.1 < l.length)) && (decide (mk.length ≤ 1) && decide ((ord.map (·.2)).filter (· == 2) = mk.map fun _ => 2)))) = true)
    (hQ : ∀ c d v a w, Q (.panic c) (Act.put a d v) w → Q (.panic c) a w) (hz : z.Sublist s) (hzz : mk = [] → z = z1)
    (h : Rg none P l.toArray Q B F (some (z, z1)) (ord.map fun p => (l.getD p.1 default, p.2)) a s) (hy : z1.Sublist z := by exact List.Sublist.refl _) : Wk none P B F Q a s (Code.region id l.toArray true) := fun w K => by
  simp only [Bool.and_eq_true, decide_eq_true_eq, List.all_eq_true] at hB
  obtain ⟨hB1, h1, h3, h4⟩ := hB
  refine wpIn_wide.2 ?_
  match mk, h3, h4, hB1, hzz with
  | [], _, h4, hB1, hzz =>
    refine wp_region_eagT [] (Kn B F z) ord hm (by simp only [Bool.and_eq_true, decide_eq_true_eq]; exact hB1) hQ (K.drew.sub hz) (fun w K => K.sub hy) (fun x hx => nomatch hx) ?_
    refine rg_eag l rfl 0 ord (z, z1) a s [] (.inr ⟨rfl, hzz rfl, fun p hp e => ?_⟩) (by rw [if_pos rfl]; exact h4) (by simpa [List.all_eq_true] using h1) h w.drew K.drew
    have : p.2 ∈ (ord.map (·.2)).filter (· == 2) := List.mem_filter.2 ⟨List.mem_map.2 ⟨p, hp, rfl⟩, by simp [e]⟩
    rw [h4] at this; cases this
  | [x], _, h4, hB1, _ =>
    refine wp_region_eagT [(x, Kn B F z1)] (Kn B F z) ord hm (by simp only [Bool.and_eq_true, decide_eq_true_eq]; exact hB1) hQ (K.drew.sub hz) (fun w K => K.sub hy) (fun x hx w K => by simp only [List.mem_singleton] at hx; subst hx; exact K) ?_
    exact rg_eag l rfl x ord (z, z1) a s [(x, Kn B F z1)] (.inl rfl) (by rw [if_neg (by simp)]; exact h4) (by simpa [List.all_eq_true] using h1) h w.drew K.drew
  | _ :: _ :: _, h3, _, _, _ => simp at h3
theorem wk_drawsT_m {id : Nat} {a : Act} {s z1 : List Blk} (hz1 : z1.Sublist s) {l : List Oper} (ord : List (Nat × Nat)) (mk : Nat) (hm : P.follows .mixedOrders = true)
    (hB : ((Region.noSelect l.toArray && (decide (ord.length = l.length) && eagT .any l.toArray ord [mk] (Array.replicate l.length false))) &&
      ((ord.all fun p => decide (p.1 < l.length)) && (decide ([mk].length ≤ 1) && decide ((ord.map (·.2)).filter (· == 2) = [mk].map fun _ => 2)))) = true)
    (hQ : ∀ c d v a w, Q (.panic c) (Act.put a d v) w → Q (.panic c) a w)
    (h : Rg none P l.toArray Q B F (some (s, z1)) (ord.map fun p => (l.getD p.1 default, p.2)) a s) : Wk none P B F Q a s (Code.region id l.toArray true) :=
  wk_drawsT s z1 ord [mk] hm hB hQ (List.Sublist.refl _) (fun e => nomatch e) h hz1
end
theorem between_yes (x y : Nm) (hx : x.Ok) (hz : NotZ x y) (t : Nat) (h : btw x y = some t) (w : World) : Calls Try.prog 90 #[nmV x, nmV y] w fun e w' => e = .returned (.tuple #[.int .i64 t, .bool true]) ∧ Below w.heap.size w w' := by
 have h1 := between_any x y hx hz w
 unfold btV btB at h1
 rwa [h] at h1
theorem between_none (x y : Nm) (hx : x.Ok) (hz : NotZ x y) (h : btw x y = none) (w : World) : Calls Try.prog 90 #[nmV x, nmV y] w fun e w' => e = .returned (.tuple #[.int .i64 0, .bool false]) ∧ Below w.heap.size w w' := by
 have h1 := between_any x y hx hz w
 unfold btV btB at h1
 rwa [h] at h1
theorem malike_any (n m : Int) (xs ys : List Nm) (a a' : Option Addr) (c c' : Nat) (hl : xs.length ≤ 1000000) (hl' : ys.length ≤ 1000000) (w : World) (hA : AS w a (nms xs)) (hB : AS w a' (nms ys)) : Calls Try.prog 39 #[.agg #[.int .i64 n, .slice a xs.length c], .agg #[.int .i64 m, .slice a' ys.length c']] w fun e w' => e = .returned (.tuple #[.bool (alkB n m xs ys), .int .i64 (alkE n m xs ys)]) ∧ Below w.heap.size w w' := by
 go_enter Try.func39, Try.ntmps39
 refine wk_start ?_
 refine wk_seq ?_
 refine wk_region [1, 1, 0, 0] rfl Kx ?_
 simp only [qy]
 refine Rgn fun g1 => ?_
 simp only [qz]
 refine Rgn fun g2 => ?_
 simp only [qz]
 refine rg_assign ?_
 simp only [qz]
 refine rg_assign ?_
 simp only [qz]
 refine rg_nil (ek_next (wk_seq (wk_block (wk_seq ?_))))
 refine wk_region [0, 1, 0, 0, 0, 1, 0, 0, 0] rfl Kx ?_
 simp only [qy]
 refine rf_loadR (n := 2) rfl rfl rfl Try.underlying24 rfl Kx (fun w hw => Kn.hd0 (Kn.tl hw)) rfl rfl ?_
 simp only [qz]
 apply rg_pureb Rx Kx
 case hargs => exact Ax
 case h => exact fun w hw => mvalid_any n xs a c hl w (hA.kn0 hw)
 case hz => exact Nz
 intro x h1
 cases x
 ·(try simp only [qd, ne_eq] at h1)
  simp only [qz]
  refine rf_not rfl rfl rfl ?_
  simp only [qz]
  refine rg_move ?_
  simp only [qz]
  refine rg_skip Rx ?_
  simp only [qz]
  refine rg_skip_h Rx Nz ?_
  simp only [qz]
  refine rg_skip Rx ?_
  simp only [qz]
  refine rf_pick rfl rfl rfl ?_
  simp only [qz]
  refine rg_assign ?_
  simp only [qz]
  refine rg_nil (ek_next (wk_cond_t rfl (wk_seq ?_)))
  refine wk_region [0, 0] rfl Kx ?_
  simp only [qy]
  refine rg_assign ?_
  simp only [qz]
  refine rg_assign ?_
  simp only [qz]
  refine rg_nil (ek_next (wk_ret (ek_block_ret (ek_then_ret ?_))))
  refine ek_ret (fun w hw => ⟨rfl, _, res_tt _ _ rfl, ?_⟩)
  (try simp only [qz])
  obtain ⟨e1, e2⟩ := alk_bad (n := n) (m := m) (xs := xs) (ys := ys) (by rw [h1]; rfl)
  exact ⟨by rw [e1, e2], hw.below⟩
 (try simp only [qd, ne_eq] at h1)
 simp only [qz]
 have hv := h1
 obtain ⟨N, rfl, hN1, hN, hlx, hlx36, hox⟩ := validB_N' hv
 replace hlx := Lib.hid hlx
 refine rf_not rfl rfl rfl ?_
 simp only [qz]
 refine rg_move ?_
 simp only [qz]
 refine rf_loadR (n := 2) rfl rfl rfl Try.underlying24 rfl Kx (fun w hw => Kn.hd0 hw) rfl rfl ?_
 simp only [qz]
 apply rg_pureb Rx Kx
 case hargs => exact Ax
 case h => exact fun w hw => mvalid_any m ys a' c' hl' w (hB.kn0 hw)
 case hz => exact Nz
 intro x h2
 cases x
 ·(try simp only [qd, ne_eq] at h2)
  simp only [qz]
  refine rf_not rfl rfl rfl ?_
  simp only [qz]
  refine rf_pick rfl rfl rfl ?_
  simp only [qz]
  refine rg_assign ?_
  simp only [qz]
  refine rg_nil (ek_next (wk_cond_t rfl (wk_seq ?_)))
  refine wk_region [0, 0] rfl Kx ?_
  simp only [qy]
  refine rg_assign ?_
  simp only [qz]
  refine rg_assign ?_
  simp only [qz]
  refine rg_nil (ek_next (wk_ret (ek_block_ret (ek_then_ret ?_))))
  refine ek_ret (fun w hw => ⟨rfl, _, res_tt _ _ rfl, ?_⟩)
  (try simp only [qz])
  obtain ⟨e1, e2⟩ := alk_bad (n := (N : Int)) (m := m) (xs := xs) (ys := ys) (by rw [hv, h2]; rfl)
  exact ⟨by rw [e1, e2], hw.below⟩
 (try simp only [qd, ne_eq] at h2)
 simp only [qz]
 have hv2 := h2
 obtain ⟨M, rfl, hM1, hM, hly, hly36, hoy⟩ := validB_N' hv2
 replace hly := Lib.hid hly
 refine rf_not rfl rfl rfl ?_
 simp only [qz]
 refine rf_pick rfl rfl rfl ?_
 simp only [qz]
 refine rg_assign ?_
 simp only [qz]
 refine rg_nil (ek_next (wk_cond_f rfl (wk_seq ?_)))
 refine wk_region [0, 0, 0, 0, 0, 0] rfl Kx ?_
 simp only [qy]
 refine rf_field (n := 0) (j := 0) rfl rfl rfl Try.underlying24 rfl Kx rfl ?_
 simp only [qz]
 refine rf_load rfl rfl rfl Try.underlying3 rfl (fun w hw => (Kn.hd0 (Kn.tl hw)).at rfl) ?_
 simp only [qz]
 refine rf_field (n := 0) (j := 0) rfl rfl rfl Try.underlying24 rfl Kx rfl ?_
 simp only [qz]
 refine rf_load rfl rfl rfl Try.underlying3 rfl (fun w hw => (Kn.hd0 hw).at rfl) ?_
 simp only [qz]
 refine rfb_neq rfl rfl rfl rfl ?_
 intro x h3
 cases x
 ·(try simp only [qd, ne_eq] at h3)
  simp only [qz]
  refine rg_assign ?_
  simp only [qz]
  refine rg_nil (ek_next (wk_cond_f rfl (wk_skip (ek_block (ek_next (wk_seq ?_))))))
  obtain rfl : N = M := by omega
  have hvv : (validB N xs && validB N ys) = true := by rw [hv, hv2]; rfl
  obtain ⟨e1, e2⟩ := alk_ok hvv
  have hle1 : ys.length ≤ xs.length := by rw [hlx.out, hly.out]; exact Nat.le_refl _
  have hle2 : xs.length ≤ ys.length := by rw [hlx.out, hly.out]; exact Nat.le_refl _
  have hp1 : 0 < xs.length := by rw [hlx.out]; exact Nat.mul_pos Ox Ox
  replace e1 := Lib.hid e1
  replace e2 := Lib.hid e2
  replace hvv := Lib.hid hvv
  obtain ⟨b1, o1, ha, hlt1, hcell1⟩ := AS.openN hA hp1
  obtain ⟨b2, o2, hb, hlt2, hcell2⟩ := AS.openN hB Ox
  subst ha hb
  refine wk_region [0, 0, 1, 1, 0, 1, 0] rfl Kx ?_
  simp only [qy]
  refine rf_field (n := 0) (j := 0) rfl rfl rfl Try.underlying24 rfl Kx rfl ?_
  simp only [qz]
  refine rf_load rfl rfl rfl Try.underlying3 rfl (fun w hw => (Kn.hd0 (Kn.tl hw)).at rfl) ?_
  simp only [qz]
  refine rg_makeMap kvI Rx Nz (fun bt => ?_)
  simp only [qz]
  refine rg_makeMap (kvE N) Rx Nz (fun be => ?_)
  simp only [qz]
  refine rf_build (cs := fun a => #[a.eval (.tmp 31), a.eval (.tmp 32), a.eval (.tmp 33)]) rfl rfl Kx ?_
  simp only [qz]
  refine rg_new (cs := #[.int .i64 N, .map (some bt), .map (some be)]) (ty := 117) Rx (fun w => ?_) Nz (fun gp => ?_)
  focus go_simp
  simp only [qz]
  refine rg_assign ?_
  simp only [qz]
  refine rg_nil (ek_next (wk_seq (wk_seq ?_)))
  refine wk_region [0, 0, 0, 0] rfl Kx ?_
  simp only [qy]
  refine rf_field (n := 0) (j := 1) rfl rfl rfl Try.underlying24 rfl Kx rfl ?_
  simp only [qz]
  refine rf_load rfl rfl rfl Try.underlying22 rfl (fun w hw => (Kn.hd0 (Kn.tl (Kn.tl (Kn.tl (Kn.tl hw))))).at rfl) ?_
  simp only [qz]
  refine rf_len rfl rfl rfl Try.underlying22 ?_
  simp only [qz]
  refine rg_move ?_
  simp only [qz]
  refine rg_nil (ek_next (wk_block ?_))
  refine wk_loopF [4, 5, 7, 8, 9, 10, 11, 39, 40, 41, 42, 43, 44, 45, 46, 47, 48, 49, 50, 51, 52, 53, 54, 55, 56, 57, 58, 59, 60, 61, 62, 63, 64, 65, 66, 67, 68, 69, 70, 71, 72, 73, 74, 75, 76, 77, 78, 79, 80, 81, 82] (fun mz f s => ∃ (i : Nat) (el : List (Nat × Nat × Nat)), f 39 = .int .i64 i ∧ s = ((gp, .cells #[.int .i64 N, .map (some bt), .map (some be)] 117) :: ((be, mapO (kvE N) el) :: ((bt, mapO kvI []) :: ((g2, .cells #[.int .i64 N, .slice (some ⟨b2, o2, none⟩) ys.length c'] 24) :: ((g1, .cells #[.int .i64 N, .slice (some ⟨b1, o1, none⟩) xs.length c] 24) :: []))))) ∧ mz = xs.length - i ∧ i ≤ xs.length ∧ Hid (EdgA N (edM N xs ys) el i)) ((fun (i : Nat) (el : List (Nat × Nat × Nat)) => xs.length - i) (0) ([])) ?_ Kx ?_
  ·exact ⟨0, [], rfl, rfl, rfl, by omega, (Lib.hid (edgA_start _ _))⟩
  rintro mz f1 s ⟨i, el, hs1_39, rfl, hn, hd1, hd2⟩
  simp only [Act.putF, List.foldl_cons, List.foldl_nil, hs1_39, Act.put, Act.eval, q1, q2, q3, q4, q5, q6, q7, q8, q9, q10, q11, q12, q13, q14, q15, q16, q17, q18, Nat.reduceAdd, Bool.not_true, Bool.not_false]
  clear hs1_39
  refine wk_seq ?_
  refine wk_region [0] rfl Kx ?_
  simp only [qy]
  refine rfb_lss rfl rfl rfl rfl ?_
  intro x h4
  cases x
  ·(try simp only [qd, ne_eq] at h4)
   simp only [qz]
   refine rg_nil (ek_next (wk_seq (wk_cond_f rfl (wk_exit (ek_then_exit (ek_then_exit (ek_block_exit (ek_next (wk_seq (wk_seq ?_))))))))))
   refine wk_region [0, 0, 0, 0] rfl Kx ?_
   simp only [qy]
   refine rf_field (n := 0) (j := 0) rfl rfl rfl Try.underlying24 rfl Kx rfl ?_
   simp only [qz]
   refine rf_load rfl rfl rfl Try.underlying3 rfl (fun w hw => (Kn.hd0 (Kn.tl (Kn.tl (Kn.tl (Kn.tl hw))))).at rfl) ?_
   simp only [qz]
   refine rf_mul rfl rfl rfl rfl (wrap_ok Ox Ox) ?_
   simp only [qz]
   refine rg_move ?_
   simp only [qz]
   refine rg_nil (ek_next (wk_block ?_))
   obtain rfl : i = xs.length := by omega
   have hLi : LisA N (edM N xs ys) el := EdgA.lis (by have h := hd2.out; rwa [hlx.out] at h)
   refine wk_loopF [4, 5, 12, 13, 14, 86, 87, 88, 89, 90, 91, 92, 93, 94, 95, 96, 97, 98, 99, 100, 101, 102, 103, 104, 105, 106] (fun mz f s => ∃ (k : Nat) (tm : List (Int × Int)), f 86 = .int .i64 k ∧ s = ((gp, .cells #[.int .i64 N, .map (some bt), .map (some be)] 117) :: ((be, mapO (kvE N) el) :: ((bt, mapO kvI tm) :: ((g2, .cells #[.int .i64 N, .slice (some ⟨b2, o2, none⟩) ys.length c'] 24) :: ((g1, .cells #[.int .i64 N, .slice (some ⟨b1, o1, none⟩) xs.length c] 24) :: []))))) ∧ mz = 2 * N - k ∧ k ≤ 2 * N ∧ Hid (CloA N (edM N xs ys) (toT tm)) ∧ KvA tm ∧ Hid (∀ u, u < k → 0 ≤ toT tm u)) ((fun (k : Nat) (tm : List (Int × Int)) => 2 * N - k) (0) ([])) ?_ Kx ?_
   ·exact ⟨0, [], rfl, rfl, rfl, by omega, (Lib.hid (cloA_start (fun _ _ => by show (-1 : Int) < 0; decide))), (fun q x h => by cases h), (Lib.hid (fun u hu => by omega))⟩
   rintro mz f2 s ⟨k, tm, hs2_86, rfl, hn, hf1, hf2, hf3, hf4⟩
   simp only [Act.putF, List.foldl_cons, List.foldl_nil, hs2_86, Act.put, Act.eval, q1, q2, q3, q4, q5, q6, q7, q8, q9, q10, q11, q12, q13, q14, q15, q16, q17, q18, Nat.reduceAdd, Bool.not_true, Bool.not_false]
   clear hs2_86
   refine wk_seq ?_
   refine wk_region [0] rfl Kx ?_
   simp only [qy]
   refine rfb_lss rfl rfl rfl rfl ?_
   intro x h5
   cases x
   ·(try simp only [qd, ne_eq] at h5)
    simp only [qz]
    refine rg_nil (ek_next (wk_seq (wk_cond_f rfl (wk_exit (ek_then_exit (ek_then_exit (ek_block_exit (ek_next (wk_seq ?_)))))))))
    refine wk_region [0, 0] rfl Kx ?_
    simp only [qy]
    refine rg_assign ?_
    simp only [qz]
    refine rg_assign ?_
    simp only [qz]
    refine rg_nil (ek_next (wk_ret ?_))
    refine ek_ret (fun w hw => ⟨rfl, _, res_tt _ _ rfl, ?_⟩)
    (try simp only [qz])
    have ha := alikeA_yes (clo_all hf2.out (fun u hu => hf4.out u Ox))
    exact ⟨by rw [e1.out, e2.out, ha], hw.below⟩
   (try simp only [qd, ne_eq] at h5)
   simp only [qz]
   refine rg_nil (ek_next (wk_seq (wk_cond_t rfl (wk_skip (ek_next (wk_seq (wk_block (wk_seq ?_))))))))
   refine wk_region [0, 0] rfl Kx ?_
   simp only [qy]
   refine rg_move ?_
   simp only [qz]
   refine rg_assign ?_
   simp only [qz]
   refine rg_nil (ek_next (wk_seq ?_))
   refine wk_region [0, 0, 0, 0, 0, 0, 0, 0, 0, 0, 0] rfl Kx ?_
   simp only [qy]
   refine rg_move ?_
   simp only [qz]
   apply rg_soft
   case hy => (intro w hw; go_simp; (try go_bits); exact Yld.mk _ _)
   simp only [qz]
   refine rf_field (n := 0) (j := 1) rfl rfl rfl Try.underlying117 rfl Kx rfl ?_
   simp only [qz]
   refine rf_load rfl rfl rfl Try.underlying114 rfl (fun w hw => (Kn.hd0 hw).at rfl) ?_
   simp only [qz]
   refine rg_move ?_
   simp only [qz]
   rcases hgi : getI tm (k : Int) with _ | v
   ·refine rg_lookup0 rfl rfl rfl rfl Try.underlying114 Try.underlying3 (fun w => by kernel_rfl) hgi (List.Mem.tail _ (List.Mem.tail _ (List.Mem.head _))) ?_
    simp only [qz]
    refine rg_move ?_
    simp only [qz]
    refine rf_extract rfl rfl rfl rfl ?_
    simp only [qz]
    refine rf_extract rfl rfl rfl rfl ?_
    simp only [qz]
    refine rg_assign ?_
    simp only [qz]
    refine rg_assign ?_
    simp only [qz]
    refine rg_nil (ek_next (wk_seq ?_))
    refine wk_region [0, 0, 0, 0, 0, 1, 0, 0] rfl Kx ?_
    simp only [qy]
    refine rg_move ?_
    simp only [qz]
    refine rf_not rfl rfl rfl ?_
    simp only [qz]
    refine rg_move ?_
    simp only [qz]
    apply rg_soft_g
    case hg => rfl
    case hy => (intro w hw; go_simp; (try go_bits); exact Yld.mk _ _)
    simp only [qz]
    apply rg_soft_g
    case hg => rfl
    case hy => (intro w hw; go_simp; (try go_bits); exact Yld.mk _ _)
    simp only [qz]
    refine rg_spread (N := N) (E := edM N xs ys) (L := el) (tl := tm) (nn := N) (args := #[.pointer (some ⟨gp, 0, none⟩), .int .i64 (k : Int), .int .i64 0]) Rx Kx (by simp only [qm, qs, Act.eval]) (perm_at (l := [_, _]) (List.Perm.refl _)) (fun w hK' => spread_any N hN (edM N xs ys) el hLi gp bt be N _ tm k 0 rfl Ox (by decide) (by decide) hf3 w hK') (fun bb tn hres hkn => ?_)
    cases bb
    ·simp only [Act.put, Act.eval, qn, qv, Nat.reduceAdd]
     refine rf_not rfl rfl rfl ?_
     simp only [qz]
     refine rf_pick rfl rfl rfl ?_
     simp only [qz]
     refine rg_nil (ek_next (wk_cond_t rfl (wk_seq ?_)))
     refine wk_region [0, 0] rfl Kx ?_
     simp only [qy]
     refine rg_assign ?_
     simp only [qz]
     refine rg_assign ?_
     simp only [qz]
     refine rg_nil (ek_next (wk_ret (ek_block_ret (ek_then_ret (ek_then_ret (ek_block_ret (ek_then_ret ?_)))))))
     refine ek_ret (fun w hw => ⟨rfl, _, res_tt _ _ rfl, ?_⟩)
     (try simp only [qz])
     have ha := SpF.no hres hf2.out Ox (by rw [toT_none hgi]; decide)
     exact ⟨by rw [e1.out, e2.out, ha], hw.below⟩
    simp only [Act.put, Act.eval, qn, qv, Nat.reduceAdd]
    refine rf_not rfl rfl rfl ?_
    simp only [qz]
    refine rf_pick rfl rfl rfl ?_
    simp only [qz]
    refine rg_nil (ek_next (wk_cond_f rfl (wk_skip (ek_block (ek_next ?_)))))
    refine wk_region [0, 0] rfl Kx ?_
    simp only [qy]
    refine rf_add rfl rfl rfl rfl (wrap_ok Ox Ox) ?_
    simp only [qz]
    refine rg_move ?_
    simp only [qz]
    refine rg_nil ?_
    refine ek_perm (perm_at (l := [_]) (perm_at (l := [_]) (List.Perm.refl _))) ?_
    refine ek_roundF (2 * N - (k + 1)) Ox Kx ?_
    exact ⟨k + 1, tn, rfl, by rfl, by rfl, Ox, (Lib.hid (SpT.clo hres hf2.out)), hkn, (Lib.hid (fun u hu => by rcases (by omega : u < k ∨ u = k) with h | rfl; rw [SpT.mono hres u Ox (hf4.out u h)]; exact hf4.out u h; rw [SpT.at' hres]; exact Int.le_refl _))⟩
   refine rg_lookup1 rfl rfl rfl rfl Try.underlying114 Try.underlying3 (fun w => by kernel_rfl) hgi (List.Mem.tail _ (List.Mem.tail _ (List.Mem.head _))) ?_
   simp only [qz]
   refine rg_move ?_
   simp only [qz]
   refine rf_extract rfl rfl rfl rfl ?_
   simp only [qz]
   refine rf_extract rfl rfl rfl rfl ?_
   simp only [qz]
   refine rg_assign ?_
   simp only [qz]
   refine rg_assign ?_
   simp only [qz]
   refine rg_nil (ek_next (wk_seq ?_))
   refine wk_region [0, 0, 0, 0, 0, 1, 0, 0] rfl Kx ?_
   simp only [qy]
   refine rg_move ?_
   simp only [qz]
   refine rf_not rfl rfl rfl ?_
   simp only [qz]
   refine rg_move ?_
   simp only [qz]
   refine rg_skip Rx ?_
   simp only [qz]
   refine rg_skip Rx ?_
   simp only [qz]
   refine rg_skip_h Rx Nz ?_
   simp only [qz]
   refine rg_skip Rx ?_
   simp only [qz]
   refine rf_pick rfl rfl rfl ?_
   simp only [qz]
   refine rg_nil (ek_next (wk_cond_f rfl (wk_skip (ek_block (ek_next ?_)))))
   refine wk_region [0, 0] rfl Kx ?_
   simp only [qy]
   refine rf_add rfl rfl rfl rfl (wrap_ok Ox Ox) ?_
   simp only [qz]
   refine rg_move ?_
   simp only [qz]
   refine rg_nil ?_
   refine ek_roundF (2 * N - (k + 1)) Ox Kx ?_
   exact ⟨k + 1, tm, rfl, by rfl, by rfl, Ox, hf2, hf3, (Lib.hid (fun u hu => by rcases (by omega : u < k ∨ u = k) with h | rfl; exact hf4.out u h; rw [toT_some hgi]; exact (hf3 _ _ hgi).1))⟩
  (try simp only [qd, ne_eq] at h4)
  simp only [qz]
  refine rg_nil (ek_next (wk_seq (wk_cond_t rfl (wk_skip (ek_next (wk_seq (wk_block (wk_seq ?_))))))))
  refine wk_region [0, 0, 0, 1, 0, 1] rfl Kx ?_
  simp only [qy]
  refine rg_move ?_
  simp only [qz]
  refine rf_indexS (n := i) (sz := 5) (j := o1 + i * 5) rfl rfl rfl rfl Try.underlying22 Kx Ox Ox rfl ?_
  simp only [qz]
  refine rf_loadC (n := 5) (vs := [.int .i64 (nm xs i).a, .int .i64 (nm xs i).b, .int .i64 (nm xs i).c, .int .i64 (nm xs i).d, .int .i64 (nm xs i).k]) rfl rfl rfl Try.underlying29 rfl Kx rfl (fun w hw => atN_range ((hcell1 i Ox).kn hw hlt1 (by simp))) ?_
  simp only [qz]
  refine Rgn fun g3 => ?_
  simp only [qz]
  refine rg_assign ?_
  simp only [qz]
  refine rf_storeR (n := 5) rfl rfl Kx rfl rfl (UpdR.here _ _ _ Nl) Nz ?_
  simp only [qz, Nat.reduceAdd]
  refine rg_nil (ek_next (wk_seq ?_))
  refine wk_region [0, 0, 0, 0, 0, 1, 1] rfl Kx ?_
  simp only [qy]
  refine rf_field (n := 0) (j := 1) rfl rfl rfl Try.underlying24 rfl Kx rfl ?_
  simp only [qz]
  refine rf_load rfl rfl rfl Try.underlying22 rfl (fun w hw => (Kn.hd0 (Kn.tl (Kn.tl (Kn.tl (Kn.tl hw))))).at rfl) ?_
  simp only [qz]
  refine rg_move ?_
  simp only [qz]
  refine rf_indexS (n := i) (sz := 5) (j := o2 + i * 5) rfl rfl rfl rfl Try.underlying22 Kx Ox Ox rfl ?_
  simp only [qz]
  refine rf_loadC (n := 5) (vs := [.int .i64 (nm ys i).a, .int .i64 (nm ys i).b, .int .i64 (nm ys i).c, .int .i64 (nm ys i).d, .int .i64 (nm ys i).k]) rfl rfl rfl Try.underlying29 rfl Kx rfl (fun w hw => atN_range ((hcell2 i Ox).kn hw hlt2 (by simp))) ?_
  simp only [qz]
  refine Rgn fun g4 => ?_
  simp only [qz]
  refine rf_storeR (n := 5) rfl rfl Kx rfl rfl (UpdR.here _ _ _ Nl) Nz ?_
  simp only [qz, Nat.reduceAdd]
  refine rg_nil (ek_next (wk_seq (wk_seq ?_)))
  refine wk_region [0, 0, 0, 0, 0, 0, 0, 0] rfl Kx ?_
  simp only [qy]
  refine rf_loadR (n := 5) rfl rfl rfl Try.underlying29 rfl Kx (fun w hw => Kn.hd0 (Kn.tl hw)) rfl rfl ?_
  simp only [qz]
  refine rf_build (cs := fun a => #[.int .i64 0, .int .i64 0, .int .i64 0, .int .i64 0, .int .i64 0]) rfl rfl Kx ?_
  simp only [qz]
  refine rfb_eqN (nm xs i) (Nm.zero) rfl rfl rfl rfl ?_
  intro x h6
  cases x
  ·(try simp only [qd, ne_eq] at h6)
   simp only [qz]
   refine rg_move ?_
   simp only [qz]
   refine rg_skip Rx ?_
   simp only [qz]
   refine rg_skip Rx ?_
   simp only [qz]
   refine rg_skip Rx ?_
   simp only [qz]
   refine rf_pick rfl rfl rfl ?_
   simp only [qz]
   refine rg_nil (ek_next (wk_cond_f rfl (wk_skip (ek_next (wk_seq ?_)))))
   refine wk_region [0, 0, 1, 0, 0, 0, 0, 0] rfl Kx ?_
   simp only [qy]
   refine rf_loadR (n := 5) rfl rfl rfl Try.underlying29 rfl Kx (fun w hw => Kn.hd0 (Kn.tl hw)) rfl rfl ?_
   simp only [qz]
   refine rf_loadR (n := 5) rfl rfl rfl Try.underlying29 rfl Kx (fun w hw => Kn.hd0 hw) rfl rfl ?_
   simp only [qz]
   have hnz : NotZ (nm xs i) (nm ys i) := (fun h => h6 h.1)
   rcases hbw : btw (nm xs i) (nm ys i) with _ | et
   ·apply rg_pure Rx Kx
    case hargs => exact Ax
    case h => exact fun w hw => between_none (nm xs i) (nm ys i) (ok_at hox Ox) hnz hbw w
    case hz => exact Nz
    simp only [qz]
    refine rg_move ?_
    simp only [qz]
    refine rf_extract rfl rfl rfl rfl ?_
    simp only [qz]
    refine rf_extract rfl rfl rfl rfl ?_
    simp only [qz]
    refine rg_assign ?_
    simp only [qz]
    refine rg_assign ?_
    simp only [qz]
    refine rg_nil (ek_next (wk_seq (wk_seq ?_)))
    refine wk_region [0, 0] rfl Kx ?_
    simp only [qy]
    refine rg_move ?_
    simp only [qz]
    refine rf_not rfl rfl rfl ?_
    simp only [qz]
    refine rg_nil (ek_next (wk_cond_t rfl (wk_seq ?_)))
    refine wk_region [0, 0] rfl Kx ?_
    simp only [qy]
    refine rg_assign ?_
    simp only [qz]
    refine rg_assign ?_
    simp only [qz]
    refine rg_nil (ek_next (wk_ret (ek_then_ret (ek_block_ret (ek_then_ret (ek_then_ret (ek_block_ret (ek_then_ret ?_))))))))
    refine ek_ret (fun w hw => ⟨rfl, _, res_tt _ _ rfl, ?_⟩)
    (try simp only [qz])
    have ha := none_no (Nat.div_lt_of_lt_mul (by have := hlx.out; omega)) (Nat.mod_lt _ Ox) (edM_s (N := N) hnz hbw)
    exact ⟨by rw [e1.out, e2.out, ha], hw.below⟩
   apply rg_pure Rx Kx
   case hargs => exact Ax
   case h => exact fun w hw => between_yes (nm xs i) (nm ys i) (ok_at hox Ox) hnz et hbw w
   case hz => exact Nz
   simp only [qz]
   refine rg_move ?_
   simp only [qz]
   refine rf_extract rfl rfl rfl rfl ?_
   simp only [qz]
   refine rf_extract rfl rfl rfl rfl ?_
   simp only [qz]
   refine rg_assign ?_
   simp only [qz]
   refine rg_assign ?_
   simp only [qz]
   refine rg_nil (ek_next (wk_seq (wk_seq ?_)))
   refine wk_region [0, 0] rfl Kx ?_
   simp only [qy]
   refine rg_move ?_
   simp only [qz]
   refine rf_not rfl rfl rfl ?_
   simp only [qz]
   refine rg_nil (ek_next (wk_cond_f rfl (wk_skip (ek_next ?_))))
   have hmod : i % N < N := Nat.mod_lt _ Ox
   have hdiv : i / N < N := Nat.div_lt_of_lt_mul (by have := hlx.out; omega)
   refine wk_drawsT_m (hz1 := (sc _ (sc _ (sc _ (sk _ (sc _ (sc _ (sc _ sn)))))))) [(0, 0), (1, 0), (2, 0), (3, 0), (4, 0), (5, 0), (6, 0), (7, 0), (8, 0), (9, 0), (10, 0), (11, 0), (12, 0), (13, 0), (14, 0), (15, 0), (16, 0), (17, 2)] 17 Kx Kx (fun c d v a w h => by cases d <;> exact h) ?_
   simp only [List.map_cons, List.map_nil, List.getD_cons_zero, List.getD_cons_succ]
   refine rg_move ?_
   simp only [qz]
   apply rg_soft
   case hy => (intro w hw; go_simp; (try go_bits); exact Yld.mk _ _)
   simp only [qz]
   refine rf_field (n := 0) (j := 2) rfl rfl rfl Try.underlying117 rfl Kx rfl ?_
   simp only [qz]
   refine rf_load rfl rfl rfl Try.underlying115 rfl (fun w hw => (Kn.hd0 (Kn.tl (Kn.tl hw))).at rfl) ?_
   simp only [qz]
   refine rg_move ?_
   simp only [qz]
   refine rf_field (n := 0) (j := 0) rfl rfl rfl Try.underlying24 rfl Kx rfl ?_
   simp only [qz]
   refine rf_load rfl rfl rfl Try.underlying3 rfl (fun w hw => (Kn.hd0 (Kn.tl (Kn.tl (Kn.tl (Kn.tl (Kn.tl (Kn.tl hw))))))).at rfl) ?_
   simp only [qz]
   refine rf_quo (r := ((i / N : Nat) : Int)) rfl rfl rfl rfl Ox (quo_n Ox) ?_
   simp only [qz]
   refine rf_field (n := 0) (j := 0) rfl rfl rfl Try.underlying24 rfl Kx rfl ?_
   simp only [qz]
   refine rf_load rfl rfl rfl Try.underlying3 rfl (fun w hw => (Kn.hd0 (Kn.tl (Kn.tl (Kn.tl (Kn.tl (Kn.tl (Kn.tl hw))))))).at rfl) ?_
   simp only [qz]
   refine rg_move ?_
   simp only [qz]
   refine rf_field (n := 0) (j := 0) rfl rfl rfl Try.underlying24 rfl Kx rfl ?_
   simp only [qz]
   refine rf_load rfl rfl rfl Try.underlying3 rfl (fun w hw => (Kn.hd0 (Kn.tl (Kn.tl (Kn.tl (Kn.tl (Kn.tl (Kn.tl hw))))))).at rfl) ?_
   simp only [qz]
   refine rf_rem (r := ((i % N : Nat) : Int)) rfl rfl rfl rfl Ox rem_n ?_
   simp only [qz]
   refine rf_add rfl rfl rfl rfl (wrap_ok Ox Ox) ?_
   simp only [qz]
   refine rf_build (cs := fun a => #[a.eval (.tmp 72), a.eval (.tmp 79)]) rfl rfl Kx ?_
   simp only [qz]
   refine rg_move ?_
   simp only [qz]
   refine rg_updateEM (N := N) (i := i / N) (k := i % N) (e := et) (xs := el) rfl rfl rfl rfl Ox (hd2.out.fresh (Nat.div_add_mod' i N).symm) (Rep.there _ (Rep.there _ (Rep.there _ (Rep.here _)))) (sc _ (sc _ (sc _ (sk _ (sc _ (sc _ (sc _ sn))))))) ?_
   simp only [qz]
   refine rg_nil (ek_block (ek_next ?_))
   refine wk_region [0, 0] rfl Kx ?_
   simp only [qy]
   refine rf_add rfl rfl rfl rfl (wrap_ok Ox Ox) ?_
   simp only [qz]
   refine rg_move ?_
   simp only [qz]
   refine rg_nil ?_
   refine ek_sub (sk _ (sk _ (sc _ (sc _ (sc _ (sc _ (sc _ sn))))))) ?_
   refine ek_roundF (xs.length - (i + 1)) Ox Kx ?_
   exact ⟨i + 1, el ++ [(i / N, i % N, et)], rfl, by rfl, by rfl, Ox, (Lib.hid (hd2.out.push hdiv (Nat.mod_lt _ Ox) (btw_lt hbw) (Nat.div_add_mod' i N).symm (edM_s (fun h => h6 h.1) hbw)))⟩
  (try simp only [qd, ne_eq] at h6)
  simp only [qz]
  refine rg_move ?_
  simp only [qz]
  refine rf_loadR (n := 5) rfl rfl rfl Try.underlying29 rfl Kx (fun w hw => Kn.hd0 hw) rfl rfl ?_
  simp only [qz]
  refine rf_loadR (n := 5) rfl rfl rfl Try.underlying29 rfl Kx (fun w hw => Kn.hd0 (Kn.tl hw)) rfl rfl ?_
  simp only [qz]
  refine rfb_eqN (nm ys i) (nm xs i) rfl rfl rfl rfl ?_
  intro x h7
  cases x
  ·(try simp only [qd, ne_eq] at h7)
   simp only [qz]
   refine rf_pick rfl rfl rfl ?_
   simp only [qz]
   refine rg_nil (ek_next (wk_cond_f rfl (wk_skip (ek_next (wk_seq ?_)))))
   refine wk_region [0, 0, 1, 0, 0, 0, 0, 0] rfl Kx ?_
   simp only [qy]
   refine rf_loadR (n := 5) rfl rfl rfl Try.underlying29 rfl Kx (fun w hw => Kn.hd0 (Kn.tl hw)) rfl rfl ?_
   simp only [qz]
   refine rf_loadR (n := 5) rfl rfl rfl Try.underlying29 rfl Kx (fun w hw => Kn.hd0 hw) rfl rfl ?_
   simp only [qz]
   have hnz : NotZ (nm xs i) (nm ys i) := (fun h => h7 (h.2.trans h.1.symm))
   rcases hbw : btw (nm xs i) (nm ys i) with _ | et
   ·apply rg_pure Rx Kx
    case hargs => exact Ax
    case h => exact fun w hw => between_none (nm xs i) (nm ys i) (ok_at hox Ox) hnz hbw w
    case hz => exact Nz
    simp only [qz]
    refine rg_move ?_
    simp only [qz]
    refine rf_extract rfl rfl rfl rfl ?_
    simp only [qz]
    refine rf_extract rfl rfl rfl rfl ?_
    simp only [qz]
    refine rg_assign ?_
    simp only [qz]
    refine rg_assign ?_
    simp only [qz]
    refine rg_nil (ek_next (wk_seq (wk_seq ?_)))
    refine wk_region [0, 0] rfl Kx ?_
    simp only [qy]
    refine rg_move ?_
    simp only [qz]
    refine rf_not rfl rfl rfl ?_
    simp only [qz]
    refine rg_nil (ek_next (wk_cond_t rfl (wk_seq ?_)))
    refine wk_region [0, 0] rfl Kx ?_
    simp only [qy]
    refine rg_assign ?_
    simp only [qz]
    refine rg_assign ?_
    simp only [qz]
    refine rg_nil (ek_next (wk_ret (ek_then_ret (ek_block_ret (ek_then_ret (ek_then_ret (ek_block_ret (ek_then_ret ?_))))))))
    refine ek_ret (fun w hw => ⟨rfl, _, res_tt _ _ rfl, ?_⟩)
    (try simp only [qz])
    have ha := none_no (Nat.div_lt_of_lt_mul (by have := hlx.out; omega)) (Nat.mod_lt _ Ox) (edM_s (N := N) hnz hbw)
    exact ⟨by rw [e1.out, e2.out, ha], hw.below⟩
   apply rg_pure Rx Kx
   case hargs => exact Ax
   case h => exact fun w hw => between_yes (nm xs i) (nm ys i) (ok_at hox Ox) hnz et hbw w
   case hz => exact Nz
   simp only [qz]
   refine rg_move ?_
   simp only [qz]
   refine rf_extract rfl rfl rfl rfl ?_
   simp only [qz]
   refine rf_extract rfl rfl rfl rfl ?_
   simp only [qz]
   refine rg_assign ?_
   simp only [qz]
   refine rg_assign ?_
   simp only [qz]
   refine rg_nil (ek_next (wk_seq (wk_seq ?_)))
   refine wk_region [0, 0] rfl Kx ?_
   simp only [qy]
   refine rg_move ?_
   simp only [qz]
   refine rf_not rfl rfl rfl ?_
   simp only [qz]
   refine rg_nil (ek_next (wk_cond_f rfl (wk_skip (ek_next ?_))))
   have hmod : i % N < N := Nat.mod_lt _ Ox
   have hdiv : i / N < N := Nat.div_lt_of_lt_mul (by have := hlx.out; omega)
   refine wk_drawsT_m (hz1 := (sc _ (sc _ (sc _ (sk _ (sc _ (sc _ (sc _ sn)))))))) [(0, 0), (1, 0), (2, 0), (3, 0), (4, 0), (5, 0), (6, 0), (7, 0), (8, 0), (9, 0), (10, 0), (11, 0), (12, 0), (13, 0), (14, 0), (15, 0), (16, 0), (17, 2)] 17 Kx Kx (fun c d v a w h => by cases d <;> exact h) ?_
   simp only [List.map_cons, List.map_nil, List.getD_cons_zero, List.getD_cons_succ]
   refine rg_move ?_
   simp only [qz]
   apply rg_soft
   case hy => (intro w hw; go_simp; (try go_bits); exact Yld.mk _ _)
   simp only [qz]
   refine rf_field (n := 0) (j := 2) rfl rfl rfl Try.underlying117 rfl Kx rfl ?_
   simp only [qz]
   refine rf_load rfl rfl rfl Try.underlying115 rfl (fun w hw => (Kn.hd0 (Kn.tl (Kn.tl hw))).at rfl) ?_
   simp only [qz]
   refine rg_move ?_
   simp only [qz]
   refine rf_field (n := 0) (j := 0) rfl rfl rfl Try.underlying24 rfl Kx rfl ?_
   simp only [qz]
   refine rf_load rfl rfl rfl Try.underlying3 rfl (fun w hw => (Kn.hd0 (Kn.tl (Kn.tl (Kn.tl (Kn.tl (Kn.tl (Kn.tl hw))))))).at rfl) ?_
   simp only [qz]
   refine rf_quo (r := ((i / N : Nat) : Int)) rfl rfl rfl rfl Ox (quo_n Ox) ?_
   simp only [qz]
   refine rf_field (n := 0) (j := 0) rfl rfl rfl Try.underlying24 rfl Kx rfl ?_
   simp only [qz]
   refine rf_load rfl rfl rfl Try.underlying3 rfl (fun w hw => (Kn.hd0 (Kn.tl (Kn.tl (Kn.tl (Kn.tl (Kn.tl (Kn.tl hw))))))).at rfl) ?_
   simp only [qz]
   refine rg_move ?_
   simp only [qz]
   refine rf_field (n := 0) (j := 0) rfl rfl rfl Try.underlying24 rfl Kx rfl ?_
   simp only [qz]
   refine rf_load rfl rfl rfl Try.underlying3 rfl (fun w hw => (Kn.hd0 (Kn.tl (Kn.tl (Kn.tl (Kn.tl (Kn.tl (Kn.tl hw))))))).at rfl) ?_
   simp only [qz]
   refine rf_rem (r := ((i % N : Nat) : Int)) rfl rfl rfl rfl Ox rem_n ?_
   simp only [qz]
   refine rf_add rfl rfl rfl rfl (wrap_ok Ox Ox) ?_
   simp only [qz]
   refine rf_build (cs := fun a => #[a.eval (.tmp 72), a.eval (.tmp 79)]) rfl rfl Kx ?_
   simp only [qz]
   refine rg_move ?_
   simp only [qz]
   refine rg_updateEM (N := N) (i := i / N) (k := i % N) (e := et) (xs := el) rfl rfl rfl rfl Ox (hd2.out.fresh (Nat.div_add_mod' i N).symm) (Rep.there _ (Rep.there _ (Rep.there _ (Rep.here _)))) (sc _ (sc _ (sc _ (sk _ (sc _ (sc _ (sc _ sn))))))) ?_
   simp only [qz]
   refine rg_nil (ek_block (ek_next ?_))
   refine wk_region [0, 0] rfl Kx ?_
   simp only [qy]
   refine rf_add rfl rfl rfl rfl (wrap_ok Ox Ox) ?_
   simp only [qz]
   refine rg_move ?_
   simp only [qz]
   refine rg_nil ?_
   refine ek_sub (sk _ (sk _ (sc _ (sc _ (sc _ (sc _ (sc _ sn))))))) ?_
   refine ek_roundF (xs.length - (i + 1)) Ox Kx ?_
   exact ⟨i + 1, el ++ [(i / N, i % N, et)], rfl, by rfl, by rfl, Ox, (Lib.hid (hd2.out.push hdiv (Nat.mod_lt _ Ox) (btw_lt hbw) (Nat.div_add_mod' i N).symm (edM_s (fun h => h7 (h.2.trans h.1.symm)) hbw)))⟩
  (try simp only [qd, ne_eq] at h7)
  simp only [qz]
  refine rf_pick rfl rfl rfl ?_
  simp only [qz]
  refine rg_nil (ek_next (wk_cond_t rfl (wk_exit (ek_then_exit (ek_block_exit (ek_next ?_))))))
  refine wk_region [0, 0] rfl Kx ?_
  simp only [qy]
  refine rf_add rfl rfl rfl rfl (wrap_ok Ox Ox) ?_
  simp only [qz]
  refine rg_move ?_
  simp only [qz]
  refine rg_nil ?_
  refine ek_sub (sk _ (sk _ (sc _ (sc _ (sc _ (sc _ (sc _ sn))))))) ?_
  refine ek_roundF (xs.length - (i + 1)) Ox Kx ?_
  exact ⟨i + 1, el, rfl, by rfl, by rfl, Ox, (Lib.hid (hd2.out.none (Nat.mod_lt _ Ox) (Nat.div_add_mod' i N).symm (edM_z h6 h7)))⟩
 (try simp only [qd, ne_eq] at h3)
 simp only [qz]
 refine rg_assign ?_
 simp only [qz]
 refine rg_nil (ek_next (wk_cond_t rfl (wk_seq ?_)))
 refine wk_region [0, 0] rfl Kx ?_
 simp only [qy]
 refine rg_assign ?_
 simp only [qz]
 refine rg_assign ?_
 simp only [qz]
 refine rg_nil (ek_next (wk_ret (ek_block_ret (ek_then_ret ?_))))
 refine ek_ret (fun w hw => ⟨rfl, _, res_tt _ _ rfl, ?_⟩)
 (try simp only [qz])
 obtain ⟨e1, e2⟩ := alk_size (n := (N : Int)) (m := (M : Int)) (xs := xs) (ys := ys) (by rw [hv, hv2]; rfl) Ox
 exact ⟨by rw [e1, e2], hw.below⟩
abbrev zs (xs : List Int) : List Value := xs.map (.int .i64 ·)
theorem zInfo : (Try.prog.info? 3).map (fun i => (i.zero, i.size, i.bytes)) = some (some (.int .i64 0), 1, 8) := by kernel_rfl
def OwnZ (u : List Blk) (v : Value) (xs : List Int) : Prop := Own 3 1 u v xs.length (zs xs)
theorem OwnZ.one {g : Nat} (x : Int) : OwnZ [(g, .cells #[.int .i64 x] 3)] (.slice (some ⟨g, 0, none⟩) 1 1) [x] :=
  Own.whole (cur := #[.int .i64 x]) rfl (by simp only [maxLen]; omega)
theorem OwnZ.addr {u : List Blk} {av : Option Addr} {n c : Nat} {row : List Int} (h : OwnZ u (.slice av n c) row) (hn : 0 < row.length) : ∃ ad, av = some ad ∧ ∀ {B w : World} {F : List Nat} {s : List Blk}, Kn B F s w → u.Sublist s → AS w (some ad) (zs row) := by
 rcases h.2 with ⟨_, e, h0⟩ | ⟨g, cap, cur, _, e, _⟩
 ·omega
 ·cases e
  refine ⟨_, rfl, fun K hs => ?_⟩
  obtain ⟨a, cap, e, hA⟩ := Own.as (s := []) h (by rw [List.append_nil]; exact K.sub hs)
  cases e
  exact hA
theorem Rep.toUpdB {g i t : Nat} {v : Value} {cs : Array Value} {s s' : List Blk} (h : Rep g (.cells cs t) (.cells (cs.setIfInBounds i v) t) s s') : Upd g i v s s' := by
 generalize ho : Obj.cells cs t = o at h
 generalize ho' : Obj.cells (cs.setIfInBounds i v) t = o' at h
 induction h with
 | here s => subst ho ho'; exact Upd.here t cs s
 | there b _ ih => exact .there b ih
theorem OwnZ.nil : OwnZ [] (.slice none 0 0) [] := Own.nil _ _
section
variable {R : Option Nat} {ops : Array Oper} {Q : Exit → Act → World → Prop} {B : World} {F : List Nat} {s0 : Option (List Blk × List Blk)}
variable {l : List (Oper × Nat)} {a : Act} {s S : List Blk} {d : Option Tmp} {op : Op} {t : TypeId} {p : String} {af : Array Edge} {v : Value}
end
def tzC (R : Nat → Int) (N : Nat) : List Value := (List.range N).map fun i => .int .i64 (R i)
theorem tz_len (R : Nat → Int) (N : Nat) : (tzC R N).length = N := by simp [tzC]
theorem tz_get {R : Nat → Int} {N i : Nat} (h : i < N) : (tzC R N)[i]? = some (.int .i64 (R i)) := by
 unfold tzC
 rw [List.getElem?_map, List.getElem?_range h]; rfl
theorem tz_congr {R R' : Nat → Int} {N : Nat} (h : ∀ j, j < N → R' j = R j) : tzC R' N = tzC R N := by
 unfold tzC
 exact List.map_congr_left fun i hi => by rw [h i (by simpa using hi)]
theorem tz_set {R : Nat → Int} {N i : Nat} {x : Int} (h : i < N) : (tzC R N).toArray.setIfInBounds i (.int .i64 x) = (tzC (updA R i x) N).toArray := by
 rw [List.setIfInBounds_toArray]
 congr 1
 apply List.ext_getElem?
 intro j
 by_cases hj : j < N
 ·rw [tz_get hj]
  by_cases e : i = j
  ·subst e
   rw [List.getElem?_set_self (by rw [tz_len]; exact h), updA_same]
  ·rw [List.getElem?_set_ne e, tz_get hj, updA_other _ _ (fun h => e h.symm)]
 ·rw [List.getElem?_eq_none (by simp [tz_len]; omega), List.getElem?_eq_none (by rw [tz_len]; omega)]
theorem made_tz (n : Nat) : madeCells #[Value.int .i64 0] n = (tzC (fun _ => 0) n).toArray := by
 unfold madeCells
 apply Array.ext'
 simp only [Array.toList_map, Array.toList_range]
 apply List.ext_getElem
 ·simp [tz_len]
 intro i h1 h2
 simp [Nat.mod_one, tzC]
theorem tz_cell {w : World} {g e N i : Nat} {R : Nat → Int} (h : Hd w g e (tzC R N).toArray) (hi : i < N) : w.cell? ⟨g, i, none⟩ = some (.int .i64 (R i)) := by
 rw [h.cell i, List.getElem?_toArray]; exact tz_get hi
def shA (N : Nat) (T : Nat → Int) : Nat → Int := fun k => T (N + k)
theorem sh_col (N : Nat) (T : Nat → Int) (k : Nat) (x : Int) : ∀ j, shA N (updA T (N + k) x) j = updA (shA N T) k x j := fun j => by
  unfold shA updA
  by_cases h : j = k
  · rw [if_pos h, if_pos (by omega)]
  · rw [if_neg h, if_neg (by omega)]
theorem sh_row {N i : Nat} (T : Nat → Int) (x : Int) (h : i < N) : shA N (updA T i x) = shA N T := by
 funext j
 unfold shA
 exact updA_other _ _ (by omega)
theorem col_row {N k : Nat} (T : Nat → Int) (x : Int) : tzC (updA T (N + k) x) N = tzC T N := tz_congr fun j hj => updA_other _ _ (by omega)
def iniA (j : Nat) : Nat → Int := fun v => if v < j then -1 else 0
theorem ini_step (i : Nat) : ∀ j, iniA (i + 1) j = updA (iniA i) i (-1) j := fun j => by
  unfold iniA updA
  by_cases h : j = i
  · rw [if_pos h, if_pos (by omega)]
  · rw [if_neg h]
    show (if j < i + 1 then (-1 : Int) else 0) = if j < i then -1 else 0
    by_cases h2 : j < i
    · rw [if_pos h2, if_pos (by omega)]
    · rw [if_neg h2, if_neg (by omega)]
theorem ini_all (N : Nat) : tzC (iniA N) N = tzC (fun _ => -1) N := tz_congr fun j hj => if_pos hj
theorem ini_0 (N : Nat) : tzC (fun _ => 0) N = tzC (iniA 0) N := tz_congr fun j hj => (if_neg (by omega)).symm
theorem wk_eqs {R : Option Nat} {P : Program} {B : World} {F : List Nat} {Q : Exit → Act → World → Prop} {a : Act} {s s' : List Blk} {c : Code} (e : s = s') (h : Wk R P B F Q a s' c) : Wk R P B F Q a s c := e ▸ h
section
variable {R : Option Nat} {ops : Array Oper} {Q : Exit → Act → World → Prop} {B : World} {F : List Nat} {s0 : Option (List Blk × List Blk)}
variable {l : List (Oper × Nat)} {a : Act} {s s' : List Blk} {d : Option Tmp} {t : TypeId} {p : String} {af : Array Edge}
theorem zInfoA : (Try.prog.info? 3).map (fun i => (i.zero, i.size, i.bytes)) = some (some (.int .i64 0), 1, 8) := by kernel_rfl
theorem rg_makeT {lo co : Operand} {n : Nat} {gd : Option (Nat × Bool)} (hg : Region.wanted ⟨d, .makeSlice 37 lo co, t, p, af, gd⟩ (yielded ops a.tmps) = true) (hl : a.eval lo = .int .i64 n) (hc : a.eval co = .int .i64 n) (hn : n ≤ 1000000)
    (hzz : ∀ z ∈ s0, z.1.Sublist s) (h : ∀ g, Rg R Try.prog ops Q B F s0 l (a.put d (.slice (some ⟨g, 0, none⟩) n n)) ((g, .cells (tzC (iniA 0) n).toArray 3) :: s)) :
    Rg R Try.prog ops Q B F s0 ((⟨d, .makeSlice 37 lo co, t, p, af, gd⟩, 1) :: l) a s := by
  obtain ⟨i, hi, hz, hs, hb⟩ := info_partsN zInfoA
  refine rg_make (i := i) (z := .int .i64 0) (n := n) hg Try.underlying37 hi hz hl hc (by rw [hb]; omega) Ox hzz fun g => ?_
  have : madeCells (Value.int .i64 0).cells (n * i.size) = (tzC (iniA 0) n).toArray := by rw [hs, Nat.mul_one, ← ini_0]; exact made_tz n
  rw [this]
  exact h g
theorem rf_storeT {x y : Operand} {g i N : Nat} {R0 R' : Nat → Int} {z : Int} (hx : a.eval x = .pointer (some ⟨g, i, none⟩)) (hy : a.eval y = .int .i64 z) (hi : i < N) (hR : ∀ j, R' j = updA R0 i z j)
    (hr : Rep g (.cells (tzC R0 N).toArray 3) (.cells (tzC R' N).toArray 3) s s') (hz : ∀ z ∈ s0, z.1.Sublist s') (h : Rg R Try.prog ops Q B F s0 l (a.put d undef) s') :
    Rg R Try.prog ops Q B F s0 ((⟨d, .store 3 x y, t, p, af, none⟩, 1) :: l) a s := by
  have e : R' = updA R0 i z := funext hR
  rw [e, ← tz_set hi] at hr
  refine rg_store (fun w K => ⟨w.setCell ⟨g, i, none⟩ (.int .i64 z), ?_, K.set hr.toUpdB⟩) hz h
  exact run_store1 hx hy (by kernel_rfl) rfl rfl (there_of (K.hd hr.mem) (by simp [tz_len]; omega))
end
structure InA (N : Nat) (E : Ed) (T : Nat → Int) (m : Nat) : Prop where
  rng : RngA N T
  fo : FoA N E T
  kn : ∀ v, v < m → 0 ≤ T v
theorem inA_start (N : Nat) (E : Ed) : InA N E (fun _ => -1) 0 := ⟨fun v _ => ⟨by decide, by decide⟩, foA_start fun v _ => by decide, fun v h => by omega⟩
section
variable {N : Nat} {E : Ed} {T : Nat → Int} {m i k t : Nat}
theorem kn_upd {v : Nat} {x : Int} (h : ∀ v, v < m → 0 ≤ T v) (hx : 0 ≤ x) : ∀ u, u < m → 0 ≤ updA T v x u := fun u hu => by
  unfold updA
  split
  · exact hx
  · exact h u hu
theorem InA.zero (h : InA N E T m) (hC : CloA N E T) (hm : m < N) (hT : T m < 0) : InA N E (updA T m 0) (m + 1) :=
  ⟨updA_rng h.rng (by decide) (by decide), h.fo.zero hC hm hT, fun v hv => by
    unfold updA
    split
    · exact Int.le_refl _
    · exact h.kn v (by omega)⟩
theorem InA.same (h : InA N E T m) (hT : 0 ≤ T m) : InA N E T (m + 1) := ⟨h.rng, h.fo, fun v hv => by
  rcases (by omega : v < m ∨ v = m) with h1 | rfl
  · exact h.kn v h1
  · exact hT⟩
theorem InA.row (h : InA N E T m) (hi : i < N) (hk : k < N) (he : E i k = some (some t)) (hT : 0 ≤ T (N + k)) {x : Int} (hx : x = (t - T (N + k) + 8) % 8) : InA N E (updA T i x) m :=
  ⟨updA_rng h.rng (by omega) (by omega), h.fo.row hi hk he hT hx, kn_upd h.kn (by omega)⟩
theorem InA.col (h : InA N E T m) (hi : i < N) (hk : k < N) (he : E i k = some (some t)) (hT : 0 ≤ T i) {x : Int} (hx : x = (t - T i + 8) % 8) : InA N E (updA T (N + k) x) m :=
  ⟨updA_rng h.rng (by omega) (by omega), h.fo.col hi hk he hT hx, kn_upd h.kn (by omega)⟩
def SwA (N : Nat) (E : Ed) (T : Nat → Int) (ag : Bool) (i k : Nat) : Prop := ag = false → ∀ i' k', i' < N → k' < N → (i' < i ∨ (i' = i ∧ k' < k)) → OkP N E T i' k'
theorem sw_start : SwA N E T false 0 0 := fun _ i' k' _ _ h => by omega
theorem sw_true : SwA N E T true i k := fun h => nomatch h
theorem SwA.row {ag : Bool} (h : SwA N E T ag i N) : SwA N E T ag (i + 1) 0 := fun e i' k' hi hk h1 => h e i' k' hi hk (by omega)
theorem SwA.next {ag : Bool} (h : SwA N E T ag i k) (ho : OkP N E T i k) : SwA N E T ag i (k + 1) := fun e i' k' hi hk h1 => by
  rcases (by omega : (i' < i ∨ (i' = i ∧ k' < k)) ∨ (i' = i ∧ k' = k)) with h2 | ⟨rfl, rfl⟩
  · exact h e i' k' hi hk h2
  · exact ho
theorem SwA.clo (h : SwA N E T false N 0) : CloA N E T := fun i k hi hk e he => h rfl i k hi hk (.inl hi) e he
theorem okP_none (h : E i k = none) : OkP N E T i k := fun e he => by rw [h] at he; cases he
theorem okP_unk (h1 : T i < 0) (h2 : T (N + k) < 0) : OkP N E T i k := fun e he => .inl ⟨h1, h2⟩
theorem okP_told (he : E i k = some (some t)) (h1 : 0 ≤ T i) (h2 : 0 ≤ T (N + k)) (h3 : (T i + T (N + k)) % 8 = t) : OkP N E T i k := fun e he' => by
  rw [he] at he'; cases he'
  exact .inr ⟨h1, h2, t, rfl, by omega⟩
theorem btI_some {o : Option Nat} {v : Int} (h : btI o = v) (h0 : 0 ≤ v) : ∃ t : Nat, o = some t ∧ v = t := by
 cases o with
 | none => have : (-1 : Int) = v := h; omega
 | some t => exact ⟨t, rfl, h.symm⟩
theorem btI_neg {o : Option Nat} {v : Int} (h : btI o = v) (h0 : v < 0) : o = none := by
 cases o with
 | none => rfl
 | some t => have : (t : Int) = v := h; omega
end
theorem rTurned_any (z : Nm) (n : Nat) (hz : z.Ok) (hn : n ≤ 1000) (w : World) : Calls Try.prog 42 #[nmV z, .int .i64 (n : Int)] w fun e w' => e = .returned (nmV (Nm.turn n z)) ∧ Below w.heap.size w w' := by
 go_enter Try.func42, Try.ntmps42
 refine wk_start ?_
 refine wk_seq ?_
 refine wk_region [1, 1] rfl Kx ?_
 simp only [qy]
 refine Rgn fun g1 => ?_
 simp only [qz]
 refine Rgn fun g2 => ?_
 simp only [qz]
 refine rg_nil (ek_next (wk_seq (wk_seq ?_)))
 refine wk_region [0] rfl Kx ?_
 simp only [qy]
 refine rg_assign ?_
 simp only [qz]
 refine rg_nil (ek_next (wk_block ?_))
 refine wk_loopF [5, 6, 7, 8, 9, 10, 11, 12, 13, 14, 15, 16, 17, 18, 19, 20, 21, 22, 23, 24, 25] (fun mz f s => ∃ (i : Nat) (y : Nm), f 5 = .int .i64 i ∧ s = ((g2, .cells #[.int .i64 0, .int .i64 0, .int .i64 0, .int .i64 0, .int .i64 0] 29) :: ((g1, .cells #[.int .i64 y.a, .int .i64 y.b, .int .i64 y.c, .int .i64 y.d, .int .i64 y.k] 29) :: [])) ∧ mz = n - i ∧ i ≤ n ∧ Hid (Nm.turn i z = y) ∧ y.Ok) ((fun (i : Nat) (y : Nm) => n - i) (0) (z)) ?_ Kx ?_
 ·exact ⟨0, z, rfl, rfl, rfl, by omega, (Lib.hid rfl), hz⟩
 rintro mz f1 s ⟨i, y, hs1_5, rfl, hn, hd1, hd2, hd3⟩
 simp only [Act.putF, List.foldl_cons, List.foldl_nil, hs1_5, Act.put, Act.eval, q1, q2, q3, q4, q5, q6, q7, q8, q9, q10, q11, q12, q13, q14, q15, q16, q17, q18, Nat.reduceAdd, Bool.not_true, Bool.not_false]
 clear hs1_5
 refine wk_seq (wk_seq ?_)
 refine wk_region [0, 0, 0] rfl Kx ?_
 simp only [qy]
 refine rg_move ?_
 simp only [qz]
 refine rg_move ?_
 simp only [qz]
 refine rfb_lss rfl rfl rfl rfl ?_
 intro x h1
 cases x
 ·(try simp only [qd, ne_eq] at h1)
  simp only [qz]
  refine rg_nil (ek_next (wk_cond_f rfl (wk_exit (ek_then_exit (ek_then_exit (ek_block_exit (ek_next (wk_seq ?_))))))))
  refine wk_region [0, 1] rfl Kx ?_
  simp only [qy]
  refine rf_loadR (n := 5) rfl rfl rfl Try.underlying29 rfl Kx (fun w hw => Kn.hd0 (Kn.tl hw)) rfl rfl ?_
  simp only [qz]
  refine rf_storeR (n := 5) rfl rfl Kx rfl rfl (UpdR.here _ _ _ Nl) Nz ?_
  simp only [qz, Nat.reduceAdd]
  refine rg_nil (ek_next (wk_ret ?_))
  refine ek_ret (fun w hw => ⟨rfl, _, run_results1 rfl rfl (Kn.hd0 hw) Try.underlying29 rfl Kx, ?_⟩)
  (try simp only [qz])
  obtain rfl : i = n := by omega
  exact ⟨by rw [hd2.out], hw.below⟩
 (try simp only [qd, ne_eq] at h1)
 simp only [qz]
 refine rg_nil (ek_next (wk_cond_t rfl (wk_skip (ek_next (wk_seq (wk_block ?_))))))
 have hyr : y.rot.Ok := turn_ok hd3 1
 obtain ⟨fa0, fa1, fb0, fb1, fc0, fc1, fd0, fd1⟩ := hd3.fit
 refine wk_region [0, 0, 0, 0, 0, 0, 0, 0, 0, 0, 0, 0, 0, 0, 0, 1] rfl Kx ?_
 simp only [qy]
 refine rf_field (n := 3) (j := 0) rfl rfl rfl Try.underlying29 rfl Kx rfl ?_
 simp only [qz]
 refine rf_indexA (n := 3) (sz := 1) (j := 3) rfl rfl rfl rfl Try.underlying27 Kx (by decide) rfl ?_
 simp only [qz]
 refine rf_load rfl rfl rfl Try.underlying3 rfl (fun w hw => (Kn.hd0 (Kn.tl hw)).at rfl) ?_
 simp only [qz]
 refine rf_neg rfl rfl rfl (wrap_ok Ox Ox) ?_
 simp only [qz]
 refine rf_field (n := 3) (j := 0) rfl rfl rfl Try.underlying29 rfl Kx rfl ?_
 simp only [qz]
 refine rf_indexA (n := 0) (sz := 1) (j := 0) rfl rfl rfl rfl Try.underlying27 Kx (by decide) rfl ?_
 simp only [qz]
 refine rf_load rfl rfl rfl Try.underlying3 rfl (fun w hw => (Kn.hd0 (Kn.tl hw)).at rfl) ?_
 simp only [qz]
 refine rf_field (n := 3) (j := 0) rfl rfl rfl Try.underlying29 rfl Kx rfl ?_
 simp only [qz]
 refine rf_indexA (n := 1) (sz := 1) (j := 1) rfl rfl rfl rfl Try.underlying27 Kx (by decide) rfl ?_
 simp only [qz]
 refine rf_load rfl rfl rfl Try.underlying3 rfl (fun w hw => (Kn.hd0 (Kn.tl hw)).at rfl) ?_
 simp only [qz]
 refine rf_field (n := 3) (j := 0) rfl rfl rfl Try.underlying29 rfl Kx rfl ?_
 simp only [qz]
 refine rf_indexA (n := 2) (sz := 1) (j := 2) rfl rfl rfl rfl Try.underlying27 Kx (by decide) rfl ?_
 simp only [qz]
 refine rf_load rfl rfl rfl Try.underlying3 rfl (fun w hw => (Kn.hd0 (Kn.tl hw)).at rfl) ?_
 simp only [qz]
 refine rf_build (cs := fun a => #[a.eval (.tmp 14), a.eval (.tmp 17), a.eval (.tmp 20), a.eval (.tmp 23)]) rfl rfl Kx ?_
 simp only [qz]
 refine rf_field (n := 3) (j := 0) rfl rfl rfl Try.underlying29 rfl Kx rfl ?_
 simp only [qz]
 refine rf_storeR (n := 4) rfl rfl Kx rfl rfl (UpdR.there _ (UpdR.here _ _ _ Nl)) Nz ?_
 simp only [qz, Nat.reduceAdd]
 refine rg_nil (ek_block (ek_next ?_))
 refine wk_region [0, 0, 0] rfl Kx ?_
 simp only [qy]
 refine rg_move ?_
 simp only [qz]
 refine rf_add rfl rfl rfl rfl (wrap_ok Ox Ox) ?_
 simp only [qz]
 refine rg_assign ?_
 simp only [qz]
 refine rg_nil ?_
 refine ek_roundF (n - (i + 1)) Ox Kx ?_
 exact ⟨i + 1, y.rot, rfl, by rfl, by rfl, Ox, (Lib.hid (by rw [Nm.turn, hd2.out])), hyr⟩
theorem rAt_any (N i k : Nat) (xs : List Nm) (a : Option Addr) (c : Nat) (hl : xs.length = N * N) (hN : N ≤ 6) (hi : i < N) (hk : k < N) (w : World) (hA : AS w a (nms xs)) : Calls Try.prog 41 #[.agg #[.int .i64 N, .slice a xs.length c], .int .i64 i, .int .i64 k] w fun e w' => e = .returned (nmV (nm xs (i * N + k))) ∧ Below w.heap.size w w' := by
 have hm := ix_small hi hN
 have hc0 : ((i * N : Nat) : Int) = (i : Int) * N := Int.natCast_mul i N
 obtain ⟨b, off, rfl, hlt, hcell⟩ := AS.openN hA Ox
 go_enter Try.func41, Try.ntmps41
 refine wk_start ?_
 refine wk_seq ?_
 refine wk_region [1, 1] rfl Kx ?_
 simp only [qy]
 refine Rgn fun g1 => ?_
 simp only [qz]
 refine Rgn fun g2 => ?_
 simp only [qz]
 refine rg_nil (ek_next (wk_seq ?_))
 refine wk_region [0, 0, 0, 0, 0, 0, 0, 0, 0, 0, 1] rfl Kx ?_
 simp only [qy]
 refine rf_field (n := 0) (j := 1) rfl rfl rfl Try.underlying24 rfl Kx rfl ?_
 simp only [qz]
 refine rf_load rfl rfl rfl Try.underlying22 rfl (fun w hw => (Kn.hd0 (Kn.tl hw)).at rfl) ?_
 simp only [qz]
 refine rg_move ?_
 simp only [qz]
 refine rf_field (n := 0) (j := 0) rfl rfl rfl Try.underlying24 rfl Kx rfl ?_
 simp only [qz]
 refine rf_load rfl rfl rfl Try.underlying3 rfl (fun w hw => (Kn.hd0 (Kn.tl hw)).at rfl) ?_
 simp only [qz]
 refine rf_mul rfl rfl rfl rfl (wrap_ok Ox Ox) ?_
 simp only [qz]
 refine rg_move ?_
 simp only [qz]
 refine rf_add rfl rfl rfl rfl (wrap_ok Ox Ox) ?_
 simp only [qz]
 refine rf_indexS (n := i * N + k) (sz := 5) (j := off + (i * N + k) * 5) rfl rfl rfl rfl Try.underlying22 Kx (by rw [Int.natCast_add, Int.natCast_mul]) Ox rfl ?_
 simp only [qz]
 refine rf_loadC (n := 5) (vs := nmC (nm xs (i * N + k))) rfl rfl rfl Try.underlying29 rfl Kx rfl (fun w hw => atN_range ((hcell _ Ox).kn hw hlt (by simp))) ?_
 simp only [qz]
 refine rf_storeR (n := 5) rfl rfl Kx rfl rfl (UpdR.here _ _ _ Nl) Nz ?_
 simp only [qz, Nat.reduceAdd]
 refine rg_nil (ek_next (wk_ret ?_))
 refine ek_ret (fun w hw => ⟨rfl, _, run_results1 rfl rfl (Kn.hd0 hw) Try.underlying29 rfl Kx, ?_⟩)
 (try simp only [qz])
 first | exact ⟨rfl, hw.below⟩ | exact ⟨trivial, hw.below⟩ | exact hw.below
theorem rOne_any  (w : World) : Calls Try.prog 61 #[] w fun e w' => e = .returned (nmV Nm.one) ∧ Below w.heap.size w w' := by
 go_enter Try.func61, Try.ntmps61
 refine wk_start ?_
 refine wk_seq ?_
 refine wk_region [1] rfl Kx ?_
 simp only [qy]
 refine Rgn fun g1 => ?_
 simp only [qz]
 refine rg_nil (ek_next (wk_seq ?_))
 refine wk_region [0, 0, 1] rfl Kx ?_
 simp only [qy]
 refine rf_build (cs := fun a => #[a.eval (.const (.int .i64 1)), .int .i64 0, .int .i64 0, .int .i64 0]) rfl rfl Kx ?_
 simp only [qz]
 refine rf_build (cs := fun a => #[cellAt (a.eval (.tmp 1)) 0, cellAt (a.eval (.tmp 1)) 1, cellAt (a.eval (.tmp 1)) 2, cellAt (a.eval (.tmp 1)) 3, .int .i64 0]) rfl rfl Kx ?_
 simp only [qz]
 refine rf_storeR (n := 5) rfl rfl Kx rfl rfl (UpdR.here _ _ _ Nl) Nz ?_
 simp only [qz, Nat.reduceAdd]
 refine rg_nil (ek_next (wk_ret ?_))
 refine ek_ret (fun w hw => ⟨rfl, _, run_results1 rfl rfl (Kn.hd0 hw) Try.underlying29 rfl Kx, ?_⟩)
 (try simp only [qz])
 first | exact ⟨rfl, hw.below⟩ | exact ⟨trivial, hw.below⟩ | exact hw.below
end Go.Proofs.Ytjeijnjaleldkaa
