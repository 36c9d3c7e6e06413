/- Texts in one: Ort, Pg5, Or2, Po, SyPm, SyPf, Sy15, CrPl, Cr1, Cr3, Sy17, PgK, Pg7, Orr, Q3, Q5, Q6, SmE, FrmT, Mul64. -/
import Derived.Test.YthjjkajjpejcdaaGreatLTpG
import Derived.Deep.Slices
import Derived.Lib.SmallJoins
import Derived.Lib.Mul64
import Derived.Laws.Bits64b
import Derived.Lib.Strings
import Derived.Lib.Slices
import Derived.Lib.Small
import Derived.Lib.Walk
import Derived.Lib.BitFns
import Derived.Lib.ItoaNum
import Derived.Deep.Light
namespace Go.Proofs.YthjjkajjpejcdaaGreat
set_option linter.all false
set_option maxRecDepth 100000
set_option maxHeartbeats 1000000
open Go.RowKit
section
variable {P : Program} {ops : Array Oper} {Q : Exit → Act → World → Prop} {md : Region.Mode}
def Cl (md : Region.Mode) (ops : Array Oper) (listed : Array Bool) : Prop := ∀ k ok, ops[k]? = some ok → listed.getD k false = true → ∀ e ∈ ok.after, Region.binds md e = true → listed.getD e.on false = true
theorem Cl.step {listed : Array Bool} {j : Nat} (h : Cl md ops listed) (hj : j ∈ Region.ready md ops listed) : Cl md ops (listed.setIfInBounds j true) := fun k ok hk hl e he hb => by
  by_cases e1 : j = k
  · subst e1
    obtain ⟨-, o, ho, hall⟩ := mem_ready.1 hj
    rw [hk] at ho
    cases ho
    exact getD_set_true (hall e he hb)
  · rw [getD_set_ne false e1] at hl
    exact getD_set_true (h k ok hk hl e he hb)
def reachT (md : Region.Mode) (ops : Array Oper) : Nat → Nat → Nat → Bool
  | 0, _, _ => false
  | f + 1, m, i => match ops[m]? with
    | some o => o.after.any fun e => Region.binds md e && (e.on == i || reachT md ops f e.on i)
    | none => false
theorem reach_listed {listed : Array Bool} {i : Nat} (h : Cl md ops listed) : ∀ (f d : Nat), listed.getD d false = true → reachT md ops f d i = true → listed.getD i false = true
  | 0, _, _, hr => by cases hr
  | f + 1, d, hd, hr => by
    unfold reachT at hr
    cases ho : ops[d]? with
    | none => rw [ho] at hr; cases hr
    | some o =>
      rw [ho] at hr; simp only [Array.any_eq_true, Bool.and_eq_true, Bool.or_eq_true, beq_iff_eq] at hr
      obtain ⟨n, hn, hb, hor⟩ := hr
      have hl := h d o ho hd _ (Array.getElem_mem hn) hb
      rcases hor with e | e
      · rw [← e]; exact hl
      · exact reach_listed h f _ hl e
theorem reach_ready {listed : Array Bool} {m i f : Nat} (h : Cl md ops listed) (hm : m ∈ Region.ready md ops listed) (hr : reachT md ops f m i = true) : listed.getD i false = true := by
 cases f with
 | zero => cases hr
 | succ f =>
  unfold reachT at hr
  obtain ⟨-, o, ho, hall⟩ := mem_ready.1 hm
  rw [ho] at hr; simp only [Array.any_eq_true, Bool.and_eq_true, Bool.or_eq_true, beq_iff_eq] at hr
  obtain ⟨n, hn, hb, hor⟩ := hr
  have hl := hall _ (Array.getElem_mem hn) hb
  rcases hor with e | e
  ·rw [← e]; exact hl
  ·exact reach_listed h f _ hl e
theorem wpAnyF_firstT {S : Array Bool → World → Prop} {T : World → Prop} {i : Nat} {oi : Oper} {v : Value} (hi : ops[i]? = some oi) (hsel : ∀ (j : Nat) (o : Oper) cs b, ops[j]? = some o → o.op ≠ .select cs b)
    (hQ : ∀ c a w, Q (.panic c) (a.put oi.dst v) w → Q (.panic c) a w)
    (hSi : ∀ listed w, S (listed.setIfInBounds i true) w ↔ S listed w)
    (hSj : ∀ j listed, Cl md ops listed → j ∈ Region.ready md ops listed → listed.getD i true = false → (∀ w, S listed w → T w) → ∀ w, S (listed.setIfInBounds j true) w → T w) :
    ∀ (fuel : Nat) (listed : Array Bool) (a : Act) (w : World), Cl md ops listed → (∀ w, S listed w → T w) →
      (∀ j oj, ops[j]? = some oj → j ≠ i → listed.getD j true = false → (∀ e ∈ oj.after, Region.binds md e = true → e.on ≠ i) → oi.apart ops oj = true) →
      i ∈ Region.ready md ops listed → YieldsIf P ops T oi v a → S listed w →
      wpAnyF P md ops Q S fuel (listed.setIfInBounds i true) (a.put oi.dst v) w → wpAnyF P md ops Q S (fuel + 1) listed a w := by
  intro fuel
  induction fuel with
  | zero =>
    intro listed a w hC hT _ hr hy hS H; refine ⟨fun h => (by rw [h] at hr; cases hr), fun j hj => ?_⟩
    by_cases hji : j = i
    · subst hji; exact hy.wpOp hi (hT w hS) ⟨(hSi _ _).2 hS, H⟩
    · have := ready_mono hj hji
      rw [H.1] at this
      cases this
  | succ fuel ih =>
    intro listed a w hC hT hfree hr hy hS H; refine ⟨fun h => (by rw [h] at hr; cases hr), fun j hj => ?_⟩
    by_cases hji : j = i
    · subst hji; exact hy.wpOp hi (hT w hS) ⟨(hSi _ _).2 hS, H⟩
    · have h1 := H.2 j (ready_mono hj hji)
      obtain ⟨hjun, oj, hoj, hall⟩ := mem_ready.1 hj
      have hnot : ∀ e ∈ oj.after, Region.binds md e = true → e.on ≠ i := fun e he hb heq => by
        have h1 := hall e he hb
        have h0 := (mem_ready.1 hr).1
        rw [heq] at h1
        rcases Nat.lt_or_ge i listed.size with h' | h'
        · simp [h'] at h0 h1; rw [h0] at h1; cases h1
        · simp [Array.getElem?_eq_none h'] at h1
      have h2 := wpOp_putIf hoj (hfree j oj hoj hji hjun hnot) (fun cs b => hsel i oi cs b hi) (fun cs b => hsel j oj cs b hoj) hQ hy h1
      have hfree' : ∀ k ok, ops[k]? = some ok → k ≠ i → (listed.setIfInBounds j true).getD k true = false →
          (∀ e ∈ ok.after, Region.binds md e = true → e.on ≠ i) → oi.apart ops ok = true := fun k ok hk hki hun hno => by
        refine hfree k ok hk hki ?_ hno
        by_cases hjk : j = k
        · subst hjk; exact hjun
        · rw [getD_set_ne true hjk] at hun; exact hun
      have hSjj := hSj j listed hC hj (mem_ready.1 hr).1 hT
      refine wpOp_mono (fun a' w' h3 => ?_) h2
      have hS3 : S (listed.setIfInBounds j true) w' := by
        have := h3.2.1
        rw [Array.setIfInBounds_comm _ _ (Ne.symm hji)] at this
        exact (hSi _ _).1 this
      refine ⟨hS3, ih (listed.setIfInBounds j true) a' w' (hC.step hj) hSjj hfree' (ready_mono hr (Ne.symm hji)) h3.1 hS3 ?_⟩; rw [Array.setIfInBounds_comm _ _ hji]
      exact h3.2.2
def eagT (md : Region.Mode) (ops : Array Oper) : List (Nat × Nat) → List Nat → Array Bool → Bool
  | [], ms, listed => (Region.ready md ops listed).isEmpty
  | (i, 0) :: l, ms, listed => (Region.ready md ops listed).contains i && (Region.free md ops listed i &&
      ((ms.all fun m => m != i && reachT md ops 20 m i) && eagT md ops l ms (listed.setIfInBounds i true)))
  | (i, 1) :: l, ms, listed => decide (Region.ready md ops listed = [i]) && (!ms.contains i && eagT md ops l ms (listed.setIfInBounds i true))
  | (i, 2) :: l, ms, listed => match ms with
    | [] => false
    | m :: r => decide (Region.ready md ops listed = [i]) && (m == i && (decide (i < listed.size) && (!r.contains i && eagT md ops l r (listed.setIfInBounds i true))))
  | (i, _ + 3) :: l, ms, listed => (Region.ready md ops listed).contains i && (Region.free md ops listed i && (!ms.contains i && eagT md ops l ms (listed.setIfInBounds i true)))
theorem wpAnyF_of_eagT {c : World → Prop} (hs : Region.noSelect ops = true) (hQ : ∀ c d v a w, Q (.panic c) (Act.put a d v) w → Q (.panic c) a w) :
    ∀ (l : List (Nat × Nat)) (m : List (Nat × (World → Prop))) (b : World → Prop) (listed : Array Bool) (a : Act) (w : World), Cl md ops listed → (∀ x ∈ m, listed.getD x.1 false = false) →
      (∀ w, b w → c w) → (∀ x ∈ m, ∀ w, x.2 w → c w) → eagT md ops l (m.map (·.1)) listed = true → b w → wpEagF P ops Q c l m b a w → wpAnyF P md ops Q (sOf m b) l.length listed a w
  | [], m, b, listed, a, w, _, hm, _, _, hB, _, h => ⟨by simpa [eagT] using hB, h⟩
  | (i, 0) :: l, m, b, listed, a, w, hC, hm, hc, hcm, hB, hb, h => by
    simp only [eagT, Bool.and_eq_true] at hB
    obtain ⟨hr, hf, hms, hB'⟩ := hB
    obtain ⟨o, v, ho, hy, hrest⟩ := h
    have hbase : ∀ listed' : Array Bool, (∀ x ∈ m, listed'.getD x.1 false = false) → sOf m b listed' = b := by
      intro listed' h'
      cases m with
      | nil => rfl
      | cons x r => simp only [sOf]; rw [if_neg (by rw [h' x (by simp)]; simp)]
    have hmi : ∀ x ∈ m, x.1 ≠ i := fun x hx e => by
      have := List.all_eq_true.1 hms x.1 (List.mem_map.2 ⟨x, hx, rfl⟩)
      simp [e] at this
    have hmr : ∀ x ∈ m, reachT md ops 20 x.1 i = true := fun x hx => by
      have := List.all_eq_true.1 hms x.1 (List.mem_map.2 ⟨x, hx, rfl⟩)
      rw [Bool.and_eq_true] at this
      exact this.2
    have hir : i ∈ Region.ready md ops listed := by simpa using hr
    refine wpAnyF_firstT (T := b) ho (Region.noSelect_spec hs) (fun c a w => hQ c _ _ a w) (fun listed w => by rw [sOf_other m b listed hmi]) (fun j listed hCl hj hun h w hw => h w (by
        rw [sOf_other m b listed (fun x hx e => by
          have h1 := reach_ready hCl (e ▸ hj) (hmr x hx)
          rcases Nat.lt_or_ge i listed.size with h' | h'
          · simp [h'] at h1 hun; rw [hun] at h1; cases h1
          · simp [Array.getElem?_eq_none h'] at h1)] at hw
        exact hw))
      l.length listed a w hC (by rw [hbase listed hm]; exact fun _ h => h) (Region.free_spec ho hf) hir hy (by rw [hbase listed hm]; exact hb) ?_
    exact wpAnyF_of_eagT hs hQ l m b _ _ _ (hC.step (by simpa using hr)) (fun x hx => by rw [getD_set_ne false (Ne.symm (hmi x hx))]; exact hm x hx) hc hcm hB' hb hrest
  | (i, n + 3) :: l, m, b, listed, a, w, hC, hm, hc, hcm, hB, hb, h => by
    simp only [eagT, Bool.and_eq_true, Bool.not_eq_true'] at hB
    obtain ⟨hr, hf, hni, hB'⟩ := hB
    obtain ⟨o, v, ho, hy, hrest⟩ := h
    have hmi : ∀ x ∈ m, x.1 ≠ i := fun x hx e => by
      have : (m.map (·.1)).contains i = true := by simp only [List.contains_iff_mem]; exact List.mem_map.2 ⟨x, hx, e⟩
      rw [this] at hni; cases hni
    have hbase : ∀ listed' : Array Bool, (∀ x ∈ m, listed'.getD x.1 false = false) → sOf m b listed' = b := by
      intro listed' h'
      cases m with
      | nil => rfl
      | cons x r => simp only [sOf]; rw [if_neg (by rw [h' x (by simp)]; simp)]
    refine wpAnyF_firstT (T := c) ho (Region.noSelect_spec hs) (fun c a w => hQ c _ _ a w) (fun listed w => by rw [sOf_other m b listed hmi]) (fun _ _ _ _ _ _ => sOf_c m b _ hc hcm)
      l.length listed a w hC (sOf_c m b _ hc hcm) (Region.free_spec ho hf) (by simpa using hr) hy (by rw [hbase listed hm]; exact hb) ?_
    exact wpAnyF_of_eagT hs hQ l m b _ _ _ (hC.step (by simpa using hr)) (fun x hx => by rw [getD_set_ne false (Ne.symm (hmi x hx))]; exact hm x hx) hc hcm hB' hb hrest
  | (i, 1) :: l, m, b, listed, a, w, hC, hm, hc, hcm, hB, hb, h => by
    simp only [eagT, Bool.and_eq_true, decide_eq_true_eq, Bool.not_eq_true'] at hB
    obtain ⟨hr, hni, hB'⟩ := hB
    have hmi : ∀ x ∈ m, x.1 ≠ i := fun x hx e => by
      have : (m.map (·.1)).contains i = true := by simp only [List.contains_iff_mem]; exact List.mem_map.2 ⟨x, hx, e⟩
      rw [this] at hni; cases hni
    have hm' : ∀ x ∈ m, (listed.setIfInBounds i true).getD x.1 false = false := fun x hx => by rw [getD_set_ne false (Ne.symm (hmi x hx))]; exact hm x hx
    have hbase : sOf m b (listed.setIfInBounds i true) = b := by
      cases m with
      | nil => rfl
      | cons x r => simp only [sOf]; rw [if_neg (by rw [hm' x (by simp)]; simp)]
    refine ⟨fun h0 => (by rw [h0] at hr; cases hr), fun j hj => ?_⟩; rw [hr] at hj
    have hji : j = i := by simpa using hj
    subst hji
    refine wpOp_mono (fun a' w' h' => ⟨by rw [hbase]; exact h'.1, wpAnyF_of_eagT hs hQ l m b _ _ _ (hC.step (by rw [hr]; simp)) hm' hc hcm hB' h'.1 h'.2⟩) h
  | (i, 2) :: l, [], b, listed, a, w, hC, hm, hc, hcm, hB, hb, h => by simp [eagT] at hB
  | (i, 2) :: l, (m, p) :: r, b, listed, a, w, hC, hm, hc, hcm, hB, hb, h => by
    simp only [eagT, List.map_cons, Bool.and_eq_true, decide_eq_true_eq, beq_iff_eq, Bool.not_eq_true'] at hB
    obtain ⟨hr, hmi, hlt, hni, hB'⟩ := hB
    subst hmi
    have hri : ∀ x ∈ r, x.1 ≠ m := fun x hx e => by
      have : (r.map (·.1)).contains m = true := by simp only [List.contains_iff_mem]; exact List.mem_map.2 ⟨x, hx, e⟩
      rw [this] at hni; cases hni
    have hm' : ∀ x ∈ r, (listed.setIfInBounds m true).getD x.1 false = false := fun x hx => by rw [getD_set_ne false (Ne.symm (hri x hx))]; exact hm x (by simp [hx])
    have hset : ∀ (listed' : Array Bool), listed'.getD m false = true → sOf ((m, p) :: r) b listed' = sOf r p listed' := fun listed' h' => by simp only [sOf]; rw [if_pos h']
    have hgot : (listed.setIfInBounds m true).getD m false = true := by simp [Array.getD_eq_getD_getElem?, hlt]
    have hbase : sOf r p (listed.setIfInBounds m true) = p := by
      cases r with
      | nil => rfl
      | cons x r => simp only [sOf]; rw [if_neg (by rw [hm' x (by simp)]; simp)]
    refine ⟨fun h0 => (by rw [h0] at hr; cases hr), fun j hj => ?_⟩; rw [hr] at hj
    have hji : j = m := by simpa using hj
    subst hji
    have h : wpOp P ops Q j (fun a' w' => p w' ∧ wpEagF P ops Q c l r p a' w') a w := by simpa only [wpEagF] using h
    refine wpOp_mono (fun a' w' h' => ⟨by rw [hset _ hgot, hbase]; exact h'.1, ?_⟩) h; refine wpAnyF_congr (S := sOf r p) (fun listed' => listed'.getD j false = true) ?_ (fun listed' h' => (hset listed' h').symm) _ _ _ _ hgot (wpAnyF_of_eagT hs hQ l r p _ _ _ (hC.step (by rw [hr]; simp)) hm' (hcm (j, p) (by simp)) (fun x hx => hcm x (by simp [hx])) hB' h'.1 h'.2); intro listed' k hk
    by_cases hkj : k = j
    · subst hkj
      rcases Nat.lt_or_ge k listed'.size with h' | h'
      · simp [Array.getD_eq_getD_getElem?, h']
      · rw [show listed'.setIfInBounds k true = listed' from by simp [Array.setIfInBounds, Nat.not_lt.2 h']]; exact hk
    · rw [getD_set_ne false hkj]; exact hk
theorem wp_region_eagT {id : Nat} {a : Act} {w : World} {l : List Oper} {c : World → Prop} (m : List (Nat × (World → Prop))) (b : World → Prop) (ord : List (Nat × Nat)) (hm : P.follows .mixedOrders = true)
    (hB : (Region.noSelect l.toArray && (decide (ord.length = l.length) && eagT .any l.toArray ord (m.map (·.1)) (Array.replicate l.length false))) = true)
    (hQ : ∀ c d v a w, Q (.panic c) (Act.put a d v) w → Q (.panic c) a w) (hb : b w.drew) (hc : ∀ w, b w → c w) (hcm : ∀ x ∈ m, ∀ w, x.2 w → c w)
    (h : wpEagF P l.toArray Q c ord m b a w.drew) : (Code.region id l.toArray true).wp P Q a w := by
  simp only [Bool.and_eq_true, decide_eq_true_eq] at hB
  obtain ⟨hs, hl, hB⟩ := hB
  refine wp_region_any hm ?_
  have hx : ∀ x ∈ m, (Array.replicate l.length false).getD x.1 false = false := fun x _ => by
    rw [Array.getD_eq_getD_getElem?]
    rcases Nat.lt_or_ge x.1 l.length with h' | h' <;> simp [h', Array.getElem?_replicate]
  have := wpAnyF_of_eagT (md := .any) hs hQ ord m b _ a w.drew (fun k ok hk h => by
    rw [Array.getD_eq_getD_getElem?] at h
    rcases Nat.lt_or_ge k l.length with h' | h' <;> simp [h', Array.getElem?_replicate] at h) hx hc hcm hB hb h
  rw [hl] at this
  exact wpAny_of_F _ _ _ _ (by simpa using this)
end
section
variable {R : Option Nat} {P : Program} {ops : Array Oper} {Q : Exit → Act → World → Prop} {B : World} {F : List Nat} {s0 : Option (List Blk × List Blk)}
theorem wk_drawsT {id : Nat} {a : Act} {s : List Blk} {l : List Oper} (z z1 : List Blk) (ord : List (Nat × Nat)) (mk : List Nat) (hm : P.follows .mixedOrders = true)
    (hB : ((Region.noSelect l.toArray && (decide (ord.length = l.length) && eagT .any l.toArray ord mk (Array.replicate l.length false))) &&
      ((ord.all fun p => decide (p.1 < l.length)) && (decide (mk.length ≤ 1) && decide ((ord.map (·.2)).filter (· == 2) = mk.map fun _ => 2)))) = true)
    (hQ : ∀ c d v a w, Q (.panic c) (Act.put a d v) w → Q (.panic c) a w) (hz : z.Sublist s) (hzz : mk = [] → z = z1)
    (h : Rg none P l.toArray Q B F (some (z, z1)) (ord.map fun p => (l.getD p.1 default, p.2)) a s) (hy : z1.Sublist z := by exact List.Sublist.refl _) : Wk none P B F Q a s (Code.region id l.toArray true) := fun w K => by
  simp only [Bool.and_eq_true, decide_eq_true_eq, List.all_eq_true] at hB
  obtain ⟨hB1, h1, h3, h4⟩ := hB
  refine wpIn_wide.2 ?_
  match mk, h3, h4, hB1, hzz with
  | [], _, h4, hB1, hzz =>
    refine wp_region_eagT [] (Kn B F z) ord hm (by simp only [Bool.and_eq_true, decide_eq_true_eq]; exact hB1) hQ (K.drew.sub hz) (fun w K => K.sub hy) (fun x hx => nomatch hx) ?_; refine rg_eag l rfl 0 ord (z, z1) a s [] (.inr ⟨rfl, hzz rfl, fun p hp e => ?_⟩) (by rw [if_pos rfl]; exact h4) (by simpa [List.all_eq_true] using h1) h w.drew K.drew
    have : p.2 ∈ (ord.map (·.2)).filter (· == 2) := List.mem_filter.2 ⟨List.mem_map.2 ⟨p, hp, rfl⟩, by simp [e]⟩
    rw [h4] at this; cases this
  | [x], _, h4, hB1, _ =>
    refine wp_region_eagT [(x, Kn B F z1)] (Kn B F z) ord hm (by simp only [Bool.and_eq_true, decide_eq_true_eq]; exact hB1) hQ (K.drew.sub hz) (fun w K => K.sub hy) (fun x hx w K => by simp only [List.mem_singleton] at hx; subst hx; exact K) ?_
    exact rg_eag l rfl x ord (z, z1) a s [(x, Kn B F z1)] (.inl rfl) (by rw [if_neg (by simp)]; exact h4) (by simpa [List.all_eq_true] using h1) h w.drew K.drew
  | _ :: _ :: _, h3, _, _, _ => simp at h3
theorem wk_drawsT_m {id : Nat} {a : Act} {s z1 : List Blk} (hz1 : z1.Sublist s) {l : List Oper} (ord : List (Nat × Nat)) (mk : Nat) (hm : P.follows .mixedOrders = true)
    (hB : ((Region.noSelect l.toArray && (decide (ord.length = l.length) && eagT .any l.toArray ord [mk] (Array.replicate l.length false))) &&
      ((ord.all fun p => decide (p.1 < l.length)) && (decide ([mk].length ≤ 1) && decide ((ord.map (·.2)).filter (· == 2) = [mk].map fun _ => 2)))) = true)
    (hQ : ∀ c d v a w, Q (.panic c) (Act.put a d v) w → Q (.panic c) a w)
    (h : Rg none P l.toArray Q B F (some (s, z1)) (ord.map fun p => (l.getD p.1 default, p.2)) a s) : Wk none P B F Q a s (Code.region id l.toArray true) :=
  wk_drawsT s z1 ord [mk] hm hB hQ (List.Sublist.refl _) (fun e => nomatch e) h hz1
end
def PairR (N col : Nat) (K : Int) (z : Zt) (L : List It) (z' : Zt) (L' : List It) : Prop :=
  (z' = z ∧ L' = L ∧ ∀ i j, col ≤ i → i < j → j < N → kindN (z i col) K ≠ 0 → kindN (z j col) K ≠ kindN (z i col) K) ∨
  ∃ a b : Nat, col ≤ a ∧ a < b ∧ b < N ∧ kindN (z a col) K ≠ 0 ∧ kindN (z b col) K = kindN (z a col) K ∧ z' = cpZ a (phZ (a + 1) ((matchN (z a col) ((bsZ b z (b - (a + 1))) (a + 1) col) + 6) % 8) (bsZ b z (b - (a + 1)))) ∧ L' = (if ((matchN (z a col) ((bsZ b z (b - (a + 1))) (a + 1) col) + 6) % 8) = 0 then (L ++ bsL b (b - (a + 1))) else (L ++ bsL b (b - (a + 1))) ++ [phsI (((a + 1 : Nat) : Int) + 1) (((matchN (z a col) ((bsZ b z (b - (a + 1))) (a + 1) col) + 6) % 8) : Nat)]) ++ [cplI ((a : Int) + 1)]
theorem wpair_any (N col gw : Nat) (K : Int) (z : Zt) (L : List It) (s : List Blk) (hS : WS N gw z L s) (hN : N ≤ 6) (hL : L.length + 20 ≤ 100000) (hc : col < N) (w : World) (hK : Kn w (s.map (·.1)) s w) : Calls Tryz.prog 111 #[.pointer (some ⟨gw, 0, none⟩), .int .i64 (col : Int), .int .i64 K] w fun e w' => e = .returned (.tuple #[]) ∧ ∃ s', Kn w (s.map (·.1)) s' w' ∧ ∃ z' L', WS N gw z' L' s' ∧ PairR N col K z L z' L' := by
 obtain ⟨go, oc, ro, rs, ia, ic, u, hse, hrl, hoc, hlen, hval, hO, hok⟩ := hS.open_
 go_enter Tryz.func111, Tryz.ntmps111
 refine wk_startF (Kn.to hse hK.nil') ?_
 refine wk_seq ?_
 refine Wm [0, 0] ?_
 refine Zr ?_
 refine wk_loopF [6, 7, 8, 10, 11, 12, 13, 14, 15, 16, 17, 18, 19, 20, 21, 22, 23, 24, 25, 26, 27, 28, 29, 30, 31, 32, 33, 34, 35, 36, 37, 38, 39, 40, 41, 42, 43, 44, 45, 46, 47, 48, 49, 50, 51, 52, 53, 54, 55, 56, 57, 58, 59, 60, 61, 62, 63, 64, 65, 66, 67, 68, 69, 70, 71, 72, 73, 74, 75, 76, 77, 78, 79, 80, 81, 82, 83, 84, 85] (fun mz f s => ∃ (a : Nat), f 6 = .int .i64 a ∧ s = ((gw, .cells #[.slice (some ⟨go, 0, none⟩) N oc, .slice ia L.length ic] 118) :: ((go, .cells (rwV N (rs) ++ ro).toArray 26) :: (rwB rs ++ (u ++ [])))) ∧ mz = N - a ∧ col ≤ a ∧ a ≤ N ∧ (∀ i j, col ≤ i → i < a → i < j → j < N → kindN (z i col) K ≠ 0 → kindN (z j col) K ≠ kindN (z i col) K)) ((fun (a : Nat) => N - a) (col)) ?_ Kx ?_
 ·exact ⟨col, rfl, rfl, rfl, by omega, by omega, (fun i j h1 h2 => absurd h2 Ox)⟩
 rintro mz f1 s ⟨a, hs1_6, rfl, hn, hd1, hd2, hd3⟩
 simp only [Act.putF, List.foldl_cons, List.foldl_nil, hs1_6, Act.put, Act.eval, qW, Nat.reduceAdd, Bool.not_true, Bool.not_false]
 clear hs1_6
 have ho := hd3
 clear hd3
 refine wk_seq (wk_seq ?_)
 refine Wm [0, 0, 0, 0, 0, 0, 0] ?_
 refine Zk ?_
 refine Fd 0 0 UU118 ?_
 refine rf_load rfl rfl rfl UU116 rfl (fun w hw => (Kn.hd0 hw).at rfl) (Nq ?_)
 refine rf_len rfl rfl rfl UU116 (Nq ?_)
 refine rfb_lss rfl rfl rfl rfl ?_
 rintro (_ | _) h1 <;> try simp only [qd, ne_eq] at h1
 ·simp only [qz]
  refine rg_nil (ek_next (wk_cond_f rfl (wk_exit (ek_then_exit (ek_then_exit (ek_block_exit ?_)))))); refine ek_norm (fun w hw => ⟨rfl, _, res_0 rfl, ?_⟩); (try simp only [qz])
  obtain rfl : a = N := by omega
  exact ⟨(by first | rfl | trivial), _, Kn.of_nil (hw.to hse.symm), _, _, hS, .inl ⟨rfl, rfl, fun i j h1 h2 h3 h4 => ho i j h1 Ox h2 h3 h4⟩⟩
 simp only [qz]
 refine Zr ?_
 obtain ⟨⟨b1, c1, l1, r1⟩, hx1⟩ : ∃ x, rs[a]? = some x := ⟨rs[a]'Ox, List.getElem?_eq_getElem Ox⟩
 have hl1 : l1.length = N := hlen ⟨b1, c1, l1, r1⟩ (List.mem_of_getElem? hx1)
 have hz1 : nm l1 col = z (a) col := hval _ _ hx1 col hc
 refine Wm [0, 0, 0, 0, 0, 0, 0, 0, 0, 0, 1, 1] ?_
 refine Zk ?_
 refine Fd 0 0 UU118 ?_
 refine rf_load rfl rfl rfl UU116 rfl (fun w hw => (Kn.hd0 hw).at rfl) (Zm ?_)
 refine rf_indexS (n := a) (sz := 1) (j := a) rfl rfl rfl rfl UU116 Kx Ox Ox Ox (Nq ?_)
 refine rf_load (v := .slice (some ⟨b1, 0, none⟩) N c1) rfl rfl rfl UU26 rfl (fun w hw => Kn.outer (Kn.tl hw) (hx1)) (Zm ?_)
 refine rf_indexS (n := col) (sz := 5) (j := 0 + col * 5) rfl rfl rfl rfl UU26 Kx Ox Ox rfl (Nq ?_)
 refine rf_loadC (n := 5) (vs := [.int .i64 (z a col).a, .int .i64 (z a col).b, .int .i64 (z a col).c, .int .i64 (z a col).d, .int .i64 (z a col).k]) rfl rfl rfl UU44 rfl Kx rfl (fun w hw => atN_range (by have := Kn.row (Kn.tl (Kn.tl hw)) hx1 (k := col) (by rw [hl1]; exact hc); rw [hz1] at this; exact this)) (Nq ?_)
 refine Rgn fun g1 => ?_
 simp only [qz]
 refine rf_storeR (n := 5) rfl rfl Kx rfl rfl (UpdR.here _ _ _ Nl) Nz (Nw ?_)
 refine Zr ?_
 refine Wr [0, 0, 1, 0] ?_
 refine rf_loadR (n := 5) rfl rfl rfl UU44 rfl Kx (fun w hw => Kn.hd0 hw) rfl rfl (Zm ?_)
 apply rg_pure Rx Kx
 case hargs => exact Ax
 case h => exact fun w hw => kind_any (z a col) K w
 case hz => exact Nz
 simp only [qz]
 refine rfb_eql rfl rfl rfl rfl ?_
 rintro (_ | _) h2 <;> try simp only [qd, ne_eq] at h2
 ·simp only [qz]
  refine Zr ?_; refine Wm [0, 0, 0] ?_; refine rf_add rfl rfl rfl rfl (wrap_ok Ox Ox) (Zm ?_); refine Zr ?_; refine wk_loopF [8, 35, 36, 37, 38, 39, 40, 41, 42, 43, 44, 45, 46, 47, 48, 49, 50, 51, 52, 53, 54, 55, 56, 57, 58, 59, 60, 61, 62, 63, 64, 65, 66, 67, 68, 69, 70, 71, 72, 73, 74, 75, 76, 77, 78, 79, 80, 81, 82, 83, 84, 85] (fun mz f s => ∃ (b : Nat), f 8 = .int .i64 b ∧ s = ((g1, .cells #[.int .i64 (z a col).a, .int .i64 (z a col).b, .int .i64 (z a col).c, .int .i64 (z a col).d, .int .i64 (z a col).k] 44) :: ((gw, .cells #[.slice (some ⟨go, 0, none⟩) N oc, .slice ia L.length ic] 118) :: ((go, .cells (rwV N (rs) ++ ro).toArray 26) :: (rwB rs ++ (u ++ []))))) ∧ mz = N - b ∧ a < b ∧ b ≤ N ∧ (∀ j, a < j → j < b → kindN (z j col) K ≠ kindN (z a col) K)) ((fun (b : Nat) => N - b) (a + 1)) ?_ Kx ?_
  ·exact ⟨a + 1, rfl, rfl, rfl, by omega, by omega, (fun j h1 h2 => absurd h2 Ox)⟩
  rintro mz f2 s ⟨b, hs2_8, rfl, hn, he1, he2, he3⟩
  simp only [Act.putF, List.foldl_cons, List.foldl_nil, hs2_8, Act.put, Act.eval, qW, Nat.reduceAdd, Bool.not_true, Bool.not_false]; clear hs2_8; refine wk_seq (wk_seq ?_); refine Wm [0, 0, 0, 0, 0, 0, 0] ?_; refine Zk ?_; refine Fd 0 0 UU118 ?_; refine rf_load rfl rfl rfl UU116 rfl (fun w hw => (Kn.hd0 (Kn.tl hw)).at rfl) (Nq ?_); refine rf_len rfl rfl rfl UU116 (Nq ?_); refine rfb_lss rfl rfl rfl rfl ?_
  rintro (_ | _) h3 <;> try simp only [qd, ne_eq] at h3
  ·simp only [qz]
   refine Zr ?_; refine Wm [0, 0, 0] ?_; refine rf_add rfl rfl rfl rfl (wrap_ok Ox Ox) (Zm ?_); refine rg_nil ?_; refine ek_sub (sk _ (sc _ (sc _ (Sa (Sa sn _) _)))) ?_; refine ek_roundF (N - (a + 1)) Ox Kx ?_
   exact ⟨a + 1, rfl, by rfl, by rfl, by omega, by omega, (fun i j y1 y2 y3 y4 y5 => if e : i = a then (by subst e; exact he3 j y3 Ox) else ho i j y1 Ox y3 y4 y5)⟩
  simp only [qz]; refine Zr ?_
  obtain ⟨⟨b2, c2, l2, r2⟩, hx2⟩ : ∃ x, rs[b]? = some x := ⟨rs[b]'Ox, List.getElem?_eq_getElem Ox⟩
  have hl2 : l2.length = N := hlen ⟨b2, c2, l2, r2⟩ (List.mem_of_getElem? hx2)
  have hz2 : nm l2 col = z (b) col := hval _ _ hx2 col hc
  refine wk_draws _ _ [(0, 0), (1, 0), (2, 0), (3, 0), (4, 0), (5, 0), (6, 0), (7, 0), (8, 0), (9, 0), (10, 0), (12, 0), (13, 0), (11, 1), (14, 1), (15, 0)] [] Kx Kx (fun c d v a w h => by cases d <;> exact h) ((sc _ (sc _ (sc _ (Sa (Sa sn _) _))))) (fun e => by first | exact absurd e (by decide) | rfl) ?_; simp only [List.map_cons, List.map_nil, List.getD_cons_zero, List.getD_cons_succ]; refine Zm ?_; refine Zk ?_
  refine Fd 0 0 UU118 ?_; refine rf_load rfl rfl rfl UU116 rfl (fun w hw => (Kn.hd0 (Kn.tl hw)).at rfl) (Zm ?_); refine rf_indexS (n := b) (sz := 1) (j := b) rfl rfl rfl rfl UU116 Kx Ox Ox Ox (Nq ?_); refine rf_load (v := .slice (some ⟨b2, 0, none⟩) N c2) rfl rfl rfl UU26 rfl (fun w hw => Kn.outer (Kn.tl (Kn.tl hw)) (hx2)) (Zm ?_); refine rf_indexS (n := col) (sz := 5) (j := 0 + col * 5) rfl rfl rfl rfl UU26 Kx Ox Ox rfl (Nq ?_)
  refine rf_loadC (n := 5) (vs := [.int .i64 (z b col).a, .int .i64 (z b col).b, .int .i64 (z b col).c, .int .i64 (z b col).d, .int .i64 (z b col).k]) rfl rfl rfl UU44 rfl Kx rfl (fun w hw => atN_range (by have := Kn.row (Kn.tl (Kn.tl (Kn.tl hw))) hx2 (k := col) (by rw [hl2]; exact hc); rw [hz2] at this; exact this)) (Zm ?_); refine rf_loadR (n := 5) rfl rfl rfl UU44 rfl Kx (fun w hw => Kn.hd0 hw) rfl rfl (Zm ?_)
  apply rg_pure Rx Kx
  case hargs => exact Ax
  case h => exact fun w hw => kind_any (z b col) K w
  case hz => exact (fun _ h => by cases h; exact (sc _ (sc _ (sc _ (Sa (Sa sn _) _)))))
  simp only [qz]; apply rg_pure Rx Kx
  case hargs => exact Ax
  case h => exact fun w hw => kind_any (z a col) K w
  case hz => exact (fun _ h => by cases h; exact (sc _ (sc _ (sc _ (Sa (Sa sn _) _)))))
  simp only [qz]; refine rfb_neq rfl rfl rfl rfl ?_
  rintro (_ | _) h4 <;> try simp only [qd, ne_eq] at h4
  ·simp only [qz]
   refine Zr ?_; rw [← hse]; refine Wm [0, 0, 0, 0, 1] ?_; refine rf_add (r := ((a + 1 : Nat) : Int)) rfl rfl rfl rfl (wrap_eqB Ox Ox Ox) (Nq ?_); refine rg_eff (T := fun uV => WS N gw (bsZ b z (b - (a + 1))) (L ++ bsL b (b - (a + 1))) uV) (vb := s) (rest := [(g1, .cells #[.int .i64 (z a col).a, .int .i64 (z a col).b, .int .i64 (z a col).c, .int .i64 (z a col).d, .int .i64 (z a col).k] 44)]) Rx Kx (by simp only [qm, qs, Act.eval]; try rfl) (perm_atU (l := [_]) (u := s) (List.Perm.refl _)) (fun w hw => wbeside_any N b (a + 1) gw z L s hS hN Ox Ox Ox w hw) (fun uV hTuV => ?_)
   simp only [qz]; refine rg_nil (ek_next (wk_seq ?_))
   obtain ⟨go2, oc2, ro2, rs2, ia2, ic2, u2, hse2, hrl2, hoc2, hlen2, hval2, hO2, hok2⟩ := hTuV.open_
   refine wk_perm ((((List.Perm.refl _).append_left _).trans (List.perm_middle (l₁ := uV))).trans ((List.Perm.refl _).cons _)) ?_; rw [hse2]
   obtain ⟨⟨b3, c3, l3, r3⟩, hx3⟩ : ∃ x, rs2[a + 1]? = some x := ⟨rs2[a + 1]'Ox, List.getElem?_eq_getElem Ox⟩
   have hl3 : l3.length = N := hlen2 ⟨b3, c3, l3, r3⟩ (List.mem_of_getElem? hx3)
   have hz3 : nm l3 col = (bsZ b z (b - (a + 1))) (a + 1) col := hval2 _ _ hx3 col hc
   have hmt := match_lt (z a col) ((bsZ b z (b - (a + 1))) (a + 1) col)
   have hy2 := hok2 (a + 1) col Ox hc
   refine wk_drawsT_m (hz1 := (sc _ (sk _ (sk _ ((sn.trans (Sr _ _)).trans (Sr _ _)))))) [(0, 0), (1, 0), (2, 0), (3, 0), (4, 0), (5, 0), (6, 0), (7, 0), (8, 0), (9, 0), (10, 0), (11, 0), (12, 0), (13, 0), (14, 0), (15, 1), (16, 0), (17, 2)] 17 Kx Kx (fun c d v a w h => by cases d <;> exact h) ?_; simp only [List.map_cons, List.map_nil, List.getD_cons_zero, List.getD_cons_succ]; refine Zm ?_; refine rf_add (r := ((a + 1 : Nat) : Int)) rfl rfl rfl rfl (wrap_eqB Ox Ox Ox) (Nq ?_)
   refine rf_loadR (n := 5) rfl rfl rfl UU44 rfl Kx (fun w hw => Kn.hd0 hw) rfl rfl (Zm ?_); refine Zk ?_; refine Fd 0 0 UU118 ?_; refine rf_load rfl rfl rfl UU116 rfl (fun w hw => (Kn.hd0 (Kn.tl hw)).at rfl) (Zm ?_); refine rf_add rfl rfl rfl rfl (wrap_ok Ox Ox) (Nq ?_); refine rf_indexS (n := a + 1) (sz := 1) (j := a + 1) rfl rfl rfl rfl UU116 Kx Ox Ox Ox (Nq ?_)
   refine rf_load (v := .slice (some ⟨b3, 0, none⟩) N c3) rfl rfl rfl UU26 rfl (fun w hw => Kn.outer (Kn.tl (Kn.tl hw)) (hx3)) (Zm ?_); refine rf_indexS (n := col) (sz := 5) (j := 0 + col * 5) rfl rfl rfl rfl UU26 Kx Ox Ox rfl (Nq ?_); refine rf_loadC (n := 5) (vs := [.int .i64 ((bsZ b z (b - (a + 1))) (a + 1) col).a, .int .i64 ((bsZ b z (b - (a + 1))) (a + 1) col).b, .int .i64 ((bsZ b z (b - (a + 1))) (a + 1) col).c, .int .i64 ((bsZ b z (b - (a + 1))) (a + 1) col).d, .int .i64 ((bsZ b z (b - (a + 1))) (a + 1) col).k]) rfl rfl rfl UU44 rfl Kx rfl (fun w hw => atN_range (by have := Kn.row (Kn.tl (Kn.tl (Kn.tl hw))) hx3 (k := col) (by rw [hl3]; exact hc); rw [hz3] at this; exact this)) (Nq ?_)
   apply rg_pure Rx Kx
   case hargs => exact Ax
   case h => exact fun w hw => match_any (z a col) ((bsZ b z (b - (a + 1))) (a + 1) col) hy2 w
   case hz => exact (fun _ h => by cases h; exact (sc _ (sc _ (sc _ (Sa (Sa sn _) _)))))
   simp only [qz]; refine rf_sub rfl rfl rfl rfl (wrap_ok Ox Ox) (Nq ?_); refine rg_effM (T := fun uW => WS N gw (phZ (a + 1) ((matchN (z a col) ((bsZ b z (b - (a + 1))) (a + 1) col) + 6) % 8) (bsZ b z (b - (a + 1)))) (if ((matchN (z a col) ((bsZ b z (b - (a + 1))) (a + 1) col) + 6) % 8) = 0 then (L ++ bsL b (b - (a + 1))) else (L ++ bsL b (b - (a + 1))) ++ [phsI (((a + 1 : Nat) : Int) + 1) (((matchN (z a col) ((bsZ b z (b - (a + 1))) (a + 1) col) + 6) % 8) : Nat)]) uW) (vb := uV) (rest := [(g1, .cells #[.int .i64 (z a col).a, .int .i64 (z a col).b, .int .i64 (z a col).c, .int .i64 (z a col).d, .int .i64 (z a col).k] 44)]) Rx Kx (by simp only [qm, qs, Act.eval]; try rfl) (by rw [← hse2]; exact (perm_atU (l := [_]) (u := uV) (List.Perm.refl _))) (sc _ sn) (fun w hw => wphase_any N (a + 1) gw (bsZ b z (b - (a + 1))) (L ++ bsL b (b - (a + 1))) uV hTuV hN (by rw [List.length_append, bsL_len]; omega) Ox _ ((matchN (z a col) ((bsZ b z (b - (a + 1))) (a + 1) col) + 6) % 8) Ox w hw) (fun uW hTuW => ?_)
   simp only [qz]; refine Zr ?_; refine Wm [0, 0, 1] ?_; refine rg_eff (T := fun uX => WS N gw (cpZ a (phZ (a + 1) ((matchN (z a col) ((bsZ b z (b - (a + 1))) (a + 1) col) + 6) % 8) (bsZ b z (b - (a + 1))))) ((if ((matchN (z a col) ((bsZ b z (b - (a + 1))) (a + 1) col) + 6) % 8) = 0 then (L ++ bsL b (b - (a + 1))) else (L ++ bsL b (b - (a + 1))) ++ [phsI (((a + 1 : Nat) : Int) + 1) (((matchN (z a col) ((bsZ b z (b - (a + 1))) (a + 1) col) + 6) % 8) : Nat)]) ++ [cplI ((a : Int) + 1)]) uX) (vb := uW) (rest := [(g1, .cells #[.int .i64 (z a col).a, .int .i64 (z a col).b, .int .i64 (z a col).c, .int .i64 (z a col).d, .int .i64 (z a col).k] 44)]) Rx Kx (by simp only [qm, qs, Act.eval]; try rfl) (List.Perm.refl _) (fun w hw => wcouple_any N a gw (phZ (a + 1) ((matchN (z a col) ((bsZ b z (b - (a + 1))) (a + 1) col) + 6) % 8) (bsZ b z (b - (a + 1)))) (if ((matchN (z a col) ((bsZ b z (b - (a + 1))) (a + 1) col) + 6) % 8) = 0 then (L ++ bsL b (b - (a + 1))) else (L ++ bsL b (b - (a + 1))) ++ [phsI (((a + 1 : Nat) : Int) + 1) (((matchN (z a col) ((bsZ b z (b - (a + 1))) (a + 1) col) + 6) % 8) : Nat)]) uW hTuW hN (by split <;> simp only [List.length_append, bsL_len, List.length_cons, List.length_nil] <;> omega) Ox w hw) (fun uX hTuX => ?_)
   simp only [qz]; refine Zr ?_; refine ek_sub (Sa (sk _ sn) _) ?_; refine ek_ret (fun w hw => ⟨rfl, _, res_0 rfl, ?_⟩); (try simp only [qz])
   exact ⟨(by first | rfl | trivial), _, hw.of_nil, _, _, hTuX, .inr ⟨a, b, by omega, by omega, by omega, h2, by omega, rfl, rfl⟩⟩
  simp only [qz]; refine Zr ?_; refine Wm [0, 0, 0] ?_; refine rf_add rfl rfl rfl rfl (wrap_ok Ox Ox) (Zm ?_); refine rg_nil ?_; refine ek_roundF (N - (b + 1)) Ox Kx ?_
  exact ⟨b + 1, rfl, by rfl, by rfl, by omega, by omega, (fun j y1 y2 => if e : j = b then e ▸ h4 else he3 j y1 Ox)⟩
 simp only [qz]
 refine Zr ?_
 refine Wm [0, 0, 0] ?_
 refine rf_add rfl rfl rfl rfl (wrap_ok Ox Ox) (Zm ?_)
 refine rg_nil ?_
 refine ek_sub (sk _ (sc _ (sc _ (Sa (Sa sn _) _)))) ?_
 refine ek_roundF (N - (a + 1)) Ox Kx ?_
 exact ⟨a + 1, rfl, by rfl, by rfl, by omega, by omega, (fun i j y1 y2 y3 y4 y5 => if e : i = a then absurd h2 (e ▸ y5) else ho i j y1 Ox y3 y4 y5)⟩
section
variable {P : Program} {ops : Array Oper} {Q : Exit → Act → World → Prop} {B : World} {F : List Nat} {z z1 : List Blk} {m fuel : Nat} {listed : Array Bool} {a : Act} {s : List Blk}
def SX (B : World) (F : List Nat) (z z1 : List Blk) (m : Nat) (l : Array Bool) (w : World) : Prop := Kn B F (cond (l.getD m false) z1 z) w
def RX (P : Program) (ops : Array Oper) (Q : Exit → Act → World → Prop) (B : World) (F : List Nat) (z z1 : List Blk) (m fuel : Nat) (listed : Array Bool) (a : Act) (s : List Blk) : Prop :=
  ∀ w, Kn B F s w → Cl .any ops listed → wpAnyF P .any ops Q (SX B F z z1 m) fuel listed a w
abbrev QX (P : Program) (ops : Array Oper) (Q : Exit → Act → World → Prop) (B : World) (F : List Nat) (z z1 : List Blk) (m fuel : Nat) (listed : Array Bool) : Exit → Act → World → Prop :=
  Exit.then (fun a' w' => SX B F z z1 m listed w' ∧ (Cl .any ops listed → wpAnyF P .any ops Q (SX B F z z1 m) fuel listed a' w')) Q
theorem ek_rx {z' : List Blk} (he : cond (listed.getD m false) z1 z = z') (hz : z'.Sublist s) (h : RX P ops Q B F z z1 m fuel listed a s) : Ek B F (QX P ops Q B F z z1 m fuel listed) .normal a s :=
  fun w K => ⟨by unfold SX; rw [he]; exact K.sub hz, fun hC => h w K hC⟩
theorem SX.set {l : Array Bool} {i : Nat} (h : m ≠ i) (w : World) : SX B F z z1 m (l.setIfInBounds i true) w ↔ SX B F z z1 m l w := by
 unfold SX
 rw [getD_set_ne false (Ne.symm h)]
theorem rx_soft {i : Nat} {o : Oper} (ho : ops[i]? = some o) (hB : (Region.noSelect ops && (Region.free .any ops listed i && ((Region.ready .any ops listed).contains i && (!listed.getD m false && (m != i && reachT .any ops 20 m i))))) = true)
    (hQ : ∀ c d v a w, Q (.panic c) (Act.put a d v) w → Q (.panic c) a w) (hz : z.Sublist s)
    (h : Rg none P ops (QX P ops Q B F z z1 m fuel (listed.setIfInBounds i true)) B F (some (z, z)) [(o, 0)] a s) : RX P ops Q B F z z1 m (fuel + 1) listed a s := fun w K hC => by
  obtain ⟨v, hy, hk⟩ := h
  simp only [Bool.and_eq_true, Bool.not_eq_true', bne_iff_ne] at hB
  obtain ⟨hs, hf, hr, hl, hmi, hre⟩ := hB
  have hir : i ∈ Region.ready .any ops listed := by simpa using hr
  refine wpAnyF_firstT (T := Kn B F z) ho (Region.noSelect_spec hs) (fun c a w => hQ c _ _ a w) (fun l w => SX.set hmi w) (fun j l hCl hj hun hT w hw => ?_) fuel listed a w hC (fun w hw => by unfold SX at hw; rw [hl] at hw; exact hw)
    (Region.free_spec ho hf) hir hy (by unfold SX; rw [hl]; exact K.sub hz) ((hk w K).2 (hC.step hir))
  have hmj : m ≠ j := fun e => by
    have h1 := reach_ready hCl (e ▸ hj) (f := 20) (i := i) hre
    rcases Nat.lt_or_ge i l.size with h' | h'
    · simp [h'] at h1 hun; rw [hun] at h1; cases h1
    · simp [Array.getElem?_eq_none h'] at h1
  exact hT w ((SX.set hmj w).1 hw)
theorem rx_softP {i : Nat} {o : Oper} {z' : List Blk} (ho : ops[i]? = some o) (hB : (Region.noSelect ops && (Region.free .any ops listed i && ((Region.ready .any ops listed).contains i && m != i))) = true)
    (hQ : ∀ c d v a w, Q (.panic c) (Act.put a d v) w → Q (.panic c) a w) (hzz : z1.Sublist z) (he : cond (listed.getD m false) z1 z = z') (hz : z'.Sublist s)
    (h : Rg none P ops (QX P ops Q B F z z1 m fuel (listed.setIfInBounds i true)) B F (some (z1, z1)) [(o, 0)] a s) : RX P ops Q B F z z1 m (fuel + 1) listed a s := fun w K hC => by
  obtain ⟨v, hy, hk⟩ := h
  simp only [Bool.and_eq_true, bne_iff_ne] at hB
  obtain ⟨hs, hf, hr, hmi⟩ := hB
  have hir : i ∈ Region.ready .any ops listed := by simpa using hr
  have all : ∀ (l : Array Bool) w, SX B F z z1 m l w → Kn B F z1 w := fun l w hw => by
    unfold SX at hw
    cases hc : l.getD m false with
    | true => rw [hc] at hw; exact hw
    | false => rw [hc] at hw; exact Kn.sub hw hzz
  exact wpAnyF_firstT (T := Kn B F z1) ho (Region.noSelect_spec hs) (fun c a w => hQ c _ _ a w) (fun l w => SX.set hmi w) (fun j l _ _ _ _ w hw => all _ w hw) fuel listed a w hC (all listed)
    (Region.free_spec ho hf) hir hy (by unfold SX; rw [he]; exact K.sub hz) ((hk w K).2 (hC.step hir))
theorem rg_oneG {o : Oper} {C : Act → World → Prop} {zc : List Blk} (h : Rg none P ops (Exit.then C Q) B F (some (zc, zc)) [(o, 1)] a s) (w : World) (K : Kn B F s w) : wpList P ops (Exit.then C Q) [o] a w := by
 rcases h with h | ⟨hn, _⟩
 ·refine hop_list (hop_mono ?_ (hop_panic (Q1 := Exit.then C Q) (Q := Q) (fun c a w h => h) (fun ⟨a₀, w₀, h₀⟩ => ⟨a₀, w₀, h₀⟩) (h w K)))
  rintro a' w' ⟨s', K', _, h'⟩
  exact h' w' K'
 ·cases hn
theorem rx_hard1 {i : Nat} {o : Oper} {zc : List Blk} (hzc : zc.Sublist s) (hr : Region.ready .any ops listed = [i]) (ho : ops[i]? = some o)
    (h : Rg none P ops (QX P ops Q B F z z1 m fuel (listed.setIfInBounds i true)) B F (some (zc, zc)) [(o, 1)] a s) : RX P ops Q B F z z1 m (fuel + 1) listed a s := fun w K hC => by
  refine ⟨fun h0 => (by rw [h0] at hr; cases hr), fun j hj => ?_⟩
  have hj0 := hj
  rw [hr] at hj
  obtain rfl : j = i := by simpa using hj
  exact wpOp_mono (fun a' w' h' => ⟨h'.1, h'.2 (hC.step hj0)⟩) (wpOp_of_list ho (rg_oneG h w K))
theorem rx_hard2 {i j : Nat} {o u : Oper} {zc zd : List Blk} (hzc : zc.Sublist s) (hzd : zd.Sublist s) (hr : Region.ready .any ops listed = [i, j]) (ho : ops[i]? = some o) (hu : ops[j]? = some u)
    (h : Rg none P ops (QX P ops Q B F z z1 m fuel (listed.setIfInBounds i true)) B F (some (zc, zc)) [(o, 1)] a s)
    (h' : Rg none P ops (QX P ops Q B F z z1 m fuel (listed.setIfInBounds j true)) B F (some (zd, zd)) [(u, 1)] a s) : RX P ops Q B F z z1 m (fuel + 1) listed a s := fun w K hC => by
  refine ⟨fun h0 => (by rw [h0] at hr; cases hr), fun k hk => ?_⟩
  have hk0 := hk
  rw [hr] at hk
  have hk' : k = i ∨ k = j := by simpa using hk
  rcases hk' with rfl | rfl
  · exact wpOp_mono (fun a' w' h' => ⟨h'.1, h'.2 (hC.step hk0)⟩) (wpOp_of_list ho (rg_oneG h w K))
  · exact wpOp_mono (fun a' w' h' => ⟨h'.1, h'.2 (hC.step hk0)⟩) (wpOp_of_list hu (rg_oneG h' w K))
theorem rx_nil (hr : (Region.ready .any ops listed).isEmpty = true) (h : Ek B F Q .normal a s) : RX P ops Q B F z z1 m 0 listed a s := fun w K _ => ⟨by simpa using hr, h w K⟩
theorem wk_rx {id : Nat} {l : List Oper} (hz : z.Sublist s) (hz1 : z1.Sublist z) (m : Nat) (hm : P.follows .mixedOrders = true) (h : RX P l.toArray Q B F z z1 m l.length (Array.replicate l.length false) a s) :
    Wk none P B F Q a s (Code.region id l.toArray true) := fun w K => wpIn_wide.2 (by
  refine wp_region_any hm ?_
  have := h w.drew K.drew (fun k ok hk h => by
    rw [Array.getD_eq_getD_getElem?] at h
    rcases Nat.lt_or_ge k l.length with h' | h' <;> simp [h', Array.getElem?_replicate] at h)
  exact wpAny_of_F _ _ _ _ (by simpa using this))
end
set_option maxHeartbeats 1000000
theorem empD : (⟨#[]⟩ : ByteArray).toList.isEmpty = true := by
 unfold ByteArray.toList
 unfold ByteArray.toList.loop
 rfl
theorem mk_of_val {x z : Nm} (hz : z.Ok) (hx : 0 ≤ x.k) (hv : x.val = z.val) : x.mk' = .ok z := by
 have h := nf_eq hx hz.k0 (eqv_val hx hz.k0 hv)
 have h2 : z.nf = z := nf_self hz.nf
 unfold Nm.mk'
 rw [h, h2]
 rw [if_pos (small_yes hz.k1 hz.fit)]
theorem mul_of_val {x y z : Nm} (hx : x.Ok) (hy : y.Ok) (hz : z.Ok) (hv : x.val * y.val = z.val) : x.mul y = .ok z :=
  mk_of_val hz (mulR_k hx.k0 hy.k0) (by rw [val_mulR hx.k0 hy.k0]; exact hv)
theorem add_of_val {x y z : Nm} (hx : x.Ok) (hy : y.Ok) (hz : z.Ok) (hv : x.val + y.val = z.val) : x.add y = .ok z :=
  mk_of_val hz (addR_k hx.k0) (by rw [val_addR hx.k0 hy.k0]; exact hv)
theorem prodsR_one {x y : Nat → Nm} {i : Nat} {p : Nm} (hp : p.Ok) (hi : (x i).mul (y i) = .ok p) (h0 : ∀ j, j ≠ i → (x j).mul (y j) = .ok Nm.zero) : ∀ m, prodsR x y m = .ok (if i < m then p else Nm.zero)
  | 0 => by rw [if_neg Ox]; rfl
  | m + 1 => by
    simp only [prodsR, prodsR_one hp hi h0 m]
    by_cases h1 : m = i
    · subst h1
      rw [hi, if_neg Ox, if_pos Ox]
      exact add_of_val zero_ok hp hp (by rw [val_zero, Q4.zero_add])
    · rw [h0 m h1]
      by_cases h2 : i < m
      · rw [if_pos h2, if_pos Ox]
        exact add_of_val hp zero_ok hp (by rw [val_zero, Q4.add_zero])
      · rw [if_neg h2, if_neg Ox]
        exact add_of_val zero_ok zero_ok zero_ok (by rw [val_zero, Q4.add_zero])
theorem it_snoc_lt {L : List It} {x : It} {j : Nat} (h : j < L.length) : it (L ++ [x]) j = it L j := by
 unfold it
 rw [List.getD_eq_getElem?_getD, List.getD_eq_getElem?_getD, List.getElem?_append_left h]
theorem it_snoc (L : List It) (x : It) : it (L ++ [x]) L.length = x := by
 unfold it
 rw [List.getD_eq_getElem?_getD, List.getElem?_append_right (Nat.le_refl _)]
 simp
theorem matS_snoc {N : Nat} {L : List It} {x : It} : ∀ j, j ≤ L.length → matS N (L ++ [x]) j = matS N L j
  | 0, _ => rfl
  | j + 1, h => by
    have ih := matS_snoc (N := N) (L := L) (x := x) j Ox
    rw [matS, matS, ih, it_snoc_lt Ox]
def Sm : Nat → (Nat → Nat) → Nat
  | 0, _ => 0
  | n + 1, f => Sm n f + f n
theorem Sm_congr : ∀ {n : Nat} {f g : Nat → Nat}, (∀ i, i < n → f i = g i) → Sm n f = Sm n g
  | 0, _, _, _ => rfl
  | n + 1, f, g, h => by simp only [Sm]; rw [Sm_congr (fun i hi => h i Ox), h n Ox]
theorem Sm_add (f g : Nat → Nat) : ∀ n, Sm n (fun i => f i + g i) = Sm n f + Sm n g
  | 0 => rfl
  | n + 1 => by simp only [Sm]; rw [Sm_add f g n]; omega
theorem Sm_zero : ∀ n, Sm n (fun _ => 0) = 0
  | 0 => rfl
  | n + 1 => by simp only [Sm]; rw [Sm_zero n]
theorem Sm_swap (f : Nat → Nat → Nat) (m : Nat) : ∀ n, Sm n (fun i => Sm m (fun j => f i j)) = Sm m (fun j => Sm n (fun i => f i j))
  | 0 => by simp only [Sm]; exact (Sm_zero m).symm
  | n + 1 => by simp only [Sm]; rw [Sm_swap f m n, Sm_add]
theorem Sm_upd {f g : Nat → Nat} {k : Nat} (h : ∀ i, i ≠ k → f i = g i) : ∀ n, k < n → Sm n f + g k = Sm n g + f k
  | 0, hk => by omega
  | n + 1, hk => by
    simp only [Sm]
    by_cases e : k = n
    · subst e
      rw [Sm_congr (fun i hi => h i Ox : ∀ i, i < k → f i = g i)]
      omega
    · have := Sm_upd h n Ox
      rw [h n (fun e' => e e'.symm)]
      omega
theorem Sm_perm : ∀ (n : Nat) (p : Nat → Nat), (∀ i, i < n → p i < n) → (∀ i j, i < n → j < n → p i = p j → i = j) →
    (∀ h : Nat → Nat, Sm n (fun i => h (p i)) = Sm n h) ∧ ∀ a, a < n → ∃ i, i < n ∧ p i = a
  | 0, _, _, _ => ⟨fun _ => rfl, fun a ha => by omega⟩
  | n + 1, p, hlt, hinj => by
    by_cases hn : p n = n
    · have hlt' : ∀ i, i < n → p i < n := fun i hi => by
        have h1 := hlt i Ox
        have h2 : p i ≠ n := fun e => by have := hinj i n Ox Ox Ox; omega
        omega
      obtain ⟨ih1, ih2⟩ := Sm_perm n p hlt' (fun i j hi hj => hinj i j Ox Ox)
      refine ⟨fun h => by simp only [Sm]; rw [ih1 h, hn], fun a ha => ?_⟩
      by_cases e : a = n
      · exact ⟨n, by omega, by omega⟩
      · obtain ⟨i, hi, hp⟩ := ih2 a Ox
        exact ⟨i, by omega, hp⟩
    · have hm : p n < n := by have := hlt n Ox; omega
      have hi0 : ∃ k, k < n ∧ p k = n := by
        refine Classical.byContradiction fun hno => ?_
        have hlt' : ∀ i, i < n → p i < n := fun i hi => by
          have h1 := hlt i Ox
          have h2 : p i ≠ n := fun e => hno ⟨i, hi, e⟩
          omega
        obtain ⟨_, ih2⟩ := Sm_perm n p hlt' (fun i j hi hj => hinj i j Ox Ox)
        obtain ⟨i, hi, hp⟩ := ih2 (p n) hm
        have := hinj i n Ox Ox hp
        omega
      obtain ⟨k, hk, hpk⟩ := hi0
      have hlt' : ∀ i, i < n → (fun i => if i = k then p n else p i) i < n := fun i hi => by
        by_cases e : i = k
        · simp only [e, if_true]; exact hm
        · simp only [e, if_false]
          have h1 := hlt i Ox
          have h2 : p i ≠ n := fun e' => e (hinj i k Ox Ox Ox)
          omega
      have hinj' : ∀ i j, i < n → j < n → (fun i => if i = k then p n else p i) i = (fun i => if i = k then p n else p i) j → i = j := fun i j hi hj e => by
        by_cases e1 : i = k <;> by_cases e2 : j = k
        · omega
        · simp only [e1, e2, if_true, if_false] at e; have := hinj n j Ox Ox e; omega
        · simp only [e1, e2, if_true, if_false] at e; have := hinj i n Ox Ox e; omega
        · simp only [e1, e2, if_false] at e; exact hinj i j Ox Ox e
      obtain ⟨ih1, ih2⟩ := Sm_perm n _ hlt' hinj'
      refine ⟨fun h => ?_, fun a ha => ?_⟩
      · have h1 := ih1 h
        have h2 := Sm_upd (f := fun i => h (p i)) (g := fun i => h (if i = k then p n else p i)) (k := k) (fun i hi => by simp only [hi, if_false]) n hk
        simp only [if_true, hpk] at h2; simp only [Sm]
        omega
      · by_cases e : a = n
        · exact ⟨k, by omega, by omega⟩
        · obtain ⟨i, hi, hp⟩ := ih2 a Ox
          by_cases e1 : i = k
          · simp only [e1, if_true] at hp; exact ⟨n, by omega, hp⟩
          · simp only [e1, if_false] at hp; exact ⟨i, by omega, hp⟩
def pf (xs : List Int) (i : Nat) : Nat := (ix xs i).toNat
theorem Perm.pf_lt {xs : List Int} (h : Perm xs) {i : Nat} (hi : i < xs.length) : pf xs i < xs.length := by
 have := (h.2.2 i hi).1; unfold pf; omega
theorem Perm.ix_pf {xs : List Int} (h : Perm xs) {i : Nat} (hi : i < xs.length) : ix xs i = (pf xs i : Int) := by
 have := (h.2.2 i hi).1; unfold pf; omega
theorem Perm.inj {xs : List Int} (h : Perm xs) {i j : Nat} (hi : i < xs.length) (hj : j < xs.length) (e : pf xs i = pf xs j) : i = j := by
 have h1 := h.ix_pf hi
 have h2 := h.ix_pf hj
 rcases Nat.lt_trichotomy i j with h3 | h3 | h3
 ·exact absurd (by rw [h1, h2, e]) ((h.2.2 j hj).2 i h3)
 ·exact h3
 ·exact absurd (by rw [h1, h2, e]) ((h.2.2 i hi).2 j h3)
theorem Perm.sm {xs : List Int} (h : Perm xs) (g : Nat → Nat) : Sm xs.length (fun i => g (pf xs i)) = Sm xs.length g :=
  (Sm_perm _ _ (fun i hi => h.pf_lt hi) (fun i j hi hj e => h.inj hi hj e)).1 g
theorem Perm.hit {xs : List Int} (h : Perm xs) {a : Nat} (ha : a < xs.length) : ∃ i, i < xs.length ∧ pf xs i = a :=
  (Sm_perm _ _ (fun i hi => h.pf_lt hi) (fun i j hi hj e => h.inj hi hj e)).2 a ha
theorem invTo_at {xs : List Int} (h : Perm xs) : ∀ k, k ≤ xs.length → ∀ j, j < k → ix (invTo xs k) (pf xs j) = j
  | 0, _, j, hj => by omega
  | k + 1, hk, j, hj => by
    simp only [invTo]
    show ix ((invTo xs k).set (pf xs k) (k : Int)) (pf xs j) = j
    rw [ix_set _ (by rw [invTo_len]; exact h.pf_lt Ox)]
    by_cases e : j = k
    · subst e; rw [if_pos rfl]
    · rw [if_neg (fun e' => e (h.inj Ox Ox e')), invTo_at h k Ox j Ox]
theorem invL_len (xs : List Int) : (invL xs).length = xs.length := invTo_len xs _
theorem invL_at {xs : List Int} (h : Perm xs) {j : Nat} (hj : j < xs.length) : ix (invL xs) (pf xs j) = j := invTo_at h _ (Nat.le_refl _) j hj
theorem Perm.inv {xs : List Int} (h : Perm xs) : Perm (invL xs) := by
 refine ⟨by rw [invL_len]; exact h.1, by rw [invL_len]; exact h.2.1, ?_⟩
 rw [invL_len]
 intro a ha
 obtain ⟨i, hi, rfl⟩ := h.hit ha
 rw [invL_at h hi, invL_len]
 refine ⟨⟨by omega, by omega⟩, fun b hb e => ?_⟩
 have hbl : b < xs.length := by omega
 obtain ⟨j, hj, rfl⟩ := h.hit hbl
 rw [invL_at h hj] at e
 have : j = i := by omega
 subst this
 omega
def one (b : Bool) : Nat := if b then 1 else 0
theorem filter_sum (x : Int) : ∀ (l : List Int), (l.filter fun y => decide (x < y)).length = Sm l.length (fun i => one (decide (x < ix l i))) := by
 intro l
 have key : ∀ k, k ≤ l.length → ((l.take k).filter fun y => decide (x < y)).length = Sm k (fun i => one (decide (x < ix l i))) := by
  intro k
  induction k with
  | zero => intro _; simp [Sm]
  | succ k ih =>
   intro hk
   have hk' : k < l.length := by omega
   rw [List.take_succ_eq_append_getElem hk', List.filter_append, List.length_append, ih Ox]; simp only [Sm]; rw [ix_get _ _ hk']
   by_cases hx : x < l[k] <;> simp [one, hx, List.filter_cons]
 have := key l.length (Nat.le_refl _)
 rwa [List.take_length] at this
theorem ix_take (l : List Int) {i k : Nat} (hi : i < k) (hk : k ≤ l.length) : ix (l.take k) i = ix l i := by
 have h1 : i < (l.take k).length := by rw [List.length_take]; omega
 have h2 : i < l.length := by omega
 rw [ix_get _ _ h1, ix_get _ _ h2, List.getElem_take]
theorem invs_sum (l : List Int) : invs l = Sm l.length (fun j => Sm j (fun i => one (decide (ix l j < ix l i)))) := by
 have key : ∀ k, k ≤ l.length → invs (l.take k) = Sm k (fun j => Sm j (fun i => one (decide (ix l j < ix l i)))) := by
  intro k
  induction k with
  | zero => intro _; simp [Sm, invs]
  | succ k ih =>
   intro hk
   have hk' : k < l.length := by omega
   rw [List.take_succ_eq_append_getElem hk', invs_snoc, ih Ox, filter_sum]; simp only [Sm, List.length_take, Nat.min_eq_left (Nat.le_of_lt hk')]; rw [ix_get _ _ hk']; refine congrArg _ (Sm_congr fun i hi => ?_); rw [ix_take l hi Ox]
 have := key l.length (Nat.le_refl _)
 rwa [List.take_length] at this
theorem Sm_below {f : Nat → Nat} {j : Nat} : ∀ {n : Nat}, j ≤ n → Sm j f = Sm n (fun i => if i < j then f i else 0)
  | 0, h => by obtain rfl : j = 0 := by omega
               rfl
  | n + 1, h => by
    simp only [Sm]
    by_cases e : j = n + 1
    · subst e
      rw [if_pos Ox]; simp only [Sm]; rw [Sm_congr (fun i hi => by rw [if_pos Ox] : ∀ i, i < n → (if i < n + 1 then f i else 0) = f i)]
    · rw [Sm_below (n := n) Ox, if_neg Ox]; rfl
theorem invs_square (l : List Int) : invs l = Sm l.length (fun j => Sm l.length (fun i => one (decide (i < j) && decide (ix l j < ix l i)))) := by
 rw [invs_sum]
 refine Sm_congr fun j hj => ?_
 rw [Sm_below (Nat.le_of_lt hj)]
 refine Sm_congr fun i _ => ?_
 by_cases h : i < j <;> simp [one, h]
theorem invs_inv {xs : List Int} (h : Perm xs) : invs (invL xs) = invs xs := by
 rw [invs_square, invs_square, invL_len]
 rw [← h.sm (fun j => Sm xs.length (fun i => one (decide (i < j) && decide (ix (invL xs) j < ix (invL xs) i))))]
 have e1 : ∀ j, j < xs.length → Sm xs.length (fun i => one (decide (i < pf xs j) && decide (ix (invL xs) (pf xs j) < ix (invL xs) i))) =
   Sm xs.length (fun i => one (decide (pf xs i < pf xs j) && decide (j < i))) := by
  intro j hj; rw [← h.sm (fun i => one (decide (i < pf xs j) && decide (ix (invL xs) (pf xs j) < ix (invL xs) i)))]
  refine Sm_congr fun i hi => ?_
  rw [invL_at h hj, invL_at h hi]
  congr 2
  exact decide_eq_decide.2 Ox
 rw [Sm_congr e1, Sm_swap (fun j i => one (decide (pf xs i < pf xs j) && decide (j < i)))]
 refine Sm_congr fun i hi => Sm_congr fun j hj => ?_
 rw [h.ix_pf hi, h.ix_pf hj, Bool.and_comm]
 congr 2
 exact decide_eq_decide.2 Ox
def idTo (m : Nat) : Nat → List Int
  | 0 => List.replicate m 0
  | k + 1 => (idTo m k).set k k
theorem idTo_len (m : Nat) : ∀ k, (idTo m k).length = m
  | 0 => by simp [idTo]
  | k + 1 => by simp [idTo, idTo_len m k]
theorem idTo_at (m : Nat) : ∀ k, k ≤ m → ∀ j, j < k → ix (idTo m k) j = j
  | 0, _, j, hj => by omega
  | k + 1, hk, j, hj => by
    simp only [idTo]; rw [ix_set _ (by rw [idTo_len]; omega)]
    by_cases e : j = k
    · rw [if_pos e, e]
    · rw [if_neg e, idTo_at m k Ox j Ox]
def atTo (m : Nat) (xs : List It) : Nat → List Int
  | 0 => idTo m m
  | k + 1 => swapAt (atTo m xs k) ((it xs k).at_ - 1).toNat
theorem atTo_len (m : Nat) (xs : List It) : ∀ k, (atTo m xs k).length = m
  | 0 => idTo_len m m
  | k + 1 => by rw [atTo, swapAt_len, atTo_len m xs k]
theorem swapAt_ix {l : List Int} {k : Nat} (h : k + 1 < l.length) (j : Nat) : ix (swapAt l k) j = if j = k then ix l (k + 1) else if j = k + 1 then ix l k else ix l j := by
 rw [← swapAt_set l k h, ix_set _ (by simp; omega)]
 by_cases e1 : j = k + 1
 ·rw [if_pos e1, if_neg Ox, if_pos e1]
 ·rw [if_neg e1, ix_set _ Ox, if_neg e1]
theorem swapAt_Perm {l : List Int} {k : Nat} (h : k + 1 < l.length) (hp : Perm l) : Perm (swapAt l k) := by
 obtain ⟨h1, h2, h3⟩ := hp
 refine ⟨by rw [swapAt_len]; exact h1, by rw [swapAt_len]; exact h2, ?_⟩
 have hne : ∀ i j, i < l.length → j < l.length → i ≠ j → ix l i ≠ ix l j := fun i j hi hj hij => by
  rcases Nat.lt_or_gt_of_ne hij with h | h
  ·exact (h3 j hj).2 i h
  ·exact fun e => (h3 i hi).2 j h e.symm
 have hr : ∀ i, i < l.length → 0 ≤ ix l i ∧ ix l i < l.length := fun i hi => (h3 i hi).1
 rw [swapAt_len]
 intro i hi
 rw [swapAt_len, swapAt_ix h]
 constructor
 ·split
  ·exact hr _ h
  ·split
   ·exact hr _ Ox
   ·exact hr _ hi
 ·intro j hj
  rw [swapAt_ix h]
  split <;> split <;> (try split) <;> (try split) <;> first | omega | exact hne _ _ Ox Ox Ox
theorem swapAt_two {l : List Int} {k : Nat} (h : k + 1 < l.length) : swapAt (swapAt l k) k = l := by
 apply ext_ix (by rw [swapAt_len, swapAt_len])
 intro j hj
 rw [swapAt_ix (by rw [swapAt_len]; exact h), swapAt_ix h (k + 1), swapAt_ix h k, swapAt_ix h j]
 by_cases e1 : j = k
 ·subst e1; simp
 ·by_cases e2 : j = k + 1
  ·subst e2; simp
  ·simp [e1, e2]
theorem invs_swap2 {l : List Int} {k : Nat} (h : k + 1 < l.length) (hp : Perm l) : invs (swapAt l k) = invs l + 1 ∨ invs (swapAt l k) + 1 = invs l := by
 have hne : ix l k ≠ ix l (k + 1) := (hp.2.2 (k + 1) h).2 k Ox
 rcases Int.lt_or_gt_of_ne hne with h1 | h1
 ·left
  have := invs_swap (swapAt l k) k (by rw [swapAt_len]; exact h) (by rw [swapAt_ix h, swapAt_ix h, if_neg Ox, if_pos rfl, if_pos rfl]; exact h1)
  rw [swapAt_two h] at this
  omega
 ·right
  exact invs_swap l k h h1
def Crs (m : Nat) (i : It) : Prop := 1 ≤ i.at_ ∧ i.at_ + 1 ≤ m
theorem crs_of {m : Nat} {i : It} (h : fitB m i = true) (hk : i.kind = 3) : Crs m i := by
 have h' := of_decide_eq_true h
 have hw : wd i = 2 ∨ wd i = 0 := by unfold wd; rw [if_neg Ox, if_pos Ox]; split <;> simp
 unfold Crs
 omega
theorem id_perm {m : Nat} (h1 : 1 ≤ m) (h2 : m ≤ 64) : Perm (idTo m m) := by
 refine ⟨by rw [idTo_len]; exact h1, by rw [idTo_len]; exact h2, ?_⟩
 rw [idTo_len]
 intro i hi
 rw [idTo_at m m (Nat.le_refl _) i hi, idTo_len]
 refine ⟨⟨by omega, by omega⟩, fun j hj => ?_⟩
 rw [idTo_at m m (Nat.le_refl _) j Ox]
 omega
theorem id_invs (m : Nat) : invs (idTo m m) = 0 := by
 refine up_invs _ fun j hj => ?_
 rw [idTo_len] at hj
 rw [idTo_at m m (Nat.le_refl _) j Ox, idTo_at m m (Nat.le_refl _) (j + 1) Ox]
 omega
theorem atTo_perm {m : Nat} (h1 : 1 ≤ m) (h2 : m ≤ 64) {xs : List It} : ∀ k, (∀ j, j < k → Crs m (it xs j)) → Perm (atTo m xs k)
  | 0, _ => id_perm h1 h2
  | k + 1, h => by
    have hc := h k Ox
    unfold Crs at hc
    exact swapAt_Perm (by rw [atTo_len]; omega) (atTo_perm h1 h2 k fun j hj => h j Ox)
theorem atTo_invs {m : Nat} (h1 : 1 ≤ m) (h2 : m ≤ 64) {xs : List It} : ∀ k, (∀ j, j < k → Crs m (it xs j)) → invs (atTo m xs k) ≤ k ∧ (k - invs (atTo m xs k)) % 2 = 0
  | 0, _ => by rw [atTo, id_invs]; omega
  | k + 1, h => by
    have hc := h k Ox
    unfold Crs at hc
    obtain ⟨i1, i2⟩ := atTo_invs h1 h2 k fun j hj => h j Ox
    have := invs_swap2 (l := atTo m xs k) (k := ((it xs k).at_ - 1).toNat) (by rw [atTo_len]; omega) (atTo_perm h1 h2 k fun j hj => h j Ox)
    rw [atTo]
    omega
def pos (xs : List It) (g : Int) : Nat → Int
  | 0 => g
  | k + 1 => if pos xs g k = (it xs k).at_ then (it xs k).at_ + 1 else if pos xs g k = (it xs k).at_ + 1 then (it xs k).at_ else pos xs g k
def crossB (xs : List It) : Bool := xs.all fun i => decide (i.kind = 3)
def isP (n : Int) (xs : List It) : Bool := validI n xs && crossB xs
def permZ (n : Int) (xs : List It) : List Int := if isP n xs = true then invL (atTo n.toNat xs xs.length) else []
theorem itemE_valid {n : Int} {xs : List It} (h : itemE n xs = 0) : validI n xs = true := by
 unfold itemE at h
 split at h
 ·split at h
  ·assumption
  cases h
 cases h
theorem itemE_bad {n : Int} {xs : List It} (h : ¬ itemE n xs = 0) : isP n xs = false := by
 unfold isP
 cases hv : validI n xs
 ·rfl
 refine absurd ?_ h
 obtain ⟨h1, h2, _⟩ := validB_all hv
 unfold itemE
 rw [if_pos ⟨h1, h2⟩, if_pos hv]
theorem permZ_bad {n : Int} {xs : List It} (h : isP n xs = false) : permZ n xs = [] := by unfold permZ; rw [h]; rfl
theorem isP_no {n : Int} {xs : List It} {k : Nat} (hk : k < xs.length) (h : (it xs k).kind ≠ 3) : isP n xs = false := by
 unfold isP crossB; rw [not_all_it hk (decide_eq_false h)]; exact Bool.and_false _
theorem isP_ok {n : Int} {xs : List It} (hv : validI n xs = true) (h : ∀ j, j < xs.length → (it xs j).kind = 3) : isP n xs = true := by
 unfold isP crossB; rw [hv, all_it (fun j hj => decide_eq_true (h j hj))]; rfl
theorem permZ_ok {n : Int} {m : Nat} {xs : List It} (hn : n = m) (h : isP n xs = true) : permZ n xs = invL (atTo m xs xs.length) := by
 unfold permZ; rw [if_pos h]; subst hn; rfl
theorem as_row {w : World} {g e : Nat} {zs : List Int} {rest : List Value} (h : Hd w g e (ints zs ++ rest).toArray) : AS w (some ⟨g, 0, none⟩) (ints zs) := fun _ => ⟨g, 0, rfl, h.lt, fun j hj => by
  rw [Nat.zero_add, h.cell, List.getElem?_toArray, List.getElem?_append_left hj]⟩
theorem row_nil (zs : List Int) : (ints zs).toArray = (ints zs ++ []).toArray := by rw [List.append_nil]
set_option maxHeartbeats 2000000 in
theorem permOfS (xs : List It) (a : Option Addr) (c : Nat) (n : Int) (w : World) (hA : AS w a (its xs)) : Calls Tryz.prog 23 #[.int .i64 n, slV a xs.length c] w fun e w' => RetI w (fun v => .tuple #[v, .bool (isP n xs), .int .i64 (itemE n xs)]) (fun zs => zs = permZ n xs) e w' := by
 go_enter Tryz.func23, Tryz.ntmps23
 refine wk_start ?_
 refine wk_seq ?_
 refine Wm [0, 0, 0] ?_
 refine Zr ?_
 refine Wm [0, 0, 1, 0] ?_
 apply rg_pure Rx Kx
 case hargs => exact Ax
 case h => exact fun w hw => check_any xs a c n w (hA.kn0 hw)
 case hz => exact Nz
 refine Zm ?_
 refine Zr ?_
 refine Wm [0, 0] ?_
 apply rg_softb
 case hy => (intro w hw; exact Gy)
 rintro (_ | _) h1 <;> try simp only [qd, ne_eq] at h1
 ·simp only [qz]
  have hv := Lib.hid (itemE_valid h1)
  have hE := Lib.hid h1
  clear h1
  obtain ⟨hn1, hn2, hlen5, hfit⟩ := validB_all hv.out
  obtain ⟨m, rfl⟩ : ∃ m : Nat, n = m := ⟨n.toNat, by omega⟩
  refine Zr ?_; refine Wm [0, 1, 0] ?_; refine rg_makeI (n := m) Rx rfl rfl Ox Nz (fun g1 => ?_); refine Zm ?_; refine Zr ?_; refine Wm [0, 0, 0] ?_; refine Zk ?_; refine Zr ?_; refine wk_loopS [9, 22, 23, 24, 25, 26, 27, 28, 29] (fun mz vs s => ∃ (k : Nat) (j9 j23 j24 j25 j26 j27 j28 j29 : Value), vs = [j9, .int .i64 k, j23, j24, j25, j26, j27, j28, j29] ∧ s = ((g1, .cells (ints (idTo m k)).toArray 3) :: []) ∧ mz = m - k ∧ k ≤ m) ((fun (k : Nat) => m - k) (0)) ?_ Kx ?_
  ·dsimp only [Act.vals, List.map, Array.getD, List.size_toArray, List.length_cons, List.length_nil, Nat.reduceAdd, Nat.reduceLT, ↓reduceDIte, Array.getInternal, List.getElem_toArray, List.getElem_cons_zero, List.getElem_cons_succ]
   exact ⟨0, _, _, _, _, _, _, _, _, rfl, rfl, rfl, by omega⟩
  rintro mz vs s ⟨k, j9, j23, j24, j25, j26, j27, j28, j29, rfl, rfl, hn, hb1⟩
  simp only [Act.puts, Act.vals, List.zip_cons_cons, List.zip_nil_right, List.foldl_cons, List.foldl_nil, List.map_cons, List.map_nil, Act.put, Act.eval, List.setIfInBounds_toArray, List.set_cons_zero, List.set_cons_succ, Array.getD_eq_getD_getElem?, List.getElem?_toArray, List.getElem?_cons_zero, List.getElem?_cons_succ, Option.getD_some]; refine wk_seq ?_; refine Wr [0] ?_; apply rg_softb
  case hy => (intro w hw; exact Gy)
  rintro (_ | _) h2 <;> try simp only [qd, ne_eq] at h2
  ·simp only [qz]
   obtain rfl : m = k := by omega
   rw [row_nil]; refine Zr ?_; refine Wm [0, 0, 0] ?_; refine Zk ?_; refine Zr ?_; refine wk_loopS [4, 5, 6, 11, 32, 33, 34, 35, 36, 37, 38, 39, 40, 41, 42, 43, 44, 45, 46, 47, 48, 49, 50, 51, 52, 53, 54, 55, 56, 57, 58, 59] (fun mz vs s => ∃ (k : Nat) (j4 j5 j6 j11 j33 j34 j35 j36 j37 j38 j39 j40 j41 j42 j43 j44 j45 j46 j47 j48 j49 j50 j51 j52 j53 j54 j55 j56 j57 j58 j59 : Value), vs = [j4, j5, j6, j11, .int .i64 k, j33, j34, j35, j36, j37, j38, j39, j40, j41, j42, j43, j44, j45, j46, j47, j48, j49, j50, j51, j52, j53, j54, j55, j56, j57, j58, j59] ∧ s = ((g1, .cells (ints (atTo m xs k) ++ []).toArray 3) :: []) ∧ mz = xs.length - k ∧ k ≤ xs.length ∧ ∀ j, j < k → (it xs j).kind = 3) ((fun (k : Nat) => xs.length - k) (0)) ?_ Kx ?_
   ·dsimp only [Act.vals, List.map, Array.getD, List.size_toArray, List.length_cons, List.length_nil, Nat.reduceAdd, Nat.reduceLT, ↓reduceDIte, Array.getInternal, List.getElem_toArray, List.getElem_cons_zero, List.getElem_cons_succ]
    exact ⟨0, _, _, _, _, _, _, _, _, _, _, _, _, _, _, _, _, _, _, _, _, _, _, _, _, _, _, _, _, _, _, _, rfl, rfl, rfl, by omega, fun i hi => by omega⟩
   rintro mz vs s ⟨k, j4, j5, j6, j11, j33, j34, j35, j36, j37, j38, j39, j40, j41, j42, j43, j44, j45, j46, j47, j48, j49, j50, j51, j52, j53, j54, j55, j56, j57, j58, j59, rfl, rfl, hn, hc1, hc2⟩
   simp only [Act.puts, Act.vals, List.zip_cons_cons, List.zip_nil_right, List.foldl_cons, List.foldl_nil, List.map_cons, List.map_nil, Act.put, Act.eval, List.setIfInBounds_toArray, List.set_cons_zero, List.set_cons_succ, Array.getD_eq_getD_getElem?, List.getElem?_toArray, List.getElem?_cons_zero, List.getElem?_cons_succ, Option.getD_some]; refine wk_seq ?_; refine Wr [0] ?_; apply rg_softb
   case hy => (intro w hw; exact Gy)
   rintro (_ | _) h3 <;> try simp only [qd, ne_eq] at h3
   ·simp only [qz]
    have hkl : k = xs.length := by omega
    refine Zr ?_; refine Wm [0, 1, 0, 0, 0] ?_; apply rg_retI Rx Kx
    case hargs => exact Ax
    case h => exact fun w hw => (by have h := invert_any (atTo m xs k) (some ⟨g1, 0, none⟩) m (by rw [atTo_len]; omega) (by subst hkl; exact atTo_perm Ox Ox _ (fun j hj => crs_of (hfit j hj) (hc2 j hj))) w (as_row (Kn.hd0 hw)); rw [atTo_len] at h; exact h)
    case hz => exact Nz
    intro v2 u2 z2 hO2 hT2; refine Zm ?_; refine Zr ?_; refine ek_ret (fun w hw => ⟨rfl, _, res_ttt _ _ _ rfl, ?_⟩); (try simp only [qz])
    exact ⟨v2, u2, _, (by simp only [isP_ok hv.out (fun j hj => hc2 j Ox), hE.out]), hO2, (by rw [hT2, permZ_ok rfl (isP_ok hv.out (fun j hj => hc2 j Ox)), hkl]), hw.made (by simp)⟩
   simp only [qz]
   obtain ⟨b, off, rfl, hlt, hcell⟩ := AS.openT hA Ox
   have hck := hcell k Ox
   refine Zr ?_; refine Wr [0, 0, 1, 1] ?_; refine Zk ?_; apply rg_soft
   case hy => (intro w hw; obtain ⟨hi0, hi1, hi2, hi3⟩ := hck.kn hw hlt (by simp); exact Gy)
   simp only [qz]
   refine Rgn fun g3 => ?_
   simp only [qz]; apply rg_store
   case hr => (intro w hw; obtain ⟨hcg3, hfg3⟩ := (Kn.hd0 hw).facts; refine ⟨_, by (go_simp; (try go_bits); exact Dne.mk _), ?_⟩; repeat (first | with_reducible exact hw | with_reducible apply Kn.put (Upd.here _ _ _)))
   case hz => (intro z hz; cases hz)
   simp only [qz]; refine Zr ?_; refine Wr [0, 0, 0] ?_; refine Zk ?_; apply rg_soft
   case hy => (intro w hw; obtain ⟨hcg3, hfg3⟩ := (Kn.hd0 hw).facts; exact Gy)
   simp only [qz]; apply rg_softb
   case hy => (intro w hw; exact Gy)
   rintro (_ | _) h4 <;> try simp only [qd, ne_eq] at h4
   ·simp only [qz]
    have hk3 := Lib.hid (show (it xs k).kind = 3 by omega)
    have hcr := crs_of (hfit k Ox) hk3.out
    unfold Crs at hcr
    clear h4
    obtain ⟨q, hq⟩ : ∃ q : Nat, (it xs k).at_ = (q : Int) + 1 := ⟨((it xs k).at_ - 1).toNat, by omega⟩
    simp only [hq]
    replace hq := Lib.hid hq
    have hcr1 : q + 1 < m := by (have := hq.out; omega)
    have hcr0 : q < m := by omega
    have hcr2 : (0 : Int) ≤ (q : Int) + 1 ∧ (q : Int) + 1 < (m : Int) := by omega
    clear hcr hck
    have hk1 : q + 1 < (atTo m xs k).length := by (rw [atTo_len]; omega)
    refine Zr ?_; refine wk_draws_m (hz1 := (List.Sublist.cons₂ _ (List.Sublist.cons _ List.Sublist.slnil))) [(0, 0), (1, 0), (2, 0), (3, 0), (4, 3), (5, 3), (6, 3), (7, 0), (8, 0), (9, 0), (10, 0), (11, 0), (12, 3), (13, 3), (14, 3), (15, 3), (16, 3), (17, 0), (18, 0), (19, 2), (20, 0), (21, 1)] 19 Kx Kx (fun c d v a w h => by cases d <;> exact h) ?_; simp only [List.map_cons, List.map_nil, List.getD_cons_zero, List.getD_cons_succ]
    refine Zm ?_; refine Zk ?_; apply rg_soft
    case hy => (intro w hw; obtain ⟨hcg3, hfg3⟩ := (Kn.hd0 hw).facts; exact Gy)
    simp only [qz]; refine Zk ?_; refine rg_moveP ?_; simp only [qz]; apply rg_softP
    case hy => (intro w hw; exact Gy)
    simp only [qz]; apply rg_softP
    case hy => (intro w hw; obtain ⟨hcg3, hfg3⟩ := (Kn.hd0 hw).facts; exact Gy)
    refine Zm ?_; refine Zk ?_; apply rg_soft
    case hy => (intro w hw; obtain ⟨hcg3, hfg3⟩ := (Kn.hd0 hw).facts; exact Gy)
    simp only [qz]; refine Zk ?_; apply rg_soft
    case hy => (intro w hw; (first | have hcg := fun i (hi : i < (atTo m xs k).length) => row_cell (Kn.hd0 (Kn.tl hw)) hi | have hcg := fun i (hi : i < (atTo m xs k).length) => row_cell2 (Kn.hd0 (Kn.tl hw)) hi); have hfg := (Kn.hd0 (Kn.tl hw)).free; (try have hcg0 := hcg q Ox); (try have hcg1 := hcg (q + 1) Ox); clear hcg; exact Gy)
    simp only [qz]; refine rg_moveP ?_; simp only [qz]; apply rg_softP
    case hy => (intro w hw; exact Gy)
    simp only [qz]; apply rg_softP
    case hy => (intro w hw; obtain ⟨hcg3, hfg3⟩ := (Kn.hd0 hw).facts; exact Gy)
    simp only [qz]; apply rg_softP
    case hy => (intro w hw; exact Gy)
    simp only [qz]; apply rg_softP
    case hy => (intro w hw; exact Gy)
    simp only [qz]; apply rg_soft
    case hy => (intro w hw; (first | have hcg := fun i (hi : i < (atTo m xs k).length) => row_cell (Kn.hd0 (Kn.tl hw)) hi | have hcg := fun i (hi : i < (atTo m xs k).length) => row_cell2 (Kn.hd0 (Kn.tl hw)) hi); have hfg := (Kn.hd0 (Kn.tl hw)).free; (try have hcg0 := hcg q Ox); (try have hcg1 := hcg (q + 1) Ox); clear hcg; exact Gy)
    simp only [qz]; refine Zk ?_; apply rg_storeM
    case hr => (intro w hw; (first | have hcg := fun i (hi : i < (atTo m xs k).length) => row_cell (Kn.hd0 (Kn.tl hw)) hi | have hcg := fun i (hi : i < (atTo m xs k).length) => row_cell2 (Kn.hd0 (Kn.tl hw)) hi); have hfg := (Kn.hd0 (Kn.tl hw)).free; (try have hcg0 := hcg q Ox); (try have hcg1 := hcg (q + 1) Ox); clear hcg; refine ⟨_, by (go_simp; (try go_bits); exact Dne.mk _), ?_⟩; repeat (first | with_reducible exact hw | with_reducible apply Kn.put (Upd.there _ (Upd.here _ _ _))))
    case hz => exact (List.Sublist.cons₂ _ (List.Sublist.cons _ List.Sublist.slnil))
    simp only [qz]; refine Zk ?_; apply rg_store
    case hr => (intro w hw; (first | have hcg := fun i (hi : i < (atTo m xs k).length) => row_cell (Kn.hd0 (Kn.tl hw)) hi | have hcg := fun i (hi : i < (atTo m xs k).length) => row_cell2 (Kn.hd0 (Kn.tl hw)) hi); have hfg := (Kn.hd0 (Kn.tl hw)).free; (try have hcg0 := hcg q Ox); (try have hcg1 := hcg (q + 1) Ox); clear hcg; refine ⟨_, by (go_simp; (try go_bits); exact Dne.mk _), ?_⟩; repeat (first | with_reducible exact hw | with_reducible apply Kn.put (Upd.there _ (Upd.here _ _ _))))
    case hz => (intro z hz; cases hz; exact (List.Sublist.cons₂ _ (List.Sublist.cons _ List.Sublist.slnil)))
    simp only [qz]; refine Zr ?_; refine Wr [0, 0] ?_; refine Zk ?_; refine rg_nil ?_; refine ek_sub (List.Sublist.cons _ (List.Sublist.cons₂ _ List.Sublist.slnil)) ?_; refine ek_roundS (xs.length - (k + 1)) Ox Kx ?_
    dsimp only [Act.vals, List.map, Array.getD, List.size_toArray, List.length_cons, List.length_nil, Nat.reduceAdd, Nat.reduceLT, ↓reduceDIte, Array.getInternal, List.getElem_toArray, List.getElem_cons_zero, List.getElem_cons_succ]
    exact ⟨k + 1, _, _, _, _, _, _, _, _, _, _, _, _, _, _, _, _, _, _, _, _, _, _, _, _, _, _, _, _, _, _, _, by rfl, by (rw [atTo, show ((it xs k).at_ - 1).toNat = q from (by have := hq.out; omega), ← swapAt_set _ q hk1, row_set _ _ Ox, row_set _ _ (by simp; omega)]), by rfl, by omega, fun j hj => if e : j = k then e ▸ hk3.out else hc2 j Ox⟩
   simp only [qz]; refine Zr ?_; refine Wm [0, 0, 0] ?_; refine Zr ?_; refine ek_ret (fun w hw => ⟨rfl, _, res_ttt _ _ _ rfl, ?_⟩); (try simp only [qz])
   exact ⟨.slice none 0 0, [], [], (by simp only [isP_no (by omega : k < xs.length) h4, hE.out]), .nil, (by rw [permZ_bad (isP_no (by omega : k < xs.length) h4)]), hw.made (by simp)⟩
  simp only [qz]
  have hpl : k < (idTo m k).length := by (rw [idTo_len]; omega)
  refine Zr ?_; refine Wm [0, 0] ?_; refine rg_nil (ek_next ?_); refine Wm [0, 0, 0, 0, 1] ?_; refine Zk ?_; apply rg_store
  case hr => (intro w hw; have hcg1 := ints_cell (Kn.hd0 hw) hpl; have hfg1 := (Kn.hd0 hw).free; refine ⟨_, by (go_simp; (try go_bits); exact Dne.mk _), ?_⟩; repeat (first | with_reducible exact hw | with_reducible apply Kn.put (Upd.here _ _ _)))
  case hz => (intro z hz; cases hz)
  simp only [qz]; refine Zr ?_; refine Wr [0, 0] ?_; refine Zk ?_; refine rg_nil ?_; refine ek_roundS (m - (k + 1)) Ox Kx ?_
  dsimp only [Act.vals, List.map, Array.getD, List.size_toArray, List.length_cons, List.length_nil, Nat.reduceAdd, Nat.reduceLT, ↓reduceDIte, Array.getInternal, List.getElem_toArray, List.getElem_cons_zero, List.getElem_cons_succ]
  exact ⟨k + 1, _, _, _, _, _, _, _, _, by rfl, by (simp only [ints, idTo, List.map_set]), by rfl, by omega⟩
 simp only [qz]
 refine Zr ?_
 refine Wm [0, 0, 0, 0] ?_
 refine Zr ?_
 refine ek_ret (fun w hw => ⟨rfl, _, res_ttt _ _ _ rfl, ?_⟩)
 (try simp only [qz])
 exact ⟨.slice none 0 0, [], [], (by simp only [itemE_bad h1]), .nil, (by rw [permZ_bad (itemE_bad h1)]), hw.made (by simp)⟩
set_option maxHeartbeats 1000000
def gL (N : Nat) (q : Nat → Nat) : List Nm := (List.range (N * N)).map fun t => if t / N = q (t % N) then Nm.one else Nm.zero
theorem gL_len (N : Nat) (q : Nat → Nat) : (gL N q).length = N * N := by simp [gL]
theorem gL_nm {N : Nat} (q : Nat → Nat) {t : Nat} (h : t < N * N) : nm (gL N q) t = if t / N = q (t % N) then Nm.one else Nm.zero := by
 unfold gL
 show El.at NmE _ _ = _
 unfold El.at
 rw [List.getD_eq_getElem?_getD, List.getElem?_map, List.getElem?_range h]
 rfl
theorem gL_at {N : Nat} (q : Nat → Nat) {i k : Nat} (hi : i < N) (hk : k < N) : nm (gL N q) (i * N + k) = if i = q k then Nm.one else Nm.zero := by
 rw [gL_nm q (ix_lt hi hk), ix_div hk, ix_mod hk]
theorem gL_congr {N : Nat} {p q : Nat → Nat} (h : ∀ k, k < N → p k = q k) : gL N p = gL N q := by
 unfold gL
 refine List.map_congr_left fun t ht => ?_
 have ht := List.mem_range.1 ht
 have hN : 0 < N := by
  rcases Nat.eq_zero_or_pos N with h0 | h0
  ·subst h0; simp at ht
  ·exact h0
 rw [h _ (Nat.mod_lt _ hN)]
theorem oz_ok (P : Prop) [Decidable P] : (if P then Nm.one else Nm.zero : Nm).Ok := by split; exact one_ok; exact zero_ok
theorem gL_ok {N : Nat} (q : Nat → Nat) : allOk (gL N q) = true := by
 refine allOk_true fun t ht => okB_iff.2 ?_
 rw [gL_len] at ht
 rw [gL_nm q ht]
 exact oz_ok _
theorem gL_valid {N : Nat} (q : Nat → Nat) (h1 : 1 ≤ N) (h6 : N ≤ 6) : validB N (gL N q) = true := by
 have e : ((N * N : Nat) : Int) = (N : Int) * N := Int.natCast_mul N N
 unfold validB
 simp only [Bool.and_eq_true, decide_eq_true_eq]
 exact ⟨by omega, by omega, by rw [gL_len]; omega, gL_ok q⟩
theorem idM_gL {N : Nat} (h1 : 1 ≤ N) (h6 : N ≤ 6) : idM N = gL N fun k => k := by
 unfold idM identR
 rw [if_pos Ox, Int.toNat_natCast]
 have h : madeR N idR = .ok ((List.range (N * N)).map fun t => if t / N = t % N then Nm.one else Nm.zero) := gather_pure _ _
 rw [h]
 rfl
theorem mulM_gL {N : Nat} {p q : Nat → Nat} (h1 : 1 ≤ N) (h6 : N ≤ 6) (hq : ∀ k, k < N → q k < N) : mulM N N (gL N p) (gL N q) = .ok (gL N fun k => p (q k)) := by
 unfold mulM
 rw [gL_valid p h1 h6, gL_valid q h1 h6, Bool.and_self, if_pos rfl, if_pos rfl, Int.toNat_natCast]
 have e : madeR N (mulF N (gL N p) (gL N q)) = madeR N fun i k => .ok (if i = p (q k) then Nm.one else Nm.zero) := by
  refine made_congr fun i k hi hk => ?_
  unfold mulF
  have hx : ∀ j, j < N → nm (gL N p) (i * N + j) = if i = p j then Nm.one else Nm.zero := fun j hj => gL_at p hi hj
  have hy : ∀ j, j < N → nm (gL N q) (j * N + k) = if j = q k then Nm.one else Nm.zero := fun j hj => gL_at q hj hk
  have e1 : ∀ m, m ≤ N → prodsR (fun j => nm (gL N p) (i * N + j)) (fun j => nm (gL N q) (j * N + k)) m = prodsR (fun j => if i = p j then Nm.one else Nm.zero) (fun j => if j = q k then Nm.one else Nm.zero) m := by
   intro m
   induction m with
   | zero => intro _; rfl
   | succ m ih =>
    intro hm; simp only [prodsR, ih Ox]; rw [hx m Ox, hy m Ox]
  rw [e1 N (Nat.le_refl _)]
  have := prodsR_one (x := fun j => if i = p j then Nm.one else Nm.zero) (y := fun j => if j = q k then Nm.one else Nm.zero) (i := q k) (p := if i = p (q k) then Nm.one else Nm.zero) (oz_ok _) ?_ ?_ N
  ·rw [this, if_pos (hq k hk)]
  ·show Nm.mul (if i = p (q k) then Nm.one else Nm.zero) (if q k = q k then Nm.one else Nm.zero) = _
   rw [if_pos rfl]
   exact mul_of_val (oz_ok _) one_ok (oz_ok _) (by rw [val_one, Q4.mul_one])
  ·intro j hj
   show Nm.mul (if i = p j then Nm.one else Nm.zero) (if j = q k then Nm.one else Nm.zero) = _
   rw [if_neg hj]
   exact mul_of_val (oz_ok _) zero_ok zero_ok (by rw [val_zero, Q4.mul_zero])
 rw [e]
 exact gather_pure _ _
def swp (k c : Nat) : Nat := if c = k then k + 1 else if c = k + 1 then k else c
def mv (ys : List Nat) (c : Nat) : Nat := ys.foldl (fun c k => swp k c) c
theorem mv_snoc (ys : List Nat) (k c : Nat) : mv (ys ++ [k]) c = swp k (mv ys c) := by unfold mv; rw [List.foldl_append]; rfl
theorem swp_lt {N k c : Nat} (hk : k + 1 < N) (hc : c < N) : swp k c < N := by unfold swp; split; omega; split; omega; exact hc
theorem swp_ix {l : List Int} {k c : Nat} (hk : k + 1 < l.length) : ix (swapAt l k) (swp k c) = ix l c := by
 rw [swapAt_ix hk]
 unfold swp
 by_cases h1 : c = k
 ·rw [if_pos h1, if_neg Ox, if_pos rfl, h1]
 ·rw [if_neg h1]
  by_cases h2 : c = k + 1
  ·rw [if_pos h2, if_pos rfl, h2]
  ·rw [if_neg h2, if_neg h1, if_neg h2]
theorem itL_cross {N k : Nat} (h6 : N ≤ 6) (hk : k + 1 < N) : itL N (cross k) = gL N (swp k) := by
 have hN : N = 2 ∨ N = 3 ∨ N = 4 ∨ N = 5 ∨ N = 6 := by omega
 have hK : k = 0 ∨ k = 1 ∨ k = 2 ∨ k = 3 ∨ k = 4 := by omega
 rcases hN with rfl | rfl | rfl | rfl | rfl <;> rcases hK with rfl | rfl | rfl | rfl | rfl <;> first | (exfalso; omega) | rfl
theorem wd_cross (k : Nat) : wd (cross k) = 2 := by
 unfold wd cross
 rw [if_neg (show ¬ ((3 : Int) = 1) by decide), if_pos (show (3 : Int) = 2 ∨ (3 : Int) = 3 by decide), if_pos ⟨rfl, empD⟩]
theorem fit_cross {N k : Nat} (hk : k + 1 < N) : fitB N (cross k) = true :=
  fitB_true ⟨by rw [wd_cross]; decide, by show (1 : Int) ≤ (k : Int) + 1; omega, by rw [wd_cross]; show (k : Int) + 1 ≤ _; omega⟩
theorem atTo_snoc {m : Nat} {L : List It} {x : It} : ∀ j, j ≤ L.length → atTo m (L ++ [x]) j = atTo m L j
  | 0, _ => rfl
  | j + 1, h => by
    have ih := atTo_snoc (m := m) (L := L) (x := x) j Ox
    rw [atTo, atTo, ih, it_snoc_lt Ox]
structure Done (xs : List Int) (ys : List Nat) (l : List Int) : Prop where
  lt : ∀ c, c < xs.length → mv ys c < xs.length
  to : ∀ c, c < xs.length → ix l (mv ys c) = ix xs c
  at_ : ∀ c, c < xs.length → ix (atTo xs.length (ys.map cross) ys.length) (mv ys c) = c
  mat : matS xs.length (ys.map cross) ys.length = .ok (gL xs.length (mv ys))
  fit : ∀ x ∈ ys.map cross, fitB xs.length x = true
  prm : Perm xs → Perm l
theorem Ex.done {xs : List Int} (h1 : 1 ≤ xs.length) (h6 : xs.length ≤ 6) {ys : List Nat} {l : List Int} (h : Ex xs ys l) : Done xs ys l := by
 induction h with
 | start =>
  refine ⟨fun c hc => hc, fun c hc => rfl, fun c hc => ?_, ?_, fun x hx => (by cases hx), fun hp => hp⟩
  ·exact idTo_at _ _ (Nat.le_refl _) c hc
  ·show Except.ok (idM _) = _
   rw [idM_gL h1 h6]
   rfl
 | @step ys l k h hk hu hd ih =>
  have hl := h.len
  have hk' : k + 1 < xs.length := by omega
  have el : (ys.map cross).length = ys.length := by simp
  refine ⟨fun c hc => ?_, fun c hc => ?_, fun c hc => ?_, ?_, fun x hx => ?_, fun hp => ?_⟩
  ·rw [mv_snoc]; exact swp_lt hk' (ih.lt c hc)
  ·rw [mv_snoc, swp_ix hk, ih.to c hc]
  ·rw [List.map_append, List.length_append]
   show ix (atTo _ _ (ys.length + 1)) _ = _
   rw [List.map_cons, List.map_nil, atTo, atTo_snoc _ Ox]
   have e : it (ys.map cross ++ [cross k]) ys.length = cross k := by rw [← el]; exact it_snoc _ _
   rw [e, mv_snoc]
   have e2 : ((cross k).at_ - 1).toNat = k := by show ((k : Int) + 1 - 1).toNat = k; omega
   rw [e2, swp_ix (by rw [atTo_len]; exact hk'), ih.at_ c hc]
  ·rw [List.map_append, List.length_append]
   show matS _ _ (ys.length + 1) = _
   rw [List.map_cons, List.map_nil, matS, matS_snoc _ Ox, ih.mat]
   have e : it (ys.map cross ++ [cross k]) ys.length = cross k := by rw [← el]; exact it_snoc _ _
   rw [e]
   show mulM _ _ (itL _ (cross k)) (gL _ (mv ys)) = _
   rw [itL_cross h6 hk', mulM_gL h1 h6 ih.lt]
   exact congrArg _ (gL_congr fun c _ => (mv_snoc ys k c).symm)
  ·rw [List.map_append] at hx
   rcases List.mem_append.1 hx with hx | hx
   ·exact ih.fit x hx
   ·simp at hx
    subst hx
    exact fit_cross hk'
  ·exact swapAt_Perm hk (ih.prm hp)
theorem sorted_id {l : List Int} (hp : Perm l) (hs : ∀ j, j + 1 < l.length → ix l j < ix l (j + 1)) : ∀ j, j < l.length → ix l j = j := by
 have lo : ∀ j : Nat, j < l.length → (j : Int) ≤ ix l j := by
  intro j
  induction j with
  | zero => intro hj; have := (hp.2.2 0 hj).1; omega
  | succ j ih => intro hj; have h1 := ih Ox; have h2 := hs j hj; omega
 have hi : ∀ d j : Nat, j < l.length → l.length - 1 - j = d → ix l j ≤ j := by
  intro d
  induction d with
  | zero => intro j hj hd; have := (hp.2.2 j hj).1; omega
  | succ d ih => intro j hj hd; have h1 := ih (j + 1) Ox Ox; have h2 := hs j Ox; omega
 intro j hj
 have h1 := lo j hj
 have h2 := hi _ j hj rfl
 omega
structure Cr (xs : List Int) (ys : List Nat) : Prop where
  len : invs xs = ys.length
  le : ys.length ≤ 2016
  ok : validI xs.length (ys.map cross) = true
  item : itemE xs.length (ys.map cross) = 0
  mat : matO xs.length (ys.map cross) = .ok (gL xs.length fun k => (ix xs k).toNat)
  isp : isP xs.length (ys.map cross) = true
  prm : permZ xs.length (ys.map cross) = xs
theorem ex_cr {xs : List Int} (hp : Perm xs) (h6 : xs.length ≤ 6) {ys : List Nat} {l : List Int} (h : Ex xs ys l) (hs : ∀ j, j + 1 < l.length → ix l j < ix l (j + 1)) : Cr xs ys := by
 have h1 := hp.1
 have hd := h.done h1 h6
 have hll := h.len
 have hid := sorted_id (hd.prm hp) hs
 have hmv : ∀ c, c < xs.length → ix xs c = mv ys c := fun c hc => by
  rw [← hd.to c hc, hid _ (by rw [hll]; exact hd.lt c hc)]
 have hlen : invs xs = ys.length := by
  have := h.invs
  rw [up_invs l hs] at this
  omega
 have hle : ys.length ≤ 2016 := by have := invs_le xs hp.2.1; omega
 have hv : validI xs.length (ys.map cross) = true := validI_true Ox Ox (by simp; omega) (List.all_eq_true.2 hd.fit)
 have hi : itemE xs.length (ys.map cross) = 0 := by
  unfold itemE; rw [if_pos Ox, if_pos hv]
 have hk3 : ∀ j, j < (ys.map cross).length → (it (ys.map cross) j).kind = 3 := fun j hj => by
  obtain ⟨y, _, hy⟩ := List.mem_map.1 (it_mem hj)
  rw [← hy]; rfl
 have hP : isP xs.length (ys.map cross) = true := isP_ok hv hk3
 refine ⟨hlen, hle, hv, hi, ?_, hP, ?_⟩
 ·unfold matO
  rw [if_pos hi, Int.toNat_natCast, List.length_map, hd.mat]
  exact congrArg _ (gL_congr fun c hc => by rw [hmv c hc]; rfl)
 ·rw [permZ_ok (m := xs.length) rfl hP, List.length_map]
  have hcr : ∀ j, j < ys.length → Crs xs.length (it (ys.map cross) j) := fun j hj => by
   have hj' : j < (ys.map cross).length := by simpa using hj
   exact crs_of (hd.fit _ (it_mem hj')) (hk3 j hj')
  have hA := atTo_perm (m := xs.length) (xs := ys.map cross) h1 Ox ys.length hcr
  have hAl := atTo_len xs.length (ys.map cross) ys.length
  refine ext_ix (by rw [invL_len, hAl]) fun j hj => ?_
  rw [invL_len, hAl] at hj
  have hpf : pf (atTo xs.length (ys.map cross) ys.length) (mv ys j) = j := by
   unfold pf; rw [hd.at_ j hj]; rfl
  have := invL_at hA (j := mv ys j) (by rw [hAl]; exact hd.lt j hj)
  rw [hpf] at this; rw [this, hmv j hj]
def pmS (xs : List Int) : Nat → List Nm
  | 0 => List.replicate (xs.length * xs.length) Nm.zero
  | i + 1 => (pmS xs i).set ((ix xs i).toNat * xs.length + i) Nm.one
theorem pmS_len (xs : List Int) : ∀ i, (pmS xs i).length = xs.length * xs.length
  | 0 => by simp [pmS]
  | i + 1 => by rw [pmS, List.length_set, pmS_len xs i]
theorem pmS_at {xs : List Int} (hp : Perm xs) : ∀ i, i ≤ xs.length → ∀ t, t < xs.length * xs.length → nm (pmS xs i) t = if t % xs.length < i ∧ t / xs.length = (ix xs (t % xs.length)).toNat then Nm.one else Nm.zero
  | 0, _, t, ht => by
    rw [if_neg Ox]
    show El.at NmE _ _ = _
    unfold El.at pmS
    rw [List.getD_eq_getElem?_getD, List.getElem?_replicate, if_pos ht]
    rfl
  | i + 1, hi, t, ht => by
    have ih := pmS_at hp i Ox t ht
    have hr := (hp.2.2 i Ox).1
    have hlt : (ix xs i).toNat * xs.length + i < xs.length * xs.length := ix_lt Ox Ox
    show El.at NmE _ _ = _
    rw [pmS, El.at_set _ _ _ _ (by rw [pmS_len]; exact hlt)]
    have hd := Nat.div_add_mod' t xs.length
    by_cases e : t = (ix xs i).toNat * xs.length + i
    · rw [if_pos e, e, ix_div Ox, ix_mod Ox, if_pos ⟨by omega, rfl⟩]
    · rw [if_neg e]
      have ih' : NmE.at (pmS xs i) t = _ := ih
      rw [ih']
      by_cases h2 : t % xs.length = i
      · rw [if_neg Ox, if_neg]
        rintro ⟨_, h4⟩
        rw [h2] at h4; rw [h4, h2] at hd
        exact e hd.symm
      · by_cases h3 : t % xs.length < i ∧ t / xs.length = (ix xs (t % xs.length)).toNat
        · rw [if_pos h3, if_pos ⟨by omega, h3.2⟩]
        · rw [if_neg h3, if_neg]
          rintro ⟨g1, g2⟩
          exact h3 ⟨by omega, g2⟩
theorem pmS_all {xs : List Int} (hp : Perm xs) : pmS xs xs.length = gL xs.length fun k => (ix xs k).toNat := by
 refine NmE.ext_at (by rw [pmS_len, gL_len]) fun t ht => ?_
 rw [pmS_len] at ht
 have h1 : NmE.at (pmS xs xs.length) t = _ := pmS_at hp xs.length (Nat.le_refl _) t ht
 have h2 : NmE.at (gL xs.length fun k => (ix xs k).toNat) t = _ := gL_nm _ ht
 rw [h1, h2]
 have : t % xs.length < xs.length := Nat.mod_lt _ (by have := hp.1; omega)
 by_cases h3 : t / xs.length = (ix xs (t % xs.length)).toNat
 ·rw [if_pos ⟨this, h3⟩, if_pos h3]
 ·rw [if_neg (fun h => h3 h.2), if_neg h3]
noncomputable def crE (xs : List Int) : Int := if Perm xs then (if xs.length ≤ 6 then 0 else 4) else 40
noncomputable def pmL (xs : List Int) : List Nm := if crE xs = 0 then pmS xs xs.length else []
noncomputable def pmN (xs : List Int) : Int := if crE xs = 0 then xs.length else 0
theorem crE_no {xs : List Int} (h : ¬ Perm xs) : crE xs = 40 := by unfold crE; rw [if_neg h]
theorem crE_lim {xs : List Int} (h : Perm xs) (h6 : ¬ xs.length ≤ 6) : crE xs = 4 := by unfold crE; rw [if_pos h, if_neg h6]
theorem crE_yes {xs : List Int} (h : Perm xs) (h6 : xs.length ≤ 6) : crE xs = 0 := by unfold crE; rw [if_pos h, if_pos h6]
theorem crE_zero {xs : List Int} (h : crE xs = 0) : Perm xs ∧ xs.length ≤ 6 := by
  unfold crE at h
  split at h
  · next hp => split at h
               · next h6 => exact ⟨hp, h6⟩
               · cases h
  · cases h
theorem pm_yes {xs : List Int} (h : Perm xs) (h6 : xs.length ≤ 6) : pmL xs = pmS xs xs.length ∧ pmN xs = xs.length ∧ crE xs = 0 := by
 have e := crE_yes h h6
 unfold pmL pmN
 rw [if_pos e, if_pos e]
 exact ⟨rfl, rfl, e⟩
def CrL (xs : List Int) (L : List It) : Prop := if crE xs = 0 then ∃ ys l, Ex xs ys l ∧ (∀ j, j + 1 < l.length → ix l j < ix l (j + 1)) ∧ L = ys.map cross else L = []
theorem CrL.same {xs : List Int} {L M : List It} (h1 : CrL xs L) (h2 : CrL xs M) : L = M := by
 unfold CrL at h1 h2
 by_cases h : crE xs = 0
 ·rw [if_pos h] at h1 h2
  obtain ⟨ys, l, hE, hs, rfl⟩ := h1
  obtain ⟨zs, m, hF, ht, rfl⟩ := h2
  obtain ⟨hp, h6⟩ := crE_zero h
  have c1 := ex_cr hp h6 hE hs
  have c2 := ex_cr hp h6 hF ht
  rw [(hE.same hF (by rw [← c1.len, ← c2.len])).1]
 ·rw [if_neg h] at h1 h2
  rw [h1, h2]
theorem CrL.len {xs : List Int} {L : List It} (h : CrL xs L) : L.length ≤ 2016 := by
 unfold CrL at h
 by_cases h0 : crE xs = 0
 ·rw [if_pos h0] at h
  obtain ⟨ys, l, hE, hs, rfl⟩ := h
  obtain ⟨hp, h6⟩ := crE_zero h0
  have := (ex_cr hp h6 hE hs).le
  simpa using this
 ·rw [if_neg h0] at h
  rw [h]; exact Nat.zero_le _
theorem CrL.bad {xs : List Int} (h : crE xs ≠ 0) : CrL xs [] := by unfold CrL; rw [if_neg h]
theorem CrL.ok {xs : List Int} {ys : List Nat} {l : List Int} (h : crE xs = 0) (hE : Ex xs ys l) (hs : ∀ j, j + 1 < l.length → ix l j < ix l (j + 1)) : CrL xs (ys.map cross) := by
 unfold CrL; rw [if_pos h]; exact ⟨ys, l, hE, hs, rfl⟩
theorem permB_no {xs : List Int} (h : permB xs = false) : crE xs = 40 := crE_no (not_perm_of h)
theorem permB_lim {xs : List Int} (h : permB xs = true) (h6 : ¬ xs.length ≤ 6) : crE xs = 4 := crE_lim (perm_of h) h6
theorem permB_yes {xs : List Int} (h : permB xs = true) (h6 : xs.length ≤ 6) : Perm xs ∧ crE xs = 0 := ⟨perm_of h, crE_yes (perm_of h) h6⟩
section
variable {R : Option Nat} {ops : Array Oper} {Q : Exit → Act → World → Prop} {B : World} {F : List Nat} {s0 : Option (List Blk × List Blk)}
variable {l : List (Oper × Nat)} {a : Act} {s S : List Blk} {d : Option Tmp} {op : Op} {t : TypeId} {p : String} {af : Array Edge} {v : Value}
theorem rg_retLi {T : List It → Prop} {f : Nat} {cargs : Array Operand} {at_ : Array TypeId} {args : Array Value} {cc : Int} {P : Program} {gd : Option (Nat × Bool)} (hg : Region.wanted ⟨d, .call ⟨.value (.func f), cargs, at_⟩, t, p, af, gd⟩ (yielded ops a.tmps) = true) (hgo : isGo P f = true)
    (h : ∀ w, Kn B F s w → Calls P f args w fun e w' => ∃ L, T L ∧ RetS w L cc e w') (hargs : cargs.map a.eval = args)
    (hz : ∀ z ∈ s0, z.1.Sublist s) (k : ∀ (L : List It) (va : Option Addr) (vc : Nat) (u : List Blk), T L → OwnT u (.slice va L.length vc) L → Rg R P ops Q B F s0 l (a.put d (.tuple #[.slice va L.length vc, .int .i64 cc])) (u ++ s)) :
    Rg R P ops Q B F s0 ((⟨d, .call ⟨.value (.func f), cargs, at_⟩, t, p, af, gd⟩, 1) :: l) a s :=
  rg_call hg hgo hargs fun w K => (h w K).mono fun e w' ⟨L, hT, v, u, he, hO, hm⟩ => by
    obtain ⟨a', c', rfl, -⟩ := Own.val hO
    exact ⟨_, u ++ s, he, K.add hm, fun z hz' => (hz z hz').trans (Sr _ _), k L a' c' u hT hO⟩
end
theorem mcross_bad (xs : List Int) (a : Option Addr) (c : Nat) (hl : xs.length ≤ 1000) (hbad : crE xs ≠ 0) (w : World) (hA : AS w a (ints xs)) : Calls Tryz.prog 25 #[.slice a xs.length c] w fun e w' => RetS w [] (crE xs) e w' := by
 refine calls_marks Tryz.func25 rfl ?_
 simp only [Tryz.ntmps25, List.size_toArray, List.length_cons, List.length_nil, Nat.reduceAdd, Nat.reduceSub, Array.replicate_succ, Array.replicate_zero, List.push_toArray, List.append_toArray, List.nil_append, List.cons_append]
 refine wk_seq ?_
 refine Wx [0, 0] ?_
 refine Zr ?_
 refine Wx [0, 1, 0, 0] ?_
 apply rg_pureb Rx Kx
 case hargs => exact Ax
 case h => exact fun w hw => valid_any xs a c hl w (hA.kn0 hw)
 case hz => exact Nz
 rintro (_ | _) h1 <;> try simp only [qd, ne_eq] at h1
 ·refine Zx ?_
  refine Zr ?_; refine Wx [0, 0] ?_; refine Zr ?_; refine ek_retM0 (fun w hw => ⟨_, res_tt _ _ rfl, ?_⟩); (try simp only [qz]); rw [permB_no h1]
  exact ⟨.slice none 0 0, [], rfl, OwnT.nil, .nil hw.below⟩
 refine Zx ?_
 refine Zr ?_
 refine Wx [0, 0, 0, 0] ?_
 refine rf_len rfl rfl rfl UU23 (Nq ?_)
 refine rfb_gtr rfl rfl rfl rfl ?_
 rintro (_ | _) h2 <;> try simp only [qd, ne_eq] at h2
 ·simp only [qz]
  exact absurd (permB_yes h1 Ox).2 hbad
 refine Zx ?_
 refine Zr ?_
 refine Wx [0, 0] ?_
 refine Zr ?_
 refine ek_retM0 (fun w hw => ⟨_, res_tt _ _ rfl, ?_⟩)
 (try simp only [qz])
 rw [permB_lim h1 Ox]
 exact ⟨.slice none 0 0, [], rfl, OwnT.nil, .nil hw.below⟩
theorem mcross_any (xs : List Int) (a : Option Addr) (c : Nat) (hl : xs.length ≤ 1000) (w : World) (hA : AS w a (ints xs)) : Calls Tryz.prog 25 #[.slice a xs.length c] w fun e w' => ∃ L, CrL xs L ∧ RetS w L (crE xs) e w' := by
 by_cases h : crE xs = 0
 ·obtain ⟨hp, h6⟩ := crE_zero h
  refine (crossings_yes xs a c hl h6 hp w hA).mono fun e w' ⟨v, u, zs, he, hO, ⟨ys, l, hE, hs, hz⟩, hm⟩ => ?_
  subst hz
  exact ⟨_, CrL.ok h hE hs, v, u, by rw [h]; exact he, hO, hm⟩
 exact (mcross_bad xs a c hl h w hA).mono fun e w' hr => ⟨[], CrL.bad h, hr⟩
theorem CrL.facts {xs : List Int} {L : List It} (h : CrL xs L) (h0 : crE xs = 0) : Perm xs ∧ invs xs = L.length ∧ matO xs.length L = .ok (pmL xs) ∧ isP xs.length L = true ∧ itemE xs.length L = 0 ∧ permZ xs.length L = xs ∧ pmN xs = xs.length := by
 obtain ⟨hp, h6⟩ := crE_zero h0
 unfold CrL at h
 rw [if_pos h0] at h
 obtain ⟨ys, l, hE, hs, rfl⟩ := h
 have c := ex_cr hp h6 hE hs
 obtain ⟨e1, e2, -⟩ := pm_yes hp h6
 exact ⟨hp, by rw [c.len, List.length_map], by rw [c.mat, e1, pmS_all hp], c.isp, c.item, c.prm, e2⟩
theorem isP_all {n : Int} {xs : List It} (h : isP n xs = true) : validI n xs = true ∧ ∀ j, j < xs.length → (it xs j).kind = 3 := by
 unfold isP crossB at h
 simp only [Bool.and_eq_true] at h
 exact ⟨h.1, fun j hj => of_decide_eq_true ((List.all_eq_true.1 h.2) _ (it_mem hj))⟩
theorem permZ_facts {n : Int} {xs : List It} (h : isP n xs = true) : Perm (permZ n xs) ∧ invs (permZ n xs) ≤ xs.length ∧ (xs.length - invs (permZ n xs)) % 2 = 0 := by
 obtain ⟨hv, hk⟩ := isP_all h
 obtain ⟨hn1, hn2, _, hfit⟩ := validB_all hv
 obtain ⟨m, rfl⟩ : ∃ m : Nat, n = m := ⟨n.toNat, by omega⟩
 rw [permZ_ok rfl h]
 have hc : ∀ j, j < xs.length → Crs m (it xs j) := fun j hj => crs_of (hfit j hj) (hk j hj)
 have hp := atTo_perm (m := m) Ox Ox xs.length hc
 have hi := atTo_invs (m := m) Ox Ox xs.length hc
 rw [invs_inv hp]
 exact ⟨hp.inv, hi⟩
section
variable {R : Option Nat} {ops : Array Oper} {Q : Exit → Act → World → Prop} {B : World} {F : List Nat} {s0 : Option (List Blk × List Blk)} {P : Program}
variable {l : List (Oper × Nat)} {a : Act} {s : List Blk} {d : Option Tmp} {t : TypeId} {p : String} {af : Array Edge} {gd : Option (Nat × Bool)} {m : Nat}
theorem rf_slice3 {T : Nat} {x yl y y2 : Operand} {b off n lo hi len cap e sz : Nat} {k k' k2 : IntKind} {zl z z2 : Int} (hm : soft03 m = true) (hg : Region.wanted ⟨d, .slice T x (some yl) (some y) (some y2), t, p, af, gd⟩ (yielded ops a.tmps) = true)
    (hx : a.eval x = .slice (some ⟨b, off, none⟩) len cap) (hl : a.eval yl = .int k' zl) (hy : a.eval y = .int k z) (hy2 : a.eval y2 = .int k2 z2) (hu : P.underlying T = some (.slice e)) (hs : (P.info? e).map (·.size) = some sz) (hzl : zl = (lo : Int)) (hz : z = (hi : Int)) (hz2 : z2 = (hi : Int)) (hh : lo + n = hi) (hn : hi ≤ cap) (hlo : 0 < n)
    (h : Rg R P ops Q B F s0 l (a.put d (.slice (some ⟨b, off + lo * sz, none⟩) n n)) s) : Rg R P ops Q B F s0 ((⟨d, .slice T x (some yl) (some y) (some y2), t, p, af, gd⟩, m) :: l) a s := by
  subst hzl hz hz2
  refine rg_any hm hg (fun w => ?_) h
  unfold Yld
  cases hq : P.info? e with
  | none => simp [hq] at hs
  | some q =>
    have hs' : q.size = sz := by simpa [hq] using hs
    have hb := fun w => run_sliceBound (P := P) w k2 (hi : Int) cap .slice3Acap Ox Ox
    have hb1 := fun w => run_sliceBound (P := P) w k (hi : Int) hi .slice3B Ox Ox
    have hb2 := fun w => run_sliceBound (P := P) w k' (lo : Int) hi .slice3C Ox Ox
    have e1 : (hi : Int).toNat = hi := Int.toNat_natCast _
    have e2 : (lo : Int).toNat = lo := Int.toNat_natCast _
    rw [e1] at hb hb1; rw [e2] at hb2
    have h3 : ¬ hi = lo := by omega
    have h4 : hi - lo = n := by omega
    have h5 : ¬ n = 0 := by omega
    simp [execOp, hx, hl, hy, hy2, Instr.sliceAt, Instr.slice, Instr.sliceBounds, run_underlying hu, sizeOf, typeInfo, hq, hs', hb, hb1, hb2, Addr.add_mid, h3, h4, h5]
end
theorem sKInfo : (Tryz.prog.info? 26).map (fun i => (i.zero, i.size, i.bytes)) = some (some (.slice none 0 0), 1, 24) := by kernel_rfl
section
variable {R : Option Nat} {ops : Array Oper} {Q : Exit → Act → World → Prop} {B : World} {F : List Nat} {s0 : Option (List Blk × List Blk)}
variable {l : List (Oper × Nat)} {a : Act} {s S : List Blk} {d : Option Tmp} {op : Op} {t : TypeId} {p : String} {af : Array Edge} {v : Value}
theorem rg_appRow {so xo : Operand} {u : List Blk} {hs : List Value} {n g : Nat} {h : Value} {gd : Option (Nat × Bool)} (hg : Region.wanted ⟨d, .call ⟨.builtin .append, #[so, xo], #[116, 116]⟩, t, p, af, gd⟩ (yielded ops a.tmps) = true)
    (hs0 : a.eval so = v) (hown : Own 26 1 u v n hs) (hx : a.eval xo = .slice (some ⟨g, 0, none⟩) 1 1) (hn : n ≤ 1000000) (h1 : h.oneCell' = true) (hp : S.Perm (u ++ s))
    (hnews : ∀ w, Kn B F S w → Hd w g 26 #[h]) (hzz : ∀ z ∈ s0, z.1.Sublist s)
    (k : ∀ u' a' c', Own 26 1 u' (.slice a' (n + 1) c') (n + 1) (hs ++ [h]) → Rg R Tryz.prog ops Q B F s0 l (a.put d (.slice a' (n + 1) c')) (u' ++ s)) :
    Rg R Tryz.prog ops Q B F s0 ((⟨d, .call ⟨.builtin .append, #[so, xo], #[116, 116]⟩, t, p, af, gd⟩, 1) :: l) a S := by
  obtain ⟨i, hi, hz, hsz, hb⟩ := info_partsN sKInfo
  refine rg_append (u := u) (s := s) (i := i) (z := .slice none 0 0) (size := 1) (bytes := 24) (n := n) (m := 1) (c := 1) (xs := hs) (news := [h]) (ad := ⟨g, 0, none⟩) hg
    UU116 hi hz hsz hb rfl (by decide) hs0 hown hx Rx ?_ (by simpa using h1) (by simp only [maxLen]; omega) Ox hp hzz ?_
  · intro w K j y hj
    have hd := (hnews w K).cell
    match j, hj with
    | 0, hj => simp only [List.getElem?_cons_zero, Option.some.injEq] at hj; subst hj; exact hd 0
    | j + 1, hj => simp at hj
  · intro u' v' hO _
    obtain ⟨a', c', rfl, -⟩ := Own.val hO
    exact k u' a' c' hO
theorem rg_appNums {so xo : Operand} {u : List Blk} {xs ys : List Nm} {m c r : Nat} {ad : Addr} {gd : Option (Nat × Bool)} (hg : Region.wanted ⟨d, .call ⟨.builtin .append, #[so, xo], #[26, 26]⟩, t, p, af, gd⟩ (yielded ops a.tmps) = true)
    (hs : a.eval so = v) (hown : OwnN u v xs) (hx : a.eval xo = .slice (some ad) m c) (hm : ys.length = m) (hr : xs.length + ys.length = r) (hb : r ≤ 10000000) (hp : S.Perm (u ++ s))
    (hA : ∀ w, Kn B F S w → AS w (some ad) (nms ys))
    (hzz : ∀ z ∈ s0, z.1.Sublist s) (h : ∀ u' a' c', OwnN u' (.slice a' r c') (xs ++ ys) → Rg R Tryz.prog ops Q B F s0 l (a.put d (.slice a' r c')) (u' ++ s)) :
    Rg R Tryz.prog ops Q B F s0 ((⟨d, .call ⟨.builtin .append, #[so, xo], #[26, 26]⟩, t, p, af, gd⟩, 1) :: l) a S := by
  obtain ⟨i, hi, hz, hsz, hby⟩ := info_partsN numInfo
  subst hm hr
  refine rg_appendG (E := NmE) (u := u) (s := s) (i := i) (xs := xs) (ys := ys) (ad := ad) hg UU26 hi hz hsz rfl Ox hs hown hx rfl Ox hp (fun w K j y hj => ?_) hzz fun u' v' hO => ?_
  · have hne : nms ys ≠ [] := fun e => by (have e' : NmE.flat ys = [] := e; rw [e'] at hj; simp at hj)
    obtain ⟨b, off, e, _, hc⟩ := hA w K hne
    cases e
    have hj' : j < (nms ys).length := by
      rcases Nat.lt_or_ge j (nms ys).length with h | h
      · exact h
      · rw [List.getElem?_eq_none h] at hj; cases hj
    have e1 : (⟨b, off, none⟩ : Addr).add j = ⟨b, off + j, none⟩ := Addr.add_mid ..
    rw [e1, hc j hj', hj]
  · obtain ⟨a', c', rfl, -⟩ := Own.val hO
    have e : (xs ++ ys).length = xs.length + ys.length := by simp
    rw [e] at hO ⊢
    exact h u' a' c' hO
end
def RoundsK (N bz lp : Nat) (r : Loop) (C : Nat → List Blk → Prop) : Prop :=
  r.params.size = 1 ∧ (∀ j s, C j s → (lp, Obj.loop r) ∈ s) ∧
  ∀ (R : Option Nat) (B : World) (F : List Nat) (j i : Nat) (s rest : List Blk) (w : World), j < N → i = j * N → C j s → Kn B F (s ++ rest) w →
    RoundIn (FR R) 0 Tryz.prog lp r.fn ((r.params.zip #[Value.slice (some ⟨bz, 0 + i * 5, none⟩) N N]).foldl (fun tmps (t, a) => tmps.setIfInBounds t a) r.tmps) r.assign r.body w
      (fun e w' => ∃ s', e = .returned (.bool true) ∧ C (j + 1) s' ∧ Kn B F (s' ++ rest) w')
section
variable {R : Option Nat} {ops : Array Oper} {Q : Exit → Act → World → Prop} {B : World} {F : List Nat}
theorem rg_yieldK {C : Nat → List Blk → Prop} {N bz lp : Nat} {r : Loop} {j i : Nat} {s rest : List Blk} {a : Act} {d : Option Tmp} {fo : Operand} {cargs : Array Operand} {at_ : Array TypeId} {t : TypeId} {p : String} {af : Array Edge} {gd : Option (Nat × Bool)} {lst : List (Oper × Nat)}
    (hR : RoundsK N bz lp r C) (hC : C j s) (hj : j < N) (hi : i = j * N) (hg : Region.wanted ⟨d, .call ⟨.value fo, cargs, at_⟩, t, p, af, gd⟩ (yielded ops a.tmps) = true)
    (hf : a.eval fo = .func (.yield lp) #[] #[]) (hargs : cargs.map a.eval = #[.slice (some ⟨bz, 0 + i * 5, none⟩) N N])
    (h : ∀ s', C (j + 1) s' → Rg R Tryz.prog ops Q B F none lst (a.put d (.bool true)) (s' ++ rest)) :
    Rg R Tryz.prog ops Q B F none ((⟨d, .call ⟨.value fo, cargs, at_⟩, t, p, af, gd⟩, 1) :: lst) a (s ++ rest) := by
  refine rg_yield (r := r) hg hf hargs hR.1.symm (List.mem_append_left _ (hR.2.1 j s hC)) fun w K => ?_
  exact (hR.2.2 R B F j i s rest w hj hi hC K).mono fun e w' ⟨s', he, hC', hK⟩ => ⟨_, _, he, hK, h s' hC'⟩
end
def RetNm (w : World) (xs : List Nm) (e : Ending) (w' : World) : Prop := ∃ v u, e = .returned v ∧ OwnN u v xs ∧ Made w u w'
theorem OwnN.emptyK {g : Nat} : OwnN [(g, .cells #[] 44)] (.slice (some ⟨g, 0, none⟩) 0 0) [] := ⟨rfl, .inr ⟨g, 0, #[], rfl, rfl, Nat.le_refl _, by simp only [maxLen]; omega, rfl, rfl⟩⟩
theorem clonek_any (N b off c : Nat) (xs : List Nm) (hl : Hid (xs.length = N)) (hN : N ≤ 1000) (w : World) (hA : AS w (some ⟨b, off, none⟩) (nms xs)) : Calls Tryz.prog 55 #[.slice (some ⟨b, off, none⟩) N c] w fun e w' => RetNm w xs e w' := by
 go_enter Tryz.func55, Tryz.ntmps55
 refine wk_start ?_
 refine wk_seq ?_
 refine Wm [0] ?_
 refine Zr ?_
 refine Wm [0, 0] ?_
 apply rg_softb
 case hy => (intro w hw; exact Gy)
 intro x h1
 obtain rfl : x = false := by (refine h1.symm.trans ?_; first | rfl | exact decide_eq_false Ox | exact beq_eq_false_iff_ne.2 Ox | exact bne_eq_false_iff_eq.2 Ox | (simp; omega) | (simp; done))
 clear h1
 simp only [qz]
 refine Zr ?_
 refine Wr [1, 0, 1, 0] ?_
 refine rg_newS (cs := ?_) (ty := ?_) (n := 0) (c := 0) Rx (fun w => ?_) Nz (fun g1 => ?_); rotate_left 2
 focus (go_simp; rfl)
 refine Zm ?_
 refine rg_appNums (u := [(g1, .cells #[] 44)]) (s := []) (xs := []) (ys := xs) (r := N) Rx rfl OwnN.emptyK rfl hl.out (by simp only [List.length_nil, hl.out]; omega) Ox (List.Perm.refl _) (fun w hw => hA.kn0 hw) Nz (fun u1 a1 c1 hO1 => ?_)
 refine Zm ?_
 refine Zr ?_
 refine Er fun w hw => ?_
 (try simp only [qz])
 exact ⟨_, _, rfl, hO1, hw.made (by simp)⟩
theorem chunk_any (N bz nn cz : Nat) (hN : 1 ≤ N) (w : World) : Calls Tryz.prog 69 #[.slice (some ⟨bz, 0, none⟩) nn cz, .int .i64 N] w fun e w' => ∃ gs gn, e = .returned (.func (.func 109) #[] #[.pointer (some ⟨gs, 0, none⟩), .pointer (some ⟨gn, 0, none⟩)]) ∧ Made w [(gn, .cells #[.int .i64 N] 3), (gs, .cells #[.slice (some ⟨bz, 0, none⟩) nn cz] 26)] w' := by
 go_enter Tryz.func69, Tryz.ntmps69
 refine wk_start ?_
 refine wk_seq ?_
 refine Wr [1, 1, 0] ?_
 refine Rgn fun g1 => ?_
 simp only [qz]
 refine Rgn fun g2 => ?_
 refine Zm ?_
 refine Zr ?_
 refine Wr [0, 0] ?_
 refine rf_load rfl rfl rfl UU3 rfl (fun w hw => (Kn.hd0 hw).at rfl) (Nq ?_)
 refine rfb_lss rfl rfl rfl rfl ?_
 rintro (_ | _) h1 <;> try simp only [qd, ne_eq] at h1
 ·simp only [qz]
  refine Zr ?_; refine Wr [0, 0] ?_; refine Zk ?_; refine Zr ?_
  refine Er fun w hw => ?_
  (try simp only [qz])
  exact ⟨g1, g2, (by first | rfl | trivial), hw.made (List.Sublist.refl _)⟩
 simp only [qz]
 exfalso; omega
theorem chunk1_any (N nn bz cz lp gs gn : Nat) (hN : 1 ≤ N) (hN6 : N ≤ 6) (hnn : Hid (nn = N * N)) (hn36 : nn ≤ 36) (hcz : nn ≤ cz) (r : Loop) (C : Nat → List Blk → Prop) (hR : RoundsK N bz lp r C) (s : List Blk) (F : List Nat) (hC0 : C 0 s) (w : World) (hK : Kn w F (s ++ [(gs, .cells #[.slice (some ⟨bz, 0, none⟩) nn cz] 26), (gn, .cells #[.int .i64 N] 3)]) w) : Calls Tryz.prog 109 #[.func (.yield lp) #[] #[], .pointer (some ⟨gs, 0, none⟩), .pointer (some ⟨gn, 0, none⟩)] w fun e w' => e = .returned (.tuple #[]) ∧ ∃ s', C N s' ∧ Kn w F (s' ++ [(gs, .cells #[.slice (some ⟨bz, 0, none⟩) nn cz] 26), (gn, .cells #[.int .i64 N] 3)]) w' := by
 go_enter Tryz.func109, Tryz.ntmps109
 refine wk_startF hK ?_
 refine wk_seq ?_
 refine Wm [0] ?_
 refine Zr ?_
 refine wk_loopF [4, 5, 6, 7, 8, 9, 10, 11, 12, 13, 14, 15, 16, 17, 18, 19, 20, 21, 22, 23, 24, 25, 26, 27, 28, 29, 30] (fun mz f s => ∃ (j i : Nat) (uC : List Blk), f 4 = .int .i64 i ∧ s = (uC ++ ((gs, .cells #[.slice (some ⟨bz, 0, none⟩) nn cz] 26) :: ((gn, .cells #[.int .i64 N] 3) :: []))) ∧ mz = N - j ∧ j ≤ N ∧ Hid (i = j * N) ∧ C j uC) ((fun (j i : Nat) (uC : List Blk) => N - j) (0) (0) (s)) ?_ Kx ?_
 ·exact ⟨0, 0, s, rfl, rfl, rfl, by omega, Lib.hid (Nat.zero_mul N).symm, hC0⟩
 rintro mz f1 s ⟨j, i, uC, hs1_4, rfl, hn, hd1, hd2, hd3⟩
 simp only [Act.putF, List.foldl_cons, List.foldl_nil, hs1_4, Act.put, Act.eval, qW, Nat.reduceAdd, Bool.not_true, Bool.not_false]
 clear hs1_4
 have hi := hd2
 have hC := hd3
 clear hd2 hd3
 refine wk_seq (wk_seq ?_)
 refine Wm [0, 0, 0, 0] ?_
 refine rf_load rfl rfl rfl UU26 rfl (fun w hw => (Kn.hd0 (Kn.tlU hw)).at rfl) (Nq ?_)
 refine rf_len rfl rfl rfl UU26 (Nq ?_)
 refine rfb_lss rfl rfl rfl rfl ?_
 rintro (_ | _) h1 <;> try simp only [qd, ne_eq] at h1
 ·simp only [qz]
  have hjN : N ≤ j := Decidable.byContradiction fun hn => by
   have := Nat.mul_le_mul_right N (show j + 1 ≤ N by omega)
   rw [Nat.add_mul, Nat.one_mul, ← hi.out, ← hnn.out] at this
   omega
  refine rg_nil (ek_next (wk_cond_f rfl (wk_exit (ek_then_exit (ek_then_exit (ek_block_exit ?_)))))); refine ek_norm (fun w hw => ⟨rfl, _, res_0 rfl, ?_⟩); (try simp only [qz])
  obtain rfl : j = N := by omega
  exact ⟨(by first | rfl | trivial), _, hC, hw⟩
 simp only [qz]
 have hjN : j < N := Nat.lt_of_mul_lt_mul_right (a := N) (by rw [← hi.out, ← hnn.out]; omega)
 have hin : i + N ≤ nn := by
  have := Nat.mul_le_mul_right N (show j + 1 ≤ N by omega)
  rw [Nat.add_mul, Nat.one_mul, ← hi.out, ← hnn.out] at this
  exact this
 have hin1 : i + N = (j + 1) * N := by rw [Nat.add_mul, Nat.one_mul, ← hi.out]
 replace hin1 := Lib.hid hin1
 refine Zr ?_
 refine wk_draws _ _ [(0, 0), (1, 0), (2, 0), (3, 0), (4, 0), (5, 0), (6, 0)] [] Kx Kx (fun c d v a w h => by cases d <;> exact h) ((Sa (sc _ (sc _ sn)) _)) (fun e => by first | exact absurd e (by decide) | rfl) ?_
 simp only [List.map_cons, List.map_nil, List.getD_cons_zero, List.getD_cons_succ]
 refine rf_load rfl rfl rfl UU3 rfl (fun w hw => (Kn.hd0 (Kn.tl (Kn.tlU hw))).at rfl) (Nq ?_)
 refine rf_load rfl rfl rfl UU26 rfl (fun w hw => (Kn.hd0 (Kn.tlU hw)).at rfl) (Zm ?_)
 refine rf_sliceFrom (lo := i) (sz := 5) rfl rfl rfl rfl UU26 Kx Ox Ox (Nq ?_)
 refine rf_len rfl rfl rfl UU26 (Nq ?_)
 apply rg_soft
 case hy => (intro w hw; exact Gy)
 refine Zm ?_
 refine Zr ?_
 refine Wm [0, 0, 0, 0, 0, 0, 0, 0, 0, 0, 1, 0] ?_
 refine rf_load rfl rfl rfl UU26 rfl (fun w hw => (Kn.hd0 (Kn.tlU hw)).at rfl) (Zm ?_)
 refine rf_add rfl rfl rfl rfl (wrap_ok Ox Ox) (Zm ?_)
 refine rf_add rfl rfl rfl rfl (wrap_ok Ox Ox) (Nq ?_)
 refine rf_slice3 (lo := i) (hi := i + N) (n := N) (sz := 5) rfl rfl rfl rfl rfl rfl UU26 Kx Ox Ox Ox rfl Ox Ox (Nq ?_)
 refine rg_yieldK (j := j) (i := i) hR hC hjN hi.out Rx rfl (by simp only [qm, qs, Act.eval]; try rfl) (fun uD hCD => ?_)
 simp only [qz]
 refine rf_not rfl rfl rfl (Nq ?_)
 refine Zr ?_
 refine Wm [0, 0, 0, 0] ?_
 refine rf_load rfl rfl rfl UU3 rfl (fun w hw => (Kn.hd0 (Kn.tl (Kn.tlU hw))).at rfl) (Nq ?_)
 refine rf_add rfl rfl rfl rfl (wrap_ok Ox Ox) (Zm ?_)
 refine rg_nil ?_
 refine ek_roundF (N - (j + 1)) Ox Kx ?_
 exact ⟨j + 1, i + N, uD, rfl, by rfl, by rfl, by omega, hin1, hCD⟩
def mostN (N : Nat) : Int := [0, 40, 40, 12, 4].getD N 0
theorem most_at : ∀ N : Nat, N ≤ 4 → (#[Value.int .i64 0, .int .i64 40, .int .i64 40, .int .i64 12, .int .i64 4] : Array Value)[N]? = some (.int .i64 (mostN N)) := by
 intro N h
 rcases (by omega : N = 0 ∨ N = 1 ∨ N = 2 ∨ N = 3 ∨ N = 4) with rfl | rfl | rfl | rfl | rfl <;> rfl
theorem most_any (N : Nat) (hN : N ≤ 4) (w : World) : Calls Tryz.prog 68 #[.int .i64 (N : Int)] w fun e w' => e = .returned (.int .i64 (mostN N)) ∧ Below w.heap.size w w' := by
 go_enter Tryz.func68, Tryz.ntmps68
 refine wk_start ?_
 refine wk_seq ?_
 refine Wm [0] ?_
 refine Zr ?_
 refine Wr [1, 0, 0, 0, 0] ?_
 refine rg_newS (cs := ?_) (ty := ?_) (n := 5) (c := 5) Rx (fun w => ?_) Nz (fun g1 => ?_); rotate_left 2
 focus (go_simp; rfl)
 refine Zm ?_
 refine rf_indexS (n := N) (sz := 1) (j := N) rfl rfl rfl rfl UU23 Kx Ox Ox Ox (Nq ?_)
 refine rf_load (v := .int .i64 (mostN N)) rfl rfl rfl UU3 rfl (fun w hw => ((Kn.hd0 hw).cell N).trans (most_at N hN)) (Zm ?_)
 refine Zr ?_
 refine Er fun w hw => ?_
 (try simp only [qz])
 first | exact ⟨rfl, hw.below⟩ | exact ⟨trivial, hw.below⟩ | exact hw.below
def noOut (Q : Exit → Act → World → Prop) (e : Exit) (a : Act) (w : World) : Prop := match e with
  | .outgrown => False
  | e => Q e a w
theorem ek_out {Q : Exit → Act → World → Prop} {B : World} {F : List Nat} {a : Act} {s : List Blk} (h : Ek B F Q .normal a s) : Ek B F (noOut Q) .normal a s := h
theorem noOut_imp {Q : Exit → Act → World → Prop} {e : Exit} {a : Act} {w : World} (h : noOut Q e a w) : Q e a w := by
 cases e <;> first | exact h | exact h.elim
section
variable {R : Option Nat} {P : Program} {ops : Array Oper} {Q : Exit → Act → World → Prop} {md : Region.Mode}
theorem hop_post {Q' : Exit → Act → World → Prop} {K : Act → World → Prop} {o : Oper} {a : Act} {w : World} (hq : ∀ e a w, Q e a w → Q' e a w) (h : hop P ops Q K o a w) : hop P ops Q' K o a w := by
 unfold hop at *
 split
 ·rename_i hw
  rw [if_pos hw] at h
  unfold Oper.wp at *
  generalize (execOp a.eval o).run P w = r at *
  cases r with
  | ok n w' =>
   cases n <;> simp only [Oper.upon] at h ⊢ <;>
    first
     | exact h
     | exact Calls.mono h (fun e w'' he => by cases e <;> first | exact he | exact hq _ _ _ he | (obtain ⟨a₀, w₀, h₀⟩ := he; exact ⟨a₀, w₀, hq _ _ _ h₀⟩))
  | halt x w' => cases x <;> simp only [Oper.upon] at h ⊢ <;> first | exact hq _ _ _ h | exact h
 ·rename_i hw; rw [if_neg hw] at h; exact h
theorem op_in {i : Nat} {K K' : Act → World → Prop} {a : Act} {w : World} (hd : ∀ (i : Nat) (o : Oper), ops[i]? = some o → noDefer [o] = true) (hk : ∀ a w, K a w → K' a w) (h : wpOp P ops (noOut Q) i K a w) : wpOpIn (FR R) 0 P ops Q i K' a w := by
 unfold wpOp at h
 cases ho : ops[i]? with
 | none => rw [ho] at h; unfold wpOpIn; simp only [ho]; exact hk _ _ h
 | some o =>
  rw [ho] at h
  simp only at h
  have hh : hop P ops Q K' o a w := by
   refine hop_mono hk (hop_post (fun e a w h => noOut_imp h) (?_ : hop P ops (noOut Q) K o a w))
   unfold hop
   split at h
   ·rename_i hw
    rw [if_pos hw]
    rcases h with h | ⟨-, a₀, w₀, h₀⟩
    ·exact h
    ·exact h₀.elim
   ·rename_i hw
    rw [if_neg hw]; exact h
  refine op_one ho ?_
  have h2 : hop P ops (Exit.then K' Q) K' o a w := by
   unfold hop at hh ⊢
   split
   ·rename_i hw
    rw [if_pos hw] at hh
    unfold Oper.wp at *
    generalize (execOp a.eval o).run P w = r at *
    cases r with
    | ok n w' =>
     cases n <;> simp only [Oper.upon] at hh ⊢ <;>
      first
       | exact hh
       | exact Calls.mono hh (fun e w'' he => by cases e <;> first | exact he | (obtain ⟨a₀, w₀, h₀⟩ := he; exact ⟨a₀, w₀, h₀⟩))
    | halt x w' => cases x <;> simp only [Oper.upon] at hh ⊢ <;> exact hh
   ·rename_i hw; rw [if_neg hw] at hh; exact hh
  exact hop_in (hd i o ho) h2 (fun a w hk => by unfold wpListIn; exact hk)
theorem any_in (hd : ∀ (i : Nat) (o : Oper), ops[i]? = some o → noDefer [o] = true) : ∀ (fuel : Nat) (listed : Array Bool) (a : Act) (w : World), wpAny P md ops (noOut Q) fuel listed a w → wpAnyIn (FR R) 0 P md ops Q fuel listed a w
  | 0, _, _, _, h => h
  | fuel + 1, _, _, _, h => ⟨h.1, fun i hi => op_in hd (fun a' w' h' => any_in hd fuel _ a' w' h') (h.2 i hi)⟩
theorem any_eagT {a : Act} {w : World} {l : List Oper} {c : World → Prop} (m : List (Nat × (World → Prop))) (b : World → Prop) (ord : List (Nat × Nat)) 
    (hB : (Region.noSelect l.toArray && (decide (ord.length = l.length) && eagT .any l.toArray ord (m.map (·.1)) (Array.replicate l.length false))) = true)
    (hQ : ∀ c d v a w, Q (.panic c) (Act.put a d v) w → Q (.panic c) a w) (hb : b w.drew) (hc : ∀ w, b w → c w) (hcm : ∀ x ∈ m, ∀ w, x.2 w → c w)
    (h : wpEagF P l.toArray Q c ord m b a w.drew) : wpAny P .any l.toArray Q l.length (Array.replicate l.length false) a w.drew := by
  simp only [Bool.and_eq_true, decide_eq_true_eq] at hB
  obtain ⟨hs, hl, hB⟩ := hB
  have hx : ∀ x ∈ m, (Array.replicate l.length false).getD x.1 false = false := fun x _ => by
    rw [Array.getD_eq_getD_getElem?]
    rcases Nat.lt_or_ge x.1 l.length with h' | h' <;> simp [h', Array.getElem?_replicate]
  have := wpAnyF_of_eagT (md := .any) hs hQ ord m b _ a w.drew (fun k ok hk h => by
    rw [Array.getD_eq_getD_getElem?] at h
    rcases Nat.lt_or_ge k l.length with h' | h' <;> simp [h', Array.getElem?_replicate] at h) hx hc hcm hB hb h
  rw [hl] at this
  exact wpAny_of_F _ _ _ _ (by simpa using this)
end
section
variable {R : Option Nat} {P : Program} {ops : Array Oper} {Q : Exit → Act → World → Prop} {B : World} {F : List Nat} {s0 : Option (List Blk × List Blk)}
theorem wk_drawsR {id : Nat} {a : Act} {s : List Blk} {l : List Oper} (z z1 : List Blk) (ord : List (Nat × Nat)) (mk : List Nat) (hm : P.follows .mixedOrders = true)
    (hB : ((Region.noSelect l.toArray && (decide (ord.length = l.length) && eagT .any l.toArray ord mk (Array.replicate l.length false))) &&
      ((ord.all fun p => decide (p.1 < l.length)) && (decide (mk.length ≤ 1) && decide ((ord.map (·.2)).filter (· == 2) = mk.map fun _ => 2)))) = true)
    (hQ : ∀ c d v a w, Q (.panic c) (Act.put a d v) w → Q (.panic c) a w) (hz : z.Sublist s) (hzz : mk = [] → z = z1)
    (hdf : (l.all fun o => noDefer [o]) = true)
    (h : Rg none P l.toArray (noOut Q) B F (some (z, z1)) (ord.map fun p => (l.getD p.1 default, p.2)) a s) (hy : z1.Sublist z := by exact List.Sublist.refl _) : Wk R P B F Q a s (Code.region id l.toArray true) := fun w K => by
  simp only [Bool.and_eq_true, decide_eq_true_eq, List.all_eq_true] at hB
  obtain ⟨hB1, h1, h3, h4⟩ := hB
  have hd : ∀ (i : Nat) (o : Oper), l.toArray[i]? = some o → noDefer [o] = true := fun i o ho => by
    rw [List.getElem?_toArray] at ho
    exact List.all_eq_true.1 hdf o (List.mem_of_getElem? ho)
  refine wpIn_region_any hm ?_
  have hsz : l.toArray.size = l.length := by simp
  rw [hsz]; refine any_in hd _ _ _ _ ?_
  have hQ' : ∀ c d v a w, noOut Q (.panic c) (Act.put a d v) w → noOut Q (.panic c) a w := hQ
  match mk, h3, h4, hB1, hzz with
  | [], _, h4, hB1, hzz =>
    refine any_eagT [] (Kn B F z) ord (by simp only [Bool.and_eq_true, decide_eq_true_eq]; exact hB1) hQ' (K.drew.sub hz) (fun w K => K.sub hy) (fun x hx => nomatch hx) ?_; refine rg_eag l rfl 0 ord (z, z1) a s [] (.inr ⟨rfl, hzz rfl, fun p hp e => ?_⟩) (by rw [if_pos rfl]; exact h4) (by simpa [List.all_eq_true] using h1) h w.drew K.drew
    have : p.2 ∈ (ord.map (·.2)).filter (· == 2) := List.mem_filter.2 ⟨List.mem_map.2 ⟨p, hp, rfl⟩, by simp [e]⟩
    rw [h4] at this; cases this
  | [x], _, h4, hB1, _ =>
    refine any_eagT [(x, Kn B F z1)] (Kn B F z) ord (by simp only [Bool.and_eq_true, decide_eq_true_eq]; exact hB1) hQ' (K.drew.sub hz) (fun w K => K.sub hy) (fun x hx w K => by simp only [List.mem_singleton] at hx; subst hx; exact K) ?_
    exact rg_eag l rfl x ord (z, z1) a s [(x, Kn B F z1)] (.inl rfl) (by rw [if_neg (by simp)]; exact h4) (by simpa [List.all_eq_true] using h1) h w.drew K.drew
  | _ :: _ :: _, h3, _, _, _ => simp at h3
end
def idS (N t : Nat) : List Nm := (List.range t).map fun t => if t / N = t % N then Nm.one else Nm.zero
theorem idS_len (N t : Nat) : (idS N t).length = t := by simp [idS]
theorem idS_all {N : Nat} (h1 : 1 ≤ N) (h6 : N ≤ 6) : idM N = idS N (N * N) := by
 unfold idM identR
 rw [if_pos Ox, Int.toNat_natCast]
 have h : madeR N idR = .ok ((List.range (N * N)).map fun t => if t / N = t % N then Nm.one else Nm.zero) := gather_pure _ _
 rw [h]
 rfl
theorem rC_err {r : LR} (h : rC r ≠ 0) : ∃ c, r = .error c := by
 cases r with
 | ok l => exact absurd rfl h
 | error c => exact ⟨c, rfl⟩
theorem own_ok (x : It) : allOk (ownL x) = true := by
 unfold ownL
 split
 ·exact allOk_true fun k hk => by
   obtain rfl : k = 0 := by simpa using hk
   exact okB_iff.2 (turn_ok one_ok _)
 split <;> rfl
theorem allOk_setQ {l : List Nm} (h : allOk l = true) (i : Nat) {z : Nm} (hz : z.Ok) : allOk (l.set i z) = true := by
 refine allOk_true fun k hk => ?_
 rw [List.length_set] at hk
 by_cases hi : i < l.length
 ·show Nm.okB (El.at NmE _ _) = true
  rw [El.at_set _ _ _ _ hi]
  split
  ·exact okB_iff.2 hz
  exact okB_iff.2 (ok_at h hk)
 rw [List.set_eq_of_length_le Ox]
 exact okB_iff.2 (ok_at h hk)
theorem plcS_okQ {N p m : Nat} {L l : List Nm} (hL : allOk L = true) (hl : allOk l = true) : ∀ t, t ≤ L.length → allOk (plcS N p m L l t) = true
  | 0, _ => hl
  | t + 1, h => by
    rw [plcS]
    exact allOk_setQ (plcS_okQ hL hl t Ox) _ (ok_at hL Ox)
theorem idM_okQ {N : Nat} (h1 : 1 ≤ N) (h6 : N ≤ 6) : allOk (idM N) = true := by
 rw [idS_all h1 h6]
 refine allOk_true fun t ht => okB_iff.2 ?_
 rw [idS_len] at ht
 show (El.at NmE _ _).Ok
 unfold El.at idS
 rw [List.getD_eq_getElem?_getD, List.getElem?_map, List.getElem?_range ht]
 show (if t / N = t % N then Nm.one else Nm.zero : Nm).Ok
 split
 ·exact one_ok
 exact zero_ok
theorem itL_ok {N : Nat} {x : It} (h1 : 1 ≤ N) (h6 : N ≤ 6) (hf : fitB N x = true) : allOk (itL N x) = true := by
 unfold itL plcL
 exact plcS_okQ (own_ok x) (idM_okQ h1 h6) _ (by rw [ownL_len]; exact Nat.le_refl _)
theorem valid_of {N : Nat} {l : List Nm} (h1 : 1 ≤ N) (h6 : N ≤ 6) (hl : l.length = N * N) (ho : allOk l = true) : validB N l = true := by
 have e : ((N * N : Nat) : Int) = (N : Int) * N := Int.natCast_mul N N
 unfold validB
 simp only [Bool.and_eq_true, decide_eq_true_eq]
 exact ⟨by omega, by omega, by rw [hl]; omega, ho⟩
theorem mulM_good {N : Nat} {xs ys : List Nm} (h1 : 1 ≤ N) (h6 : N ≤ 6) (hlx : xs.length = N * N) (hly : ys.length = N * N) (hox : allOk xs = true) (hoy : allOk ys = true) : mulM N N xs ys = madeR N (mulF N xs ys) := by
 unfold mulM
 rw [valid_of h1 h6 hlx hox, valid_of h1 h6 hly hoy, Bool.and_self, if_pos rfl, if_pos rfl, Int.toNat_natCast]
theorem prodsR_okQ {x y : Nat → Nm} : ∀ n {z : Nm}, (∀ k, k < n → (x k).Ok) → (∀ k, k < n → (y k).Ok) → prodsR x y n = .ok z → z.Ok
  | 0, z, _, _, h => by cases h; exact zero_ok
  | n + 1, z, hx, hy, h => by
    simp only [prodsR] at h
    split at h
    · cases h
    · next s hs =>
      split at h
      · cases h
      · next p hp =>
        have hso := prodsR_okQ n (fun k hk => hx k Ox) (fun k hk => hy k Ox) hs
        exact (mk_ok (addR_k hso.k0) h).1
theorem madeR_allOk {N : Nat} {xs ys l : List Nm} (h6 : N ≤ 6) (hlx : xs.length = N * N) (hly : ys.length = N * N) (hox : allOk xs = true) (hoy : allOk ys = true) (h : madeR N (mulF N xs ys) = .ok l) : allOk l = true := by
 have hl := made_len h
 refine allOk_true fun t ht => okB_iff.2 ?_
 rw [hl] at ht
 have hg : mulF N xs ys (t / N) (t % N) = .ok (nm l t) := gather_get h t ht
 have hN : 0 < N := by
  rcases Nat.eq_zero_or_pos N with h0 | h0
  ·subst h0; simp at ht
  ·exact h0
 exact prodsR_okQ N (fun j hj => elemOk hox hlx (Nat.div_lt_of_lt_mul ht) hj) (fun j hj => elemOk hoy hly hj (Nat.mod_lt _ hN)) hg
theorem matS_good {N : Nat} {xs : List It} (h1 : 1 ≤ N) (h6 : N ≤ 6) (hf : ∀ j, j < xs.length → fitB N (it xs j) = true) : ∀ {j : Nat} {l : List Nm}, matS N xs j = .ok l → j ≤ xs.length → validB N l = true ∧ l.length = N * N ∧ allOk l = true ∧ l.length ≤ 36
  | 0, l, h, _ => by
    cases h
    have hl := idM_len h1 h6
    have ho := idM_okQ h1 h6
    exact ⟨valid_of h1 h6 hl ho, hl, ho, by rw [hl]; exact Nat.mul_le_mul h6 h6⟩
  | j + 1, l, h, hj => by
    simp only [matS] at h
    split at h
    · cases h
    · next l0 h0 =>
      obtain ⟨_, hl0, ho0, _⟩ := matS_good h1 h6 hf h0 Ox
      have hil := itL_len h1 h6 (it xs j)
      have hio := itL_ok h1 h6 (hf j Ox)
      rw [mulM_good h1 h6 hil hl0 hio ho0] at h
      have hl := made_len h
      have ho := madeR_allOk h6 hil hl0 hio ho0 h
      exact ⟨valid_of h1 h6 hl ho, hl, ho, by rw [hl]; exact Nat.mul_le_mul h6 h6⟩
theorem matO_code {n : Int} {xs : List It} {c : Int} (h : matO n xs = .error c) : c ≠ 0 := by
 unfold matO at h
 split at h
 ·exact matS_code h
 next hh => cases h; exact hh
theorem matO_len {n : Int} {xs : List It} {l : List Nm} (h : matO n xs = .ok l) : l.length ≤ 36 := by
 unfold matO at h
 split at h
 ·next hh =>
  obtain ⟨h1, h2, h3, h4⟩ := validB_all (itemE_zero hh)
  obtain ⟨N, rfl⟩ : ∃ N : Nat, n = N := ⟨n.toNat, by omega⟩
  rw [Int.toNat_natCast] at h
  exact (matS_good Ox Ox h4 h (Nat.le_refl _)).2.2.2
 cases h
def eqR (n : Int) (xs ys : List It) : Value :=
  if itemE n xs = 0 then (if itemE n ys = 0 then (match matO n xs with
    | .error c => .tuple #[.bool false, .int .i64 c]
    | .ok l => match matO n ys with
      | .error c => .tuple #[.bool false, .int .i64 c]
      | .ok m => .tuple #[.bool (decide (l = m)), .int .i64 0]) else .tuple #[.bool false, .int .i64 (itemE n ys)]) else .tuple #[.bool false, .int .i64 (itemE n xs)]
theorem eqR_1 {n : Int} {xs ys : List It} (h : itemE n xs ≠ 0) : eqR n xs ys = .tuple #[.bool false, .int .i64 (itemE n xs)] := by unfold eqR; rw [if_neg h]
theorem eqR_2 {n : Int} {xs ys : List It} (h : itemE n xs = 0) (h2 : itemE n ys ≠ 0) : eqR n xs ys = .tuple #[.bool false, .int .i64 (itemE n ys)] := by unfold eqR; rw [if_pos h, if_neg h2]
theorem eqR_3 {n : Int} {xs ys : List It} {c : Int} (h : itemE n xs = 0) (h2 : itemE n ys = 0) (h3 : matO n xs = .error c) : eqR n xs ys = .tuple #[.bool false, .int .i64 c] := by unfold eqR; rw [if_pos h, if_pos h2, h3]
theorem eqR_4 {n : Int} {xs ys : List It} {l : List Nm} {c : Int} (h : itemE n xs = 0) (h2 : itemE n ys = 0) (h3 : matO n xs = .ok l) (h4 : matO n ys = .error c) : eqR n xs ys = .tuple #[.bool false, .int .i64 c] := by unfold eqR; rw [if_pos h, if_pos h2, h3, h4]
theorem eqR_5 {n : Int} {xs ys : List It} {l m : List Nm} (h : itemE n xs = 0) (h2 : itemE n ys = 0) (h3 : matO n xs = .ok l) (h4 : matO n ys = .ok m) : eqR n xs ys = .tuple #[.bool (decide (l = m)), .int .i64 0] := by unfold eqR; rw [if_pos h, if_pos h2, h3, h4]
theorem list_ne {xs ys : List Nm} {i : Nat} (h : nm xs i ≠ nm ys i) : decide (xs = ys) = false := decide_eq_false fun e => h (by rw [e])
theorem list_nl {xs ys : List Nm} (h : xs.length ≠ ys.length) : decide (xs = ys) = false := decide_eq_false fun e => h (by rw [e])
theorem list_eq {xs ys : List Nm} (hl : xs.length = ys.length) (h : ∀ i, i < xs.length → nm xs i = nm ys i) : decide (xs = ys) = true := decide_eq_true (NmE.ext_at hl h)
theorem slEq_any (xs ys : List Nm) (a a' : Option Addr) (c c' : Nat) (hl : xs.length ≤ 1000000) (hl2 : ys.length ≤ 1000000) (w : World) (hA : AS w a (nms xs)) (hB : AS w a' (nms ys)) : Calls Tryz.prog 74 #[.slice a xs.length c, .slice a' ys.length c'] w fun e w' => e = .returned (.bool (decide (xs = ys))) ∧ Below w.heap.size w w' := by
 go_enter Tryz.func74, Tryz.ntmps74
 refine wk_start ?_
 refine wk_seq ?_
 refine Wx [0] ?_
 refine Zr ?_
 refine Wx [0, 0, 0, 0, 0] ?_
 refine rf_len rfl rfl rfl UU26 (Zx ?_)
 refine rf_len rfl rfl rfl UU26 (Nq ?_)
 refine rfb_neq rfl rfl rfl rfl ?_
 rintro (_ | _) h1 <;> try simp only [qd, ne_eq] at h1
 ·simp only [qz]
  refine Zr ?_; refine Wx [0, 0, 0] ?_; refine rf_len rfl rfl rfl UU26 (Zx ?_); refine Zr ?_; refine wk_loopF [4, 5, 13, 14, 15, 16, 17, 18, 19, 20, 21, 22, 23, 24, 25] (fun mz f s => ∃ (i : Nat), f 13 = .int .i64 i ∧ s = [] ∧ mz = xs.length - i ∧ i ≤ xs.length ∧ (∀ j, j < i → nm xs j = nm ys j)) ((fun (i : Nat) => xs.length - i) (0)) ?_ Kx ?_
  ·exact ⟨0, rfl, rfl, rfl, by omega, fun j hj => by omega⟩
  rintro mz f1 s ⟨i, hs1_13, rfl, hn, hd1, hd2⟩
  simp only [Act.putF, List.foldl_cons, List.foldl_nil, hs1_13, Act.put, Act.eval, qW, Nat.reduceAdd, Bool.not_true, Bool.not_false]; clear hs1_13; refine wk_seq ?_; refine Wr [0] ?_; refine rfb_lss rfl rfl rfl rfl ?_
  rintro (_ | _) h2 <;> try simp only [qd, ne_eq] at h2
  ·simp only [qz]
   refine Zr ?_; refine Wx [0] ?_; refine Zr ?_
   refine Er fun w hw => ?_
   (try simp only [qz])
   exact ⟨by rw [list_eq Ox (fun j hj => hd2 j Ox)], hw.below⟩
  simp only [qz]; refine Zr ?_; refine Wx [0, 0] ?_; refine Zr ?_
  obtain ⟨b, off, ha, hlt, hcell⟩ := AS.openN hA Ox
  obtain ⟨b', off', ha', hlt', hcell'⟩ := AS.openN hB Ox
  subst ha ha'
  refine wk_draws _ _ [(0, 0), (1, 0), (2, 0), (3, 0), (4, 0), (5, 0), (6, 0), (7, 0), (8, 0)] [] Kx Kx (fun c d v a w h => by cases d <;> exact h) (sn) (fun e => by first | exact absurd e (by decide) | rfl) ?_; simp only [List.map_cons, List.map_nil, List.getD_cons_zero, List.getD_cons_succ]; refine Zx ?_; refine rf_indexS (n := i) (sz := 5) (j := off + i * 5) rfl rfl rfl rfl UU26 Kx Ox Ox rfl (Nq ?_)
  refine rf_loadC (n := 5) (vs := [.int .i64 (nm xs i).a, .int .i64 (nm xs i).b, .int .i64 (nm xs i).c, .int .i64 (nm xs i).d, .int .i64 (nm xs i).k]) rfl rfl rfl UU44 rfl Kx rfl (fun w hw => atN_range ((hcell i Ox).kn hw hlt (by simp))) (Zx ?_); refine rf_indexS (n := i) (sz := 5) (j := off' + i * 5) rfl rfl rfl rfl UU26 Kx Ox Ox rfl (Nq ?_); refine rf_loadC (n := 5) (vs := [.int .i64 (nm ys i).a, .int .i64 (nm ys i).b, .int .i64 (nm ys i).c, .int .i64 (nm ys i).d, .int .i64 (nm ys i).k]) rfl rfl rfl UU44 rfl Kx rfl (fun w hw => atN_range ((hcell' i Ox).kn hw hlt' (by simp))) (Nq ?_)
  refine rfb_neN (nm xs i) (nm ys i) rfl rfl rfl rfl ?_
  rintro (_ | _) h3 <;> try simp only [qd, ne_eq] at h3
  ·simp only [qz]
   refine Zr ?_; refine Wr [0, 0] ?_; refine rf_add rfl rfl rfl rfl (wrap_ok Ox Ox) (Zx ?_); refine rg_nil ?_; refine ek_roundF (xs.length - (i + 1)) Ox Kx ?_
   exact ⟨i + 1, rfl, by rfl, by rfl, Ox, (fun j hj => by rcases (by omega : j < i ∨ j = i) with h | rfl; exact hd2 j h; exact h3)⟩
  simp only [qz]; refine Zr ?_; refine Wx [0] ?_; refine Zr ?_
  refine Er fun w hw => ?_
  (try simp only [qz])
  exact ⟨by rw [list_ne (i := i) h3], hw.below⟩
 simp only [qz]
 refine Zr ?_
 refine Wx [0] ?_
 refine Zr ?_
 refine Er fun w hw => ?_
 (try simp only [qz])
 exact ⟨by rw [list_nl Ox], hw.below⟩
set_option maxHeartbeats 2000000 in
theorem mequal_any (n : Int) (xs ys : List It) (a a' : Option Addr) (c c' : Nat) (w : World) (hA : AS w a (its xs)) (hB : AS w a' (its ys)) : Calls Tryz.prog 28 #[.int .i64 n, .slice a xs.length c, .slice a' ys.length c'] w fun e w' => e = .returned (eqR n xs ys) ∧ Below w.heap.size w w' := by
 go_enter Tryz.func28, Tryz.ntmps28
 refine wk_start ?_
 refine wk_seq ?_
 refine Wx [0, 0] ?_
 refine Zr ?_
 refine Wx [0, 0, 1, 0] ?_
 apply rg_pure Rx Kx
 case hargs => exact Ax
 case h => exact fun w hw => check_any xs a c n w (hA.kn0 hw)
 case hz => exact Nz
 refine Zx ?_
 refine Zr ?_
 refine Wx [0, 0] ?_
 refine rfb_neq rfl rfl rfl rfl ?_
 rintro (_ | _) h1 <;> try simp only [qd, ne_eq] at h1
 ·simp only [qz]
  have hx1 : itemE n xs = 0 := by simpa using h1
  replace hx1 := Lib.hid hx1
  clear h1; refine Zr ?_; refine Wx [0, 0, 1, 0] ?_; apply rg_pure Rx Kx
  case hargs => exact Ax
  case h => exact fun w hw => check_any ys a' c' n w (hB.kn0 hw)
  case hz => exact Nz
  refine Zx ?_; refine Zr ?_; refine Wx [0, 0] ?_; refine rfb_neq rfl rfl rfl rfl ?_
  rintro (_ | _) h2 <;> try simp only [qd, ne_eq] at h2
  ·simp only [qz]
   have hx2 : itemE n ys = 0 := by simpa using h2
   replace hx2 := Lib.hid hx2
   clear h2; refine Zr ?_; refine Wx [0, 0, 1, 0, 0, 0, 1, 1, 0] ?_
   apply (rg_retM (n := rN n.toNat (matO n xs)) (zs := rL (matO n xs)) (c := rC (matO n xs))) Rx Kx
   case hargs => exact Ax
   case h => exact fun w hw => matrixOf_any n xs a c w (hA.kn0 hw)
   case hz => exact Nz
   intro va1 vc1 u1 hO1; refine Zx ?_
   refine Rgn fun g2 => ?_
   simp only [qz]; refine rf_storeR (n := 2) rfl rfl Kx rfl rfl (UpdR.here _ _ _ Nl) Nz (Nw ?_); refine Zx ?_; refine Zr ?_; refine Wx [0, 0] ?_; refine rfb_neq rfl rfl rfl rfl ?_
   rintro (_ | _) h3 <;> try simp only [qd, ne_eq] at h3
   ·simp only [qz]
    obtain ⟨l1, hm1⟩ := rC_ok (r := matO n xs) (fun c h => matO_code h) (by simpa using h3)
    clear h3
    have hm1l := matO_len hm1
    rw [hm1] at hO1; rw [hm1]
    replace hm1 := Lib.hid hm1
    simp only [rN, rL, rC] at hO1 ⊢; refine Zr ?_; refine Wx [0, 0, 1, 0, 0, 0, 1, 1, 0] ?_
    apply (rg_retM (n := rN n.toNat (matO n ys)) (zs := rL (matO n ys)) (c := rC (matO n ys))) Rx Kx
    case hargs => exact Ax
    case h => exact fun w hw => matrixOf_any n ys a' c' w (hB.kn0 hw)
    case hz => exact Nz
    intro va3 vc3 u3 hO3; refine Zx ?_
    refine Rgn fun g4 => ?_
    simp only [qz]; refine rf_storeR (n := 2) rfl rfl Kx rfl rfl (UpdR.here _ _ _ Nl) Nz (Nw ?_); refine Zx ?_; refine Zr ?_; refine Wx [0, 0] ?_; refine rfb_neq rfl rfl rfl rfl ?_
    rintro (_ | _) h4 <;> try simp only [qd, ne_eq] at h4
    ·simp only [qz]
     obtain ⟨l2, hm2⟩ := rC_ok (r := matO n ys) (fun c h => matO_code h) (by simpa using h4)
     clear h4
     have hm2l := matO_len hm2
     rw [hm2] at hO3; rw [hm2]
     replace hm2 := Lib.hid hm2
     simp only [rN, rL, rC] at hO3 ⊢; refine Zr ?_; refine Wr [0, 0, 0, 0, 1, 0, 0] ?_; refine Fd 0 1 UU28 ?_; refine rf_load rfl rfl rfl UU26 rfl (fun w hw => (Kn.hd0 (Kn.tlU (Kn.tl hw))).at rfl) (Nq ?_); refine Fd 0 1 UU28 ?_; refine rf_load rfl rfl rfl UU26 rfl (fun w hw => (Kn.hd0 hw).at rfl) (Nq ?_); apply rg_pure Rx Kx
     case hargs => exact Ax
     case h => exact fun w hw => slEq_any l1 l2 va1 va3 vc1 vc3 Ox Ox w (hO1.asM (hw.perm ((((((((List.Perm.refl _).cons _).trans (List.perm_middle (l₁ := u1)).symm).append_left _).trans (List.perm_append_comm_assoc u3 u1 _)).cons _).trans (List.perm_middle (l₁ := u1)).symm).trans ((List.Perm.refl _).append_left _)))) (hO3.asM (hw.perm (perm_atU (l := [_]) (u := u3) (List.Perm.refl _))))
     case hz => exact Nz
     refine Zx ?_; refine Zr ?_; refine ek_ret (fun w hw => ⟨rfl, _, res_tt _ _ rfl, ?_⟩); (try simp only [qz])
     exact ⟨by rw [eqR_5 hx1.out hx2.out hm1.out hm2.out], hw.below⟩
    simp only [qz]
    obtain ⟨cc, hm2⟩ := rC_err (r := matO n ys) (by simpa using h4)
    refine Zr ?_; refine Wx [0, 0, 0] ?_; refine Zr ?_; refine ek_ret (fun w hw => ⟨rfl, _, res_tt _ _ rfl, ?_⟩); (try simp only [qz])
    exact ⟨by rw [eqR_4 hx1.out hx2.out hm1.out hm2, hm2]; rfl, hw.below⟩
   simp only [qz]
   obtain ⟨cc, hm1⟩ := rC_err (r := matO n xs) (by simpa using h3)
   refine Zr ?_; refine Wx [0, 0, 0] ?_; refine Zr ?_; refine ek_ret (fun w hw => ⟨rfl, _, res_tt _ _ rfl, ?_⟩); (try simp only [qz])
   exact ⟨by rw [eqR_3 hx1.out hx2.out hm1, hm1]; rfl, hw.below⟩
  simp only [qz]
  have hx2 : itemE n ys ≠ 0 := by simpa using h2
  replace hx2 := Lib.hid hx2
  clear h2; refine Zr ?_; refine Wx [0, 0, 0] ?_; refine Zr ?_; refine ek_ret (fun w hw => ⟨rfl, _, res_tt _ _ rfl, ?_⟩); (try simp only [qz])
  exact ⟨by rw [eqR_2 hx1.out hx2.out], hw.below⟩
 simp only [qz]
 have hx1 : itemE n xs ≠ 0 := by simpa using h1
 replace hx1 := Lib.hid hx1
 clear h1
 refine Zr ?_
 refine Wx [0, 0, 0] ?_
 refine Zr ?_
 refine ek_ret (fun w hw => ⟨rfl, _, res_tt _ _ rfl, ?_⟩)
 (try simp only [qz])
 exact ⟨by rw [eqR_1 hx1.out], hw.below⟩
theorem rSameM_eq (n : Int) (xs : List Nm) (a a' : Option Addr) (c c' : Nat) (hl : xs.length ≤ 1000000) (w : World) (hA : AS w a (nms xs)) (hB : AS w a' (nms xs)) : Calls Tryz.prog 22 #[.agg #[.int .i64 n, .slice a xs.length c], .agg #[.int .i64 n, .slice a' xs.length c']] w fun e w' => e = .returned (.bool true) ∧ Below w.heap.size w w' := by
 go_enter Tryz.func22, Tryz.ntmps22
 refine wk_start ?_
 refine wk_seq ?_
 refine Wr [1, 1, 0] ?_
 refine Rgn fun g1 => ?_
 simp only [qz]
 refine Rgn fun g2 => ?_
 refine Zx ?_
 refine Zr ?_
 refine Wr [0, 0, 0, 0, 0, 0, 0, 0, 0, 0, 0, 0, 0, 0] ?_
 refine Fd 0 0 UU28 ?_
 refine rf_load rfl rfl rfl UU3 rfl (fun w hw => (Kn.hd0 (Kn.tl hw)).at rfl) (Nq ?_)
 refine Fd 0 0 UU28 ?_
 refine rf_load rfl rfl rfl UU3 rfl (fun w hw => (Kn.hd0 hw).at rfl) (Nq ?_)
 refine rfb_neq rfl rfl rfl rfl ?_
 intro x h1
 obtain rfl : x = false := by (refine h1.symm.trans ?_; exact decide_eq_false Ox)
 clear h1
 refine Zx ?_
 refine Fd 0 1 UU28 ?_
 refine rf_load rfl rfl rfl UU26 rfl (fun w hw => (Kn.hd0 (Kn.tl hw)).at rfl) (Nq ?_)
 refine rf_len rfl rfl rfl UU26 (Nq ?_)
 refine Fd 0 1 UU28 ?_
 refine rf_load rfl rfl rfl UU26 rfl (fun w hw => (Kn.hd0 hw).at rfl) (Nq ?_)
 refine rf_len rfl rfl rfl UU26 (Nq ?_)
 refine rfb_neq rfl rfl rfl rfl ?_
 intro x h2
 obtain rfl : x = false := by (refine h2.symm.trans ?_; exact decide_eq_false Ox)
 clear h2
 refine Zx ?_
 refine Zr ?_
 refine Wx [0] ?_
 refine Zr ?_
 refine wk_loopF [4, 5, 20, 21, 22, 23, 24, 25, 26, 27, 28, 29, 30, 31, 32, 33, 34, 35, 36, 37] (fun mz f s => ∃ (i : Nat), f 5 = .int .i64 i ∧ s = ((g2, .cells #[.int .i64 n, .slice a' xs.length c'] 28) :: ((g1, .cells #[.int .i64 n, .slice a xs.length c] 28) :: [])) ∧ mz = xs.length - i ∧ i ≤ xs.length) ((fun (i : Nat) => xs.length - i) (0)) ?_ Kx ?_
 ·exact ⟨0, rfl, rfl, rfl, by omega⟩
 rintro mz f1 s ⟨i, hs1_5, rfl, hn, hd1⟩
 simp only [Act.putF, List.foldl_cons, List.foldl_nil, hs1_5, Act.put, Act.eval, qW, Nat.reduceAdd, Bool.not_true, Bool.not_false]
 clear hs1_5
 refine wk_seq (wk_seq ?_)
 refine Wx [0, 0, 0, 0, 0] ?_
 refine Fd 0 1 UU28 ?_
 refine rf_load rfl rfl rfl UU26 rfl (fun w hw => (Kn.hd0 (Kn.tl hw)).at rfl) (Nq ?_)
 refine rf_len rfl rfl rfl UU26 (Nq ?_)
 refine rfb_lss rfl rfl rfl rfl ?_
 rintro (_ | _) h3 <;> try simp only [qd, ne_eq] at h3
 ·simp only [qz]
  refine Zr ?_; refine Wx [0] ?_; refine Zr ?_
  refine Er fun w hw => ?_
  (try simp only [qz])
  first | exact ⟨rfl, hw.below⟩ | exact ⟨trivial, hw.below⟩ | exact hw.below
 simp only [qz]
 refine Zr ?_
 obtain ⟨b, off, ha, hlt, hcell⟩ := AS.openN hA Ox
 obtain ⟨b', off', ha', hlt', hcell'⟩ := AS.openN hB Ox
 subst ha ha'
 refine wk_draws _ _ [(0, 0), (1, 0), (2, 0), (3, 0), (4, 0), (5, 0), (6, 0), (7, 0), (8, 0), (9, 0), (10, 0)] [] Kx Kx (fun c d v a w h => by cases d <;> exact h) ((sc _ (sc _ sn))) (fun e => by first | exact absurd e (by decide) | rfl) ?_
 simp only [List.map_cons, List.map_nil, List.getD_cons_zero, List.getD_cons_succ]
 refine Fd 0 1 UU28 ?_
 refine rf_load rfl rfl rfl UU26 rfl (fun w hw => (Kn.hd0 (Kn.tl hw)).at rfl) (Zx ?_)
 refine rf_indexS (n := i) (sz := 5) (j := off + i * 5) rfl rfl rfl rfl UU26 Kx Ox Ox rfl (Nq ?_)
 refine rf_loadC (n := 5) (vs := [.int .i64 (nm xs i).a, .int .i64 (nm xs i).b, .int .i64 (nm xs i).c, .int .i64 (nm xs i).d, .int .i64 (nm xs i).k]) rfl rfl rfl UU44 rfl Kx rfl (fun w hw => atN_range ((hcell i Ox).kn hw hlt (by simp))) (Nq ?_)
 refine Fd 0 1 UU28 ?_
 refine rf_load rfl rfl rfl UU26 rfl (fun w hw => (Kn.hd0 hw).at rfl) (Zx ?_)
 refine rf_indexS (n := i) (sz := 5) (j := off' + i * 5) rfl rfl rfl rfl UU26 Kx Ox Ox rfl (Nq ?_)
 refine rf_loadC (n := 5) (vs := [.int .i64 (nm xs i).a, .int .i64 (nm xs i).b, .int .i64 (nm xs i).c, .int .i64 (nm xs i).d, .int .i64 (nm xs i).k]) rfl rfl rfl UU44 rfl Kx rfl (fun w hw => atN_range ((hcell' i Ox).kn hw hlt' (by simp))) (Nq ?_)
 refine rfb_neN (nm xs i) (nm xs i) rfl rfl rfl rfl ?_
 rintro (_ | _) h4 <;> try simp only [qd, ne_eq] at h4
 ·simp only [qz]
  refine Zr ?_; refine Wx [0, 0, 0] ?_; refine rf_add rfl rfl rfl rfl (wrap_ok Ox Ox) (Zx ?_); refine rg_nil ?_; refine ek_roundF (xs.length - (i + 1)) Ox Kx ?_
  exact ⟨i + 1, rfl, by rfl, by rfl, Ox⟩
 simp only [qz]
 simp at h4
open Go.ChangeShapes Go.WideShapes Go.ChangeAt Go.RowKit
theorem its_of_each {Q : Nat → It → Prop} : ∀ n : Nat, (∀ i, i < n → ∃ x, Q i x) → ∃ xs : List It, xs.length = n ∧ ∀ i, i < n → Q i (it xs i)
  | 0, _ => ⟨[], rfl, fun i hi => by omega⟩
  | n + 1, h => by
    obtain ⟨xs, hl, hx⟩ := its_of_each n fun i hi => h i Ox
    obtain ⟨x, hq⟩ := h n Ox
    refine ⟨xs ++ [x], by simp [hl], fun i hi => ?_⟩
    by_cases e : i = n
    · subst e
      have : it (xs ++ [x]) i = x := by unfold it; rw [List.getD_eq_getElem?_getD, ← hl]; simp
      rw [this]; exact hq
    · have : it (xs ++ [x]) i = it xs i := by unfold it; rw [List.getD_eq_getElem?_getD, List.getD_eq_getElem?_getD, List.getElem?_append_left Ox]
      rw [this]; exact hx i Ox
theorem cellsIT : Tryz.prog.cellsOf 72 = 4 := by kernel_rfl
theorem cellsInt : Tryz.prog.cellsOf 3 = 1 := by kernel_rfl
theorem cellsStr : Tryz.prog.cellsOf 9 = 1 := by kernel_rfl
def ItWf (i : It) : Prop := (Lit.int .i64 i.kind).wf = true ∧ (Lit.int .i64 i.at_).wf = true ∧ (Lit.int .i64 i.n).wf = true ∧ i.name.size ≤ maxLen
theorem open_asT {H : Type} {enc : TypeId × Value → H} {W : World} {base : Nat} {v : Value} {d : DataW H} {p : List MemPlace}
    (hval : Value.okWide Tryz.prog W .any base 22 v) (h : DataW.Trod enc Tryz.prog W 0 (fun _ => true) true 22 v d p) (hlt : ∀ x ∈ p, x.block < W.heap.size) :
    ∃ (xs : List It) (a : Option Addr) (c : Nat), v = .slice a xs.length c ∧ AS W a (its xs) ∧ (∀ x ∈ xs, ItWf x) ∧ xs.length ≤ maxLen := by
  obtain ⟨a0, len, cap, rfl⟩ := okWide_slice UU22 hval
  obtain ⟨fuel, hf⟩ := h
  rcases Go.Deep.open_slice UU22 hf with ⟨hcs, hx⟩ | ⟨a, len', cap', m, n, D, Pl, hcs, _, hl, hm, hmm, hx, hel⟩
  · simp [Value.cells] at hcs
    obtain ⟨rfl, rfl, rfl⟩ := hcs
    exact ⟨[], none, 0, rfl, AS.nil, by simp, by simp⟩
  · simp [Value.cells] at hcs
    obtain ⟨rfl, rfl, rfl⟩ := hcs
    simp only [Prod.mk.injEq] at hx
    obtain ⟨rfl, rfl⟩ := hx
    simp only [if_true] at hmm
    subst hmm
    have each : ∀ i, i < len → ∃ x : It, (∀ r, r < 4 → W.cell? ((a.add (i * 4)).add r) = (itC x)[r]?) ∧ ItWf x := by
      intro i hi
      obtain ⟨cs', h1, h2⟩ := hel i Ox
      rw [cellsIT] at h1
      obtain ⟨_, hlen, hcell⟩ := World.cells?_some h1
      obtain ⟨y0, y1, y2, y3, k, _, hl4, t0, t1, t2, t3⟩ := Go.Joins.trod_struct4 UU72 h2
      match cs', hlen with
      | [v0, v1, v2, v3], _ =>
        simp only [cellsInt, cellsStr, List.drop_succ_cons, List.drop_zero, List.take_succ_cons, List.take_zero] at t0 t1 t2 t3
        obtain ⟨n0, e0, -, w0⟩ := DataW.trod_int UU3 t0
        obtain ⟨n1, e1, -, w1⟩ := DataW.trod_int UU3 t1
        obtain ⟨n2, e2, -, w2⟩ := DataW.trod_int UU3 t2
        obtain ⟨s3, e3, -, w3⟩ := DataW.trod_string Tryz.underlying9 t3
        simp only [List.cons.injEq, and_true] at e0 e1 e2 e3
        subst e0 e1 e2 e3
        exact ⟨⟨n0, n1, n2, s3⟩, fun r hr => hcell r hr, w0, w1, w2, w3⟩
    obtain ⟨xs, hxl, hxx⟩ := its_of_each len each
    subst hxl
    refine ⟨xs, some a, _, rfl, fun hne => ?_, fun x hx => ?_, by omega⟩
    · have h0 : 0 < xs.length := by
        rcases Nat.eq_zero_or_pos xs.length with h0 | h0
        · have := List.eq_nil_of_length_eq_zero h0; subst this; exact absurd rfl hne
        · exact h0
      obtain ⟨b, off, spot⟩ := a
      have hspot : spot = none := by
        have h1 := (hxx 0 h0).1 0 Ox
        have h2 : W.cell? (((⟨b, off, spot⟩ : Addr).add (0 * 4)).add 0) = some (.int .i64 (it xs 0).kind) := h1
        simpa [Addr.add] using World.cell?_spot h2
      subst hspot
      refine ⟨b, off, rfl, hlt (.cell b off) (List.mem_append_left _ (MemPlace.mem_row.2 ⟨0, by rw [cellsIT]; omega, by simp⟩)), fun j hj => ?_⟩; rw [its_len] at hj
      have h1 := (hxx (j / 4) Ox).1 (j % 4) (Nat.mod_lt _ Ox)
      have h2 := its_get xs (j / 4) (j % 4) Ox (Nat.mod_lt _ Ox)
      have e : j / 4 * 4 + j % 4 = j := by omega
      rw [e] at h2; rw [h2, ← h1]
      have e2 : ((⟨b, off, none⟩ : Addr).add (j / 4 * 4)).add (j % 4) = ⟨b, off + j, none⟩ := by
        have ap : ∀ o i : Nat, (⟨b, o, none⟩ : Addr).add i = ⟨b, o + i, none⟩ := fun o i => by simp [Addr.add]
        rw [ap, ap, show off + j / 4 * 4 + j % 4 = off + j by omega]
      rw [e2]
    · obtain ⟨j, hj, e⟩ := List.getElem_of_mem hx
      have : it xs j = x := by unfold it; rw [List.getD_eq_getElem?_getD, List.getElem?_eq_getElem hj]; exact e
      rw [← this]; exact (hxx j hj).2
namespace Mul64
theorem maskN (a : Nat) (ha : a < 18446744073709551616) : bits .and .u64 (a : Int) 4294967295 = ((a % 4294967296 : Nat) : Int) := by
 have h := bits_and_u64_nat a 4294967295 ha Ox
 have e : a &&& 4294967295 = a % 4294967296 := Nat.and_two_pow_sub_one_eq_mod a 32
 rw [e] at h
 exact h
theorem divN (a : Nat) : (a : Int) / 4294967296 = ((a / 4294967296 : Nat) : Int) := by omega
theorem mulN (a b : Nat) : (a : Int) * (b : Int) = ((a * b : Nat) : Int) := (Int.natCast_mul a b).symm
theorem addN (a b : Nat) : (a : Int) + (b : Int) = ((a + b : Nat) : Int) := (Int.natCast_add a b).symm
theorem wrapN (a : Nat) (ha : a < 18446744073709551616) : IntKind.u64.wrap (a : Int) = (a : Int) := by rw [IntKind.wrap_u64]; omega
theorem wrapM (a : Nat) : IntKind.u64.wrap (a : Int) = ((a % 18446744073709551616 : Nat) : Int) := by rw [IntKind.wrap_u64]; omega
end Mul64
theorem mul64_nat (x y : Nat) (hx : x < 18446744073709551616) (hy : y < 18446744073709551616) (w : World) :
    Calls Tryz.prog 155 #[.int .u64 x, .int .u64 y] w fun e w' => e = .returned (.tuple #[.int .u64 ((x * y / 18446744073709551616 : Nat) : Int), .int .u64 ((x * y % 18446744073709551616 : Nat) : Int)]) ∧ w = w' := by
  obtain ⟨bd, bt, bw, hhi⟩ := Lib.mul64_hi x y hx hy
  have ba := Lib.half_mul_le (a := x / 4294967296) (b := y / 4294967296) Ox Ox
  have bb := Lib.half_mul_le (a := x / 4294967296) (b := y % 4294967296) Ox Ox
  have bc := Lib.half_mul_le (a := x % 4294967296) (b := y / 4294967296) Ox Ox
  have ba' : x / 4294967296 * (y / 4294967296) < 18446744073709551616 := by omega
  have bb' : x / 4294967296 * (y % 4294967296) < 18446744073709551616 := by omega
  have bc' : x % 4294967296 * (y / 4294967296) < 18446744073709551616 := by omega
  have bh1 : x / 4294967296 * (y / 4294967296) + (x / 4294967296 * (y % 4294967296) + x % 4294967296 * (y % 4294967296) / 4294967296) / 4294967296 < 18446744073709551616 := by omega
  have bh : x / 4294967296 * (y / 4294967296) + (x / 4294967296 * (y % 4294967296) + x % 4294967296 * (y % 4294967296) / 4294967296) / 4294967296 + ((x / 4294967296 * (y % 4294967296) + x % 4294967296 * (y % 4294967296) / 4294967296) % 4294967296 + x % 4294967296 * (y / 4294967296)) / 4294967296 < 18446744073709551616 := by omega
  go_enter Tryz.func155, Tryz.ntmps155
  go_wp2
  simp only [Mul64.maskN x hx, Mul64.maskN y hy, Mul64.divN, Mul64.mulN, Mul64.addN, Mul64.wrapN _ bd, Mul64.wrapN _ bb', Mul64.wrapN _ bt, Mul64.maskN _ bt, Mul64.wrapN _ bc', Mul64.wrapN _ bw, Mul64.wrapN _ ba', Mul64.wrapN _ bh1, Mul64.wrapN _ bh, Mul64.wrapM (x * y)]; rw [hhi]
  go_ret2
  exact ⟨rfl, rfl⟩
theorem mul64_any (x y : Int) (hx0 : 0 ≤ x) (hx : x ≤ 18446744073709551615) (hy0 : 0 ≤ y) (hy : y ≤ 18446744073709551615) (w : World) :
    Calls Tryz.prog 155 #[.int .u64 x, .int .u64 y] w fun e w' => e = .returned (.tuple #[.int .u64 (x * y / 18446744073709551616), .int .u64 (x * y % 18446744073709551616)]) ∧ w = w' := by
  obtain ⟨a, rfl⟩ := Int.eq_ofNat_of_zero_le hx0
  obtain ⟨b, rfl⟩ := Int.eq_ofNat_of_zero_le hy0
  refine (mul64_nat a b Ox Ox w).mono fun e w' ⟨he, hw⟩ => ⟨?_, hw⟩
  rw [he]
  simp
end Go.Proofs.YthjjkajjpejcdaaGreat
