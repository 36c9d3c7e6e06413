/- Arguments that hold whole numbers alone: their readings do not depend on the world. -/
import Derived.Test.YtpbbbfglecbceaaEn5
import Derived.ProofKit
import Derived.OpenShut
import Derived.ChangeSame
namespace Go.Proofs.Ytpbbbfglecbceaa
set_option linter.all false
open Go.ChangeShapes Go.WideShapes Go.ChangeAt Go.RowKit

section
variable {H : Type} {enc : TypeId × Value → H} {P : Program}

/-- A type whose values are rows of whole numbers. -/
def flatInt (P : Program) : Nat → TypeId → Bool
  | 0, _ => false
  | n + 1, t => match P.underlying t with
    | some (.int _) => true
    | some (.struct fs) => fs.toList.all fun f => flatInt P n f.type
    | some (.array _ e) => flatInt P n e
    | _ => false

theorem mapM_imp {α β : Type} {f g : α → Option β} : ∀ {l : List α} {ys : List β}, l.mapM f = some ys → (∀ a, a ∈ l → ∀ y, f a = some y → g a = some y) → l.mapM g = some ys
  | [], ys, h, _ => by simpa using h
  | a :: l, ys, h, k => by
    simp only [List.mapM_cons, Option.pure_def, Option.bind_eq_bind, Option.bind_eq_some_iff] at h ⊢
    obtain ⟨y, hy, zs, hz, e⟩ := h
    exact ⟨y, k a (by simp) y hy, zs, mapM_imp hz (fun b hb => k b (by simp [hb])), e⟩
theorem mapM_all {α β : Type} {f : α → Option β} {p : β → Prop} : ∀ {l : List α} {ys : List β}, l.mapM f = some ys → (∀ a, a ∈ l → ∀ y, f a = some y → p y) → ∀ y, y ∈ ys → p y
  | [], ys, h, _ => by
    simp at h
    subst h
    simp
  | a :: l, ys, h, k => by
    simp only [List.mapM_cons, Option.pure_def, Option.bind_eq_bind, Option.bind_eq_some_iff] at h
    obtain ⟨y, hy, zs, hz, e⟩ := h
    simp at e
    subst e
    intro z hz'
    simp at hz'
    rcases hz' with rfl | hz'
    · exact k a (by simp) _ hy
    · exact mapM_all hz (fun b hb => k b (by simp [hb])) z hz'
theorem flatMap_nil {α β : Type} {l : List (α × List β)} (h : ∀ y, y ∈ l → y.2 = []) : l.flatMap (·.2) = [] := by
  simp only [List.flatMap_eq_nil_iff]
  exact h

theorem trod_struct_open {w : World} {base : Nat} {spare : Nat → Bool} {held : Bool} {m : Nat} {t : TypeId} {fs : Array Field} {cs : List Value} {x : DataW H × List MemPlace} (ht : P.underlying t = some (.struct fs)) (h : DataW.trod enc P w base spare held (m + 1) t cs = some x) :
    ∃ xs : List (DataW H × List MemPlace), cs.length = P.cellsOf t ∧ fs.toList.mapM (fun f => DataW.trod enc P w base spare held m f.type ((cs.drop f.offset).take (P.cellsOf f.type))) = some xs ∧ x = (.agg (xs.map (·.1)), xs.flatMap (·.2)) := by
  unfold DataW.trod at h
  rw [ht] at h
  split at h <;> simp_all
  obtain ⟨hl, xs, hp, hd⟩ := h
  exact ⟨xs, hp, hd.symm⟩
theorem trod_array_open {w : World} {base : Nat} {spare : Nat → Bool} {held : Bool} {m : Nat} {t k e : Nat} {cs : List Value} {x : DataW H × List MemPlace} (ht : P.underlying t = some (.array k e)) (h : DataW.trod enc P w base spare held (m + 1) t cs = some x) :
    ∃ xs : List (DataW H × List MemPlace), cs.length = P.cellsOf t ∧ (List.range k).mapM (fun i => DataW.trod enc P w base spare held m e ((cs.drop (i * P.cellsOf e)).take (P.cellsOf e))) = some xs ∧ x = (.agg (xs.map (·.1)), xs.flatMap (·.2)) := by
  unfold DataW.trod at h
  rw [ht] at h
  split at h <;> simp_all
  obtain ⟨hl, xs, hp, hd⟩ := h
  exact ⟨xs, hp, hd.symm⟩
theorem trod_array_mk {w : World} {base : Nat} {spare : Nat → Bool} {held : Bool} {m : Nat} {t k e : Nat} {cs : List Value} {xs : List (DataW H × List MemPlace)} (ht : P.underlying t = some (.array k e)) (hl : cs.length = P.cellsOf t)
    (hp : (List.range k).mapM (fun i => DataW.trod enc P w base spare held m e ((cs.drop (i * P.cellsOf e)).take (P.cellsOf e))) = some xs) :
    DataW.trod enc P w base spare held (m + 1) t cs = some (.agg (xs.map (·.1)), xs.flatMap (·.2)) := by
  unfold DataW.trod
  rw [ht]
  split <;> simp_all

theorem trod_flat : ∀ (n : Nat) (t : TypeId) (fuel : Nat) (cs : List Value) (x : DataW H × List MemPlace) (w : World) (base : Nat) (spare : Nat → Bool) (held : Bool), flatInt P n t = true →
    DataW.trod enc P w base spare held fuel t cs = some x → x.2 = [] ∧ ∀ w' base' spare' held', DataW.trod enc P w' base' spare' held' fuel t cs = some x
  | 0, _, _, _, _, _, _, _, _, h, _ => by simp [flatInt] at h
  | n + 1, t, fuel, cs, x, w, base, spare, held, hf, h => by
    unfold flatInt at hf
    cases hu : P.underlying t with
    | none => rw [hu] at hf; simp at hf
    | some d =>
      rw [hu] at hf
      cases d with
      | int k =>
        obtain ⟨v, rfl, rfl, hw⟩ := DataW.trod_int hu h
        refine ⟨rfl, fun w' base' spare' held' => ?_⟩
        cases fuel with
        | zero => simp [DataW.trod] at h
        | succ m => simp [DataW.trod, hu, hw]
      | struct fs =>
        simp only [List.all_eq_true] at hf
        cases fuel with
        | zero => simp [DataW.trod] at h
        | succ m =>
          obtain ⟨xs, hl, hp, rfl⟩ := trod_struct_open hu h
          refine ⟨flatMap_nil (mapM_all hp (fun f hf' y hy => (trod_flat n _ m _ y w base spare held (hf f hf') hy).1)), fun w' base' spare' held' => ?_⟩
          exact trod_struct_mk hu hl (mapM_imp hp (fun f hf' y hy => (trod_flat n _ m _ y w base spare held (hf f hf') hy).2 w' base' spare' held'))
      | array k e =>
        simp only at hf
        cases fuel with
        | zero => simp [DataW.trod] at h
        | succ m =>
          obtain ⟨xs, hl, hp, rfl⟩ := trod_array_open hu h
          refine ⟨flatMap_nil (mapM_all hp (fun f hf' y hy => (trod_flat n _ m _ y w base spare held hf hy).1)), fun w' base' spare' held' => ?_⟩
          exact trod_array_mk hu hl (mapM_imp hp (fun f hf' y hy => (trod_flat n _ m _ y w base spare held hf hy).2 w' base' spare' held'))
      | _ => simp at hf

theorem trodAll_flat {n : Nat} : ∀ {ts : List TypeId} {vs : List Value} {ds : List (DataW H)} {p : List MemPlace} {w : World} {base : Nat} {spare : Nat → Bool} {held : Bool}, ts.all (flatInt P n) = true →
    DataW.TrodAll enc P w base spare held ts vs ds p → p = [] ∧ ∀ w' base' spare' held', DataW.TrodAll enc P w' base' spare' held' ts vs ds []
  | [], [], [], p, w, base, spare, held, _, h => ⟨h, fun _ _ _ _ => rfl⟩
  | t :: ts, v :: vs, d :: ds, p, w, base, spare, held, ht, h => by
    simp only [List.all_cons, Bool.and_eq_true] at ht
    obtain ⟨p1, p2, ⟨fuel, h1⟩, h2, rfl⟩ := h
    obtain ⟨e1, k1⟩ := trod_flat n t fuel _ _ w base spare held ht.1 h1
    obtain ⟨e2, k2⟩ := trodAll_flat ht.2 h2
    simp only at e1
    subst e1 e2
    exact ⟨rfl, fun w' base' spare' held' => ⟨[], [], ⟨fuel, k1 w' base' spare' held'⟩, k2 w' base' spare' held', rfl⟩⟩
  | [], _ :: _, _, _, _, _, _, _, _, h => by simp [DataW.TrodAll] at h
  | [], [], _ :: _, _, _, _, _, _, _, h => by simp [DataW.TrodAll] at h
  | _ :: _, [], _, _, _, _, _, _, _, h => by simp [DataW.TrodAll] at h
  | _ :: _, _ :: _, [], _, _, _, _, _, _, h => by simp [DataW.TrodAll] at h

/-- 'post_of_same' where the arguments hold whole numbers alone: the blocks that are new may be anything. -/
theorem post_flat {f : Func} {s : ChangeSpec} {apart fresh handsOn again : Bool} {W W' : World} {args : Array Value} {v : Value} {ds gs : List (DataW H)}
    (hW : DataW.Whole enc P f.params.toList s.vars apart W args.toList ds gs [])
    (hres : ∀ (b : Nat) (sp : Nat → Bool) (hd : Bool), DataW.TrodAll enc P W' b sp hd f.resultTypes.toList (v.resultList f.resultTypes.size) (s.fn H (ds ++ gs)).results [])
    (hargs : ∀ sp : Nat → Bool, DataW.TrodAll enc P W' 0 sp true f.params.toList args.toList (s.fn H (ds ++ gs)).args [])
    (hvars : ∀ sp : Nat → Bool, DataW.TrodVars enc P W' sp s.vars (s.fn H (ds ++ gs)).vars [])
    (hb : Below W.heap.size W W')
    (hok : ∀ (j : Nat) (t : TypeId) (r : Value), f.resultTypes[j]? = some t → (v.resultList f.resultTypes.size)[j]? = some r → Value.okWide P W' .any 0 t r) :
    s.post enc P f apart fresh handsOn again W args v W' := by
  refine ⟨ds, gs, [], [], [], [], hW, hres _ _ _, hargs _, hvars _, World.keptBut_mono (fun p hp => ⟨hp, by simp at hp⟩) (hb.frame (· ∈ [])), fun _ => ?_⟩
  refine ⟨hok, _, _, ([] ++ []) ++ [], ⟨[] ++ [], [], trodAll_append (hargs _) (hres _ _ _), hvars _, rfl, ?_, ?_⟩, ?_⟩
  · intro b off hp
    simp at hp
  · intro _
    simp
  · intro p hp _
    simp at hp

/-- The cells of a row of whole numbers. -/
theorem row_ints {w : World} {r : Reach} {b0 t : Nat} {cs : Array Value} {u : Nat} {m : Nat} (hts : P.cellTypes P.depth t = some (List.replicate m u)) (hu : P.underlying u = some (.int .i64)) (h : Row.okWide P w r b0 t cs) (i : Nat) (v : Value) (hv : cs[i]? = some v) : ∃ n, v = .int .i64 n := by
  obtain ⟨ts, h1, _, h3⟩ := h
  rw [hts] at h1
  cases h1
  obtain ⟨u', h4, h5⟩ := h3 i v hv
  have hu' : u' = u := by
    have := List.mem_of_getElem? h4
    exact List.eq_of_mem_replicate this
  subst hu'
  exact okWide_int (w := w) (r := r) (base := b0) hu (by simp only [Value.okWide, hu]; exact h5)
end

set_option maxRecDepth 20000 in
theorem open_rect {w : World} {r : Reach} {b0 : Nat} {v : Value} (h : Value.okWide Try.prog w r b0 25 v) : ∃ x : En.Rc, v = rcV x := by
  simp only [Value.okWide, Try.underlying25] at h
  obtain ⟨cs, rfl, hs, hr⟩ := h
  have hs' : cs.size = 4 := hs.trans (by kernel_rfl)
  have k := row_ints (u := 3) (m := 4) (by kernel_rfl) Try.underlying3 hr
  have g : ∀ i, i < 4 → ∃ n, cs[i]? = some (.int .i64 n) := fun i hi => by
    obtain ⟨n, hn⟩ := k i cs[i] (by simp [hs', hi])
    exact ⟨n, by simp [hs', hi, hn]⟩
  obtain ⟨a, ha⟩ := g 0 (by omega)
  obtain ⟨b, hb⟩ := g 1 (by omega)
  obtain ⟨c, hc⟩ := g 2 (by omega)
  obtain ⟨d, hd⟩ := g 3 (by omega)
  refine ⟨⟨⟨a, b⟩, ⟨c, d⟩⟩, ?_⟩
  congr 1
  apply Array.ext_getElem?
  intro i
  rcases Nat.lt_or_ge i 4 with hi | hi
  · have : i = 0 ∨ i = 1 ∨ i = 2 ∨ i = 3 := by omega
    rcases this with rfl | rfl | rfl | rfl
    · rw [ha]; rfl
    · rw [hb]; rfl
    · rw [hc]; rfl
    · rw [hd]; rfl
  · rw [Array.getElem?_eq_none (by omega), Array.getElem?_eq_none (by simpa using hi)]
end Go.Proofs.Ytpbbbfglecbceaa
