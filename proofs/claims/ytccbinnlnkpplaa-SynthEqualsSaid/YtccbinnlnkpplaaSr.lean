/- A range over a function, over lists of known blocks: rounds, calls of yield, the statement, the end of a function that holds one. -/
import Derived.Test.YtccbinnlnkpplaaSx
namespace Go.Proofs.Ytccbinnlnkpplaa
set_option linter.all false
open Go.RowKit

/-- One object of the list becomes another. -/
inductive Rep (g : Nat) (o o' : Obj) : List Blk → List Blk → Prop
  | here (s : List Blk) : Rep g o o' ((g, o) :: s) ((g, o') :: s)
  | there (b : Blk) {s s' : List Blk} : Rep g o o' s s' → Rep g o o' (b :: s) (b :: s')

section
variable {B w w' : World} {F : List Nat} {s s' : List Blk} {g : Nat} {o o' : Obj}
theorem Rep.names (h : Rep g o o' s s') : s'.map (·.1) = s.map (·.1) := by
  induction h with
  | here => rfl
  | there b _ ih => simp [ih]
theorem Rep.mem (h : Rep g o o' s s') : (g, o) ∈ s := by
  induction h with
  | here s => simp
  | there b _ ih => simp [ih]
theorem Rep.spec (h : Rep g o o' s s') (hn : (s.map (·.1)).Nodup) : ∀ b ∈ s', (b ∈ s ∧ b.1 ≠ g) ∨ b = (g, o') := by
  induction h with
  | here s =>
    intro b hb
    rcases List.mem_cons.1 hb with rfl | hb
    · exact .inr rfl
    · refine .inl ⟨by simp [hb], fun e => ?_⟩
      simp only [List.map_cons, List.nodup_cons] at hn
      exact hn.1 (e ▸ List.mem_map.2 ⟨b, hb, rfl⟩)
  | there c h ih =>
    intro b hb
    simp only [List.map_cons, List.nodup_cons] at hn
    rcases List.mem_cons.1 hb with rfl | hb
    · refine .inl ⟨by simp, fun e => ?_⟩
      exact hn.1 (List.mem_map.2 ⟨_, h.mem, e.symm⟩)
    · rcases ih hn.2 b hb with ⟨h1, h2⟩ | h1
      · exact .inl ⟨by simp [h1], h2⟩
      · exact .inr h1

theorem Kn.rep (h : Kn B F s w) (hr : Rep g o o' s s') : Kn B F s' (w.putObj g o') := by
  have hsp := hr.spec h.nodup
  have hg := h.new _ hr.mem
  have hlt : g < w.heap.size := h.lt hr.mem
  refine ⟨h.os, h.tape, h.output, by rw [World.putObj_size]; exact h.size, ?_, ?_, ?_, by rw [hr.names]; exact h.nodup⟩
  · intro k hk hF
    refine (World.putObj_heap_other ?_).trans (h.old k hk hF)
    rcases hg with hg | hg
    · exact fun e => hF (e ▸ hg)
    · simp at hg; omega
  · intro b hb
    rcases hsp b hb with ⟨h1, h2⟩ | rfl
    · exact (World.putObj_heap_other h2).trans (h.own b h1)
    · exact World.putObj_heap_same hlt
  · intro b hb
    rcases hsp b hb with ⟨h1, _⟩ | rfl
    · exact h.new b h1
    · exact hg
end

section
variable {R : Option Nat} {P : Program} {ops : Array Oper} {Q : Exit → Act → World → Prop} {B : World} {F : List Nat} {a : Act} {s s' : List Blk} {X : Ending → World → Prop} {l : Nat} {r : Loop}

/-- A round, out of the walk of its assignments and its body. -/
theorem roundIn_kn {tmps : Array Value} (hrep : Rep l (.loop r) (.loop { r with state := .busy }) s s') (hr : r.state = .ready)
    (h : Wk (some l) P B F (Exit.then (fun a₁ w₁ => Kn B F s w₁ ∧ Wk (some l) P B F (roundPost P l X) a₁ s' r.body) (fun _ _ _ => False)) ⟨tmps, []⟩ s r.assign)
    {w : World} (K : Kn B F s w) : RoundIn (FR R) 0 P l r.fn tmps r.assign r.body w X := by
  refine roundIn_of_wpIn trivial (wpIn_mono (h w K) fun e a₁ w₁ hq => ?_)
  cases e with
  | normal =>
    obtain ⟨K₁, hb⟩ := hq
    exact ⟨_, run_beginRound (K₁.own _ hrep.mem) hr, hb _ (K₁.rep hrep)⟩
  | _ => exact hq
theorem ek_asg {c : Code} (h : Wk (some l) P B F (roundPost P l X) a s' c) :
    Ek B F (Exit.then (fun a₁ w₁ => Kn B F s w₁ ∧ Wk (some l) P B F (roundPost P l X) a₁ s' c) (fun _ _ _ => False)) .normal a s := fun _ K => ⟨K, h⟩
theorem ek_roundEnd (hrep : Rep l (.loop r) (.loop { r with state := .ready, pending := none }) s s') (h : ∀ w, Kn B F s' w → X (.returned (.bool true)) w) :
    Ek B F (roundPost P l X) .normal a s := fun w K => ⟨_, _, run_endRound none (K.own _ hrep.mem), h _ (K.rep hrep)⟩
theorem ek_roundRet (hrep : Rep l (.loop r) (.loop { r with state := .done, pending := some .ret }) s s') (h : ∀ w, Kn B F s' w → X (.returned (.bool false)) w) :
    Ek B F (roundPost P l X) .ret a s := fun w K => ⟨_, _, run_endRound (some .ret) (K.own _ hrep.mem), h _ (K.rep hrep)⟩
theorem ek_roundExit {id : Nat} (hrep : Rep l (.loop r) (.loop { r with state := .done, pending := some (.exit id) }) s s') (h : ∀ w, Kn B F s' w → X (.returned (.bool false)) w) :
    Ek B F (roundPost P l X) (.exit id) a s := fun w K => ⟨_, _, run_endRound (some (.exit id)) (K.own _ hrep.mem), h _ (K.rep hrep)⟩

theorem run_call_yield {d : Option Tmp} {fo : Operand} {cargs : Array Operand} {at_ : Array TypeId} {t : TypeId} {p : String} {af : Array Edge} {gd : Option (Nat × Bool)} {vs : Array Value} {w : World}
    (hf : a.eval fo = .func (.yield l) #[] #[]) (hargs : cargs.map a.eval = vs) (hl : w.heap[l]? = some (.loop r)) (hsz : vs.size = r.params.size) :
    (execOp a.eval ⟨d, .call ⟨.value fo, cargs, at_⟩, t, p, af, gd⟩).run P w =
      .ok (.round l r.fn ((r.params.zip vs).foldl (fun tmps (t, a) => tmps.setIfInBounds t a) r.tmps) r.assign r.body) w := by
  have hx : execOp a.eval ⟨d, .call ⟨.value fo, cargs, at_⟩, t, p, af, gd⟩ = (do let d ← resolve a.eval ⟨.value fo, cargs, at_⟩ t; invoke d.target d.args) := rfl
  have hv : (resolve a.eval ⟨.value fo, cargs, at_⟩ t) = pure { target := .fn (.yield l) #[], args := #[] ++ vs } := by
    simp only [resolve, hf, hargs, Deferred.ofValue]
  rw [hx, hv]
  have : (#[] ++ vs : Array Value) = vs := by simp
  rw [this]
  exact run_yield hl hsz

/-- A call of yield. -/
theorem rg_yield {d : Option Tmp} {fo : Operand} {cargs : Array Operand} {at_ : Array TypeId} {t : TypeId} {p : String} {af : Array Edge} {gd : Option (Nat × Bool)} {lst : List (Oper × Nat)} {vs : Array Value}
    (hg : Region.wanted ⟨d, .call ⟨.value fo, cargs, at_⟩, t, p, af, gd⟩ (yielded ops a.tmps) = true)
    (hf : a.eval fo = .func (.yield l) #[] #[]) (hargs : cargs.map a.eval = vs) (hsz : vs.size = r.params.size) (hm : (l, Obj.loop r) ∈ s)
    (h : ∀ w, Kn B F s w → RoundIn (FR R) 0 P l r.fn ((r.params.zip vs).foldl (fun tmps (t, a) => tmps.setIfInBounds t a) r.tmps) r.assign r.body w
      (fun e w' => ∃ v s', e = .returned v ∧ Kn B F s' w' ∧ Rg R P ops Q B F none lst (a.put d v) s')) :
    Rg R P ops Q B F none ((⟨d, .call ⟨.value fo, cargs, at_⟩, t, p, af, gd⟩, 1) :: lst) a s := by
  refine .inr ⟨rfl, fun w K => ⟨hg, ?_⟩⟩
  rw [run_call_yield hf hargs (K.own _ hm) hsz]
  refine ⟨(fun hh => nomatch hh), (h w K).mono fun e w' he => ?_⟩
  obtain ⟨v, s', rfl, K', hr⟩ := he
  exact ⟨s', K', hr⟩

/-- What the function that is ranged over must leave. -/
def Ranged (P : Program) (B : World) (F : List Nat) (Q : Exit → Act → World → Prop) (a : Act) (l d : Nat) (e : Ending) (w : World) : Prop :=
  ∃ v s' r' s'', e = .returned v ∧ Kn B F s' w ∧ Rep l (.loop r') (.loop { r' with state := .exhausted }) s' s'' ∧ r'.state ≠ .busy ∧
    (match r'.pending with
     | none => Ek B F Q .normal { a with defers := ⟨.collected d, #[]⟩ :: a.defers } s''
     | some c => Wk none P B F Q { a with defers := ⟨.collected d, #[]⟩ :: a.defers } s'' c)

theorem wk_rangeFunc {g : Operand} {ps : Array Tmp} {assign body : Code} {f : Nat} {caps : Array Value} (hf : a.eval g = .func (.func f) #[] caps) (hgo : isGo P f = true)
    (h : ∀ (fn d l : Nat) (w : World), Kn B F ((l, .loop { state := .ready, pending := none, fn, tmps := a.tmps, params := ps, assign, body, defers := d }) :: (d, .deferred (some [])) :: s) w →
      Calls P f (#[.func (.yield l) #[] #[]] ++ caps) w (Ranged P B F Q a l d)) :
    Wk none P B F Q a s (.rangeFunc g ps assign body) := by
  intro w K
  refine wpIn_rangeFunc fun fn _ => ?_
  have he := run_enterLoop_outer (P := P) (w := w) fn a.tmps ps assign body
  generalize hW : (w.alloc (.deferred (some []))).alloc (.loop { state := .ready, pending := none, fn, tmps := a.tmps, params := ps, assign, body, defers := w.heap.size }) = W at he
  refine ⟨w.heap.size + 1, [{ target := .collected w.heap.size, args := #[] }], W, { target := .fn (.func f) caps, args := #[.func (.yield (w.heap.size + 1)) #[] #[]] }, W, f,
    #[.func (.yield (w.heap.size + 1)) #[] #[]] ++ caps, W, he, ?_, (fun _ _ => trivial), ?_, (fun hh => nomatch hh), ?_⟩
  · have hv : (resolve a.eval (rangeCall g (w.heap.size + 1)) 0) = pure { target := .fn (.func f) caps, args := #[] ++ #[.func (.yield (w.heap.size + 1)) #[] #[]] } := by
      have hc : ∀ v, a.eval (.const v) = v := fun _ => rfl
      simp only [resolve, hf, Deferred.ofValue, List.map_toArray, List.map_cons, List.map_nil, hc]
    rw [hv]
    rfl
  · show (callFunc f (_ ++ caps)).run P _ = _
    exact run_callFunc_go hgo _ _
  · have K1 := (K.alloc (.deferred (some []))).alloc (.loop { state := .ready, pending := none, fn, tmps := a.tmps, params := ps, assign, body, defers := w.heap.size })
    rw [sA, hW] at K1
    refine calls_FR ((h fn w.heap.size (w.heap.size + 1) _ K1).mono fun e w' he => ?_)
    obtain ⟨v, s', r', s'', rfl, K', hrep, hb, hq⟩ := he
    refine ⟨r'.pending, _, run_endLoop (K'.own _ hrep.mem) hb, ?_⟩
    have K2 := K'.rep hrep
    cases hp : r'.pending with
    | none => rw [hp] at hq K2; exact hq _ K2
    | some c => rw [hp] at hq K2; exact hq _ K2

/-- A function that holds a range over a function. -/
theorem calls_marks {f : Nat} {fn : Func} {c : Code} {args : Array Value} {w : World} (hf : P.funcs[f]? = some fn) (hb : fn.body = some c)
    (h : Wk none P w [] (bodyPostM (FR none) 0 P fn X) { tmps := args ++ Array.replicate (fn.ntmps - args.size) undef, defers := [] } [] c) : Calls P f args w X :=
  callsIn_FR (R := none) (callsIn_of_wp_marks hf hb trivial (h w (Kn.start w)))
theorem calls_marksF {f : Nat} {fn : Func} {c : Code} {args : Array Value} {w : World} {s : List Blk} {F : List Nat} (K : Kn w F s w) (hf : P.funcs[f]? = some fn) (hb : fn.body = some c)
    (h : Wk none P w F (bodyPostM (FR none) 0 P fn X) { tmps := args ++ Array.replicate (fn.ntmps - args.size) undef, defers := [] } s c) : Calls P f args w X :=
  callsIn_FR (R := none) (callsIn_of_wp_marks hf hb trivial (h w K))
theorem ek_retM0 {fn : Func} {tmps : Array Value} (h : ∀ w, Kn B F s w → ∃ v, (results fn tmps).run P w = .ok v w ∧ X (.returned v) w) :
    Ek B F (bodyPostM (FR none) 0 P fn X) .ret ⟨tmps, []⟩ s := fun w K => h w K
theorem ek_normM0 {fn : Func} {tmps : Array Value} (h : ∀ w, Kn B F s w → ∃ v, (results fn tmps).run P w = .ok v w ∧ X (.returned v) w) :
    Ek B F (bodyPostM (FR none) 0 P fn X) .normal ⟨tmps, []⟩ s := fun w K => h w K
theorem ek_retM1 {fn : Func} {tmps : Array Value} {d : Nat} (hrep : Rep d (.deferred (some [])) (.deferred none) s s') (h : ∀ w, Kn B F s' w → ∃ v, (results fn tmps).run P w = .ok v w ∧ X (.returned v) w) :
    Ek B F (bodyPostM (FR none) 0 P fn X) .ret ⟨tmps, [⟨.collected d, #[]⟩]⟩ s := fun w K =>
  ⟨by simp, .inl ⟨d, _, rfl, run_takeDeferred (K.own _ hrep.mem), h _ (K.rep hrep)⟩⟩
theorem ek_normM1 {fn : Func} {tmps : Array Value} {d : Nat} (hrep : Rep d (.deferred (some [])) (.deferred none) s s') (h : ∀ w, Kn B F s' w → ∃ v, (results fn tmps).run P w = .ok v w ∧ X (.returned v) w) :
    Ek B F (bodyPostM (FR none) 0 P fn X) .normal ⟨tmps, [⟨.collected d, #[]⟩]⟩ s := fun w K =>
  ⟨by simp, .inl ⟨d, _, rfl, run_takeDeferred (K.own _ hrep.mem), h _ (K.rep hrep)⟩⟩
end

/-! ### Calls that change blocks of the list -/
section
variable {B w w' : World} {F G : List Nat} {s u rest : List Blk}
/-- What a call leaves that may change the blocks G, which all lie in the list: rest is the list without them. -/
theorem Kn.eff (K : Kn B F s w) (hc : Kn w G u w') (hsub : rest.Sublist s) (hG : ∀ g ∈ G, g ∈ s.map (·.1)) (hrest : ∀ b ∈ rest, b.1 ∉ G) : Kn B F (u ++ rest) w' := by
  have hGn : ∀ g ∈ G, g ∈ F ∨ B.heap.size ≤ g := fun g hg => by
    obtain ⟨b, hb, rfl⟩ := List.mem_map.1 (hG g hg)
    exact K.new b hb
  refine ⟨hc.os.trans K.os, hc.tape.trans K.tape, hc.output.trans K.output, Nat.le_trans K.size hc.size, ?_, ?_, ?_, ?_⟩
  · intro k hk hF
    refine (hc.old k (Nat.lt_of_lt_of_le hk K.size) fun hg => ?_).trans (K.old k hk hF)
    rcases hGn k hg with h | h
    · exact hF h
    · omega
  · intro b hb
    rcases List.mem_append.1 hb with hb | hb
    · exact hc.own b hb
    · have hbs := hsub.subset hb
      exact (hc.old b.1 (K.lt hbs) (hrest b hb)).trans (K.own b hbs)
  · intro b hb
    rcases List.mem_append.1 hb with hb | hb
    · rcases hc.new b hb with h | h
      · exact hGn _ h
      · exact .inr (Nat.le_trans K.size h)
    · exact K.new b (hsub.subset hb)
  · rw [List.map_append]
    refine List.nodup_append.2 ⟨hc.nodup, (hsub.map _).nodup K.nodup, ?_⟩
    intro x hx y hy e
    subst e
    obtain ⟨p, hp, rfl⟩ := List.mem_map.1 hx
    obtain ⟨q, hq, hqp⟩ := List.mem_map.1 hy
    rcases hc.new p hp with h | h
    · exact hrest q hq (hqp ▸ h)
    · have := K.lt (hsub.subset hq)
      omega

/-- A list whose head blocks are those that change. -/
theorem Kn.effApp {v : List Blk} (K : Kn B F (v ++ rest) w) (hc : Kn w (v.map (·.1)) u w') : Kn B F (u ++ rest) w' := by
  refine K.eff hc (List.sublist_append_right _ _) (fun g hg => by rw [List.map_append]; exact List.mem_append_left _ hg) (fun b hb hg => ?_)
  have := K.nodup
  rw [List.map_append] at this
  exact (List.nodup_append.1 this).2.2 _ hg _ (List.mem_map.2 ⟨b, hb, rfl⟩) rfl
/-- The blocks at hand as footprint of a call. -/
theorem Kn.self {v : List Blk} (K : Kn B F (v ++ rest) w) : Kn w (v.map (·.1)) v w :=
  ⟨rfl, rfl, rfl, Nat.le_refl _, fun _ _ _ => rfl, fun b hb => K.own b (List.mem_append_left _ hb), fun b hb => .inl (List.mem_map.2 ⟨b, hb, rfl⟩),
    (List.nodup_append.1 (by have := K.nodup; rwa [List.map_append] at this)).1⟩
/-- The list in another order. -/
theorem Kn.perm {s' : List Blk} (K : Kn B F s w) (h : s.Perm s') : Kn B F s' w :=
  ⟨K.os, K.tape, K.output, K.size, K.old, fun b hb => K.own b (h.mem_iff.2 hb), fun b hb => K.new b (h.mem_iff.2 hb), (h.map _).nodup K.nodup⟩
end
end Go.Proofs.Ytccbinnlnkpplaa
