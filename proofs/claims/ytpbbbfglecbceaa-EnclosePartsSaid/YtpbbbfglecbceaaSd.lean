/- Rules over lists of known blocks for functions that defer, for calls that may panic and for calls that change one block. -/
import Derived.Test.YtpbbbfglecbceaaRt
import Derived.Test.YtpbbbfglecbceaaEagD
import Derived.Test.YtpbbbfglecbceaaBut
import Derived.Test.YtpbbbfglecbceaaEn11
namespace Go.Proofs.Ytpbbbfglecbceaa
set_option linter.all false
open Go.RowKit

section
variable {P : Program} {ops : Array Oper} {Q : Exit → Act → World → Prop} {B : World} {F : List Nat}

theorem hop_inN {K : Act → World → Prop} {o : Oper} {l : List Oper} {a : Act} {w : World} (h : hop P ops Q K o a w) (hK : ∀ a w, K a w → wpListIn (FR none) 0 P ops Q l a w) :
    wpListIn (FR none) 0 P ops Q (o :: l) a w := by
  unfold hop at h
  unfold wpListIn
  split
  · rename_i hw
    rw [if_pos hw] at h
    refine ⟨fun _ _ => trivial, ?_⟩
    have hsem : o.semAt (FR none).round a.eval = execOp a.eval o := rfl
    rw [hsem]
    unfold Oper.wp at h
    generalize (execOp a.eval o).run P w = r at *
    cases r with
    | ok n w' =>
      cases n <;> simp only [Oper.upon, Oper.uponIn] at h ⊢ <;>
        first
          | exact hK _ _ h
          | exact ⟨(fun hh => nomatch hh), calls_FR (h.mono fun e w'' he => by cases e <;> first | exact hK _ _ he | exact he)⟩
          | exact ⟨(fun hh => nomatch hh), rows_FR (h.mono fun _ _ he => hK _ _ he)⟩
    | halt x w' => cases x <;> simp only [Oper.upon, Oper.uponIn] at h ⊢ <;> exact h
  · rename_i hw
    rw [if_neg hw] at h
    exact ⟨fun _ _ => trivial, hK _ _ h⟩
theorem hopR_inN {K : Act → World → Prop} {o : Oper} {l : List Oper} {a : Act} {w : World} (h : hopR none P ops Q K o a w) (hK : ∀ a w, K a w → wpListIn (FR none) 0 P ops Q l a w) :
    wpListIn (FR none) 0 P ops Q (o :: l) a w := by
  obtain ⟨hw, h⟩ := h
  unfold wpListIn
  rw [if_pos hw]
  refine ⟨fun _ _ => trivial, ?_⟩
  have hsem : o.semAt (FR none).round a.eval = execOp a.eval o := rfl
  rw [hsem]
  generalize (execOp a.eval o).run P w = r at *
  cases r with
  | ok n w' =>
    cases n <;> simp only [Oper.uponIn] at h ⊢ <;>
      first
        | exact hK _ _ h
        | exact h
        | exact ⟨h.1, h.2.mono fun e w'' he => by cases e <;> first | exact hK _ _ he | exact he⟩
        | exact ⟨h.1, h.2.mono fun _ _ he => hK _ _ he⟩
  | halt x w' => cases x <;> simp only [Oper.uponIn] at h ⊢ <;> exact h

theorem rg_textN : ∀ (l : List (Oper × Nat)) (a : Act) (s : List Blk), Rg none P ops Q B F none l a s → ∀ w, Kn B F s w → wpListIn (FR none) 0 P ops Q (l.map (·.1)) a w
  | [], _, _, h, w, K => h w K
  | (o, 0) :: l, a, s, ⟨v, hy, h⟩, w, K => by
    simp only [List.map_cons]
    refine hop_inN (K := fun a' w' => a' = a.put o.dst v ∧ w' = w) ?_ (fun a' w' ⟨ha, hw⟩ => by subst ha hw; exact rg_textN l _ s h _ K)
    unfold hop
    rcases hy with ⟨hw, hv⟩ | ⟨hw, rfl⟩
    · rw [if_pos hw]; unfold Oper.wp; rw [hv w K]; exact ⟨rfl, rfl⟩
    · rw [if_neg (by simp [hw])]; exact ⟨rfl, rfl⟩
  | (o, 1) :: l, a, s, h, w, K => by
    simp only [List.map_cons]
    rcases h with h | ⟨_, h⟩
    · exact hop_inN (h w K) (fun a' w' ⟨s', K', _, h'⟩ => rg_textN l a' s' h' w' K')
    · exact hopR_inN (h w K) (fun a' w' ⟨s', K', h'⟩ => rg_textN l a' s' h' w' K')
  | (o, 2) :: l, a, s, h, w, K => by obtain ⟨z, hz, _⟩ := h; cases hz
  | (o, n + 3) :: l, a, s, ⟨v, hy, h⟩, w, K => by
    simp only [List.map_cons]
    refine hop_inN (K := fun a' w' => a' = a.put o.dst v ∧ w' = w) ?_ (fun a' w' ⟨ha, hw⟩ => by subst ha hw; exact rg_textN l _ s h _ K)
    unfold hop
    rcases hy with ⟨hw, hv⟩ | ⟨hw, rfl⟩
    · rw [if_pos hw]; unfold Oper.wp; rw [hv w K]; exact ⟨rfl, rfl⟩
    · rw [if_neg (by simp [hw])]; exact ⟨rfl, rfl⟩

/-- A region in the order of the text that may defer. -/
theorem wk_regionN {id : Nat} {a : Act} {s : List Blk} {l : List Oper} (f : List Nat) (hf : f.length = l.length)
    (h : Rg none P l.toArray Q B F none (l.zip f) a s) : Wk none P B F Q a s (Code.region id l.toArray false) := fun w K =>
  wpIn_region_lit (by have := rg_textN (l.zip f) a s h w K; rwa [List.map_fst_zip (by omega)] at this)

theorem rg_eagL {z : List Blk} : ∀ (l : List (Oper × Nat)) (a : Act) (s : List Blk), (l.all fun p => decide (p.2 ≤ 1)) = true → Rg none P ops Q B F (some (z, z)) l a s → ∀ w, Kn B F s w →
    wpEagL P ops Q (Kn B F z) (l.map fun p => (p.1, p.2 == 0)) a w
  | [], _, _, _, h, w, K => h w K
  | (o, 0) :: l, a, s, hd, ⟨v, hy, h⟩, w, K => by
    have hd2 : (l.all fun p => decide (p.2 ≤ 1)) = true := by simp only [List.all_cons, Bool.and_eq_true] at hd; exact hd.2
    exact ⟨v, hy, rg_eagL l _ s hd2 h w K⟩
  | (o, 1) :: l, a, s, hd, h, w, K => by
    have hd2 : (l.all fun p => decide (p.2 ≤ 1)) = true := by simp only [List.all_cons, Bool.and_eq_true] at hd; exact hd.2
    rcases h with h | ⟨hn, _⟩
    · exact hop_list (hop_mono (fun a' w' ⟨s', K', hz, h'⟩ => ⟨K'.sub (hz (z, z) rfl), rg_eagL l a' s' hd2 h' w' K'⟩) (h w K))
    · cases hn
  | (o, n + 2) :: l, a, s, hd, h, w, K => by simp at hd

/-- A region that draws its order, in a function that defers: what is taken early lies in temporaries from b on. -/
theorem wk_drawsD {id : Nat} {a : Act} {s : List Blk} {l : List Oper} (z : List Blk) (b : Nat) (ord : List (Nat × Nat)) (hm : P.follows .mixedOrders = true)
    (hB : ((ord.all fun p => decide (p.2 ≤ 1)) && (Region.noSelect l.toArray && (decide ((ord.map fun p => (p.1, p.2 == 0)).length = l.length) && (((ord.map fun p => (p.1, p.2 == 0)).all fun p => decide (p.1 < l.length)) && (dstsB l.toArray b (ord.map fun p => (p.1, p.2 == 0)) && eagB .any l.toArray (ord.map fun p => (p.1, p.2 == 0)) (Array.replicate l.length false)))))) = true)
    (hQ : ∀ c d v a w, b ≤ d → Q (.panic c) (Act.put a (some d) v) w → Q (.panic c) a w) (hz : z.Sublist s)
    (h : Rg none P l.toArray Q B F (some (z, z)) (ord.map fun p => (l.getD p.1 default, p.2)) a s) : Wk none P B F Q a s (Code.region id l.toArray true) := fun w K => by
  simp only [Bool.and_eq_true] at hB
  obtain ⟨h1, h2⟩ := hB
  refine wpIn_wide.2 (wp_region_eagD (Kn B F z) b (ord.map fun p => (p.1, p.2 == 0)) hm (by simpa only [Bool.and_eq_true] using h2) hQ (K.drew.sub hz) ?_)
  have := rg_eagL (ord.map fun p => (l.getD p.1 default, p.2)) a s (by rw [List.all_map]; exact h1) h w.drew K.drew
  rw [List.map_map] at this ⊢
  exact this

section
variable {l : List (Oper × Nat)} {a : Act} {s s' : List Blk} {d : Option Tmp} {op : Op} {t : TypeId} {p : String} {af : Array Edge} {v : Value} {s0 : Option (List Blk × List Blk)}
/-- A call is deferred. -/
theorem rg_defer {c : Call} {df : Deferred} (hr : ∀ w, (execOp a.eval ⟨d, .defer c, t, p, af, none⟩).run P w = .ok (.defer df) w) (hz : ∀ z ∈ s0, z.1.Sublist s)
    (h : Rg none P ops Q B F s0 l (({ a with defers := df :: a.defers } : Act).put d undef) s) : Rg none P ops Q B F s0 ((⟨d, .defer c, t, p, af, none⟩, 1) :: l) a s := by
  refine .inl fun w K => ?_
  unfold hop
  rw [if_pos (by simp [Region.wanted])]
  unfold Oper.wp
  rw [hr w]
  exact ⟨s, K, hz, h⟩

/-- A call that returns, or panics. -/
theorem rg_try {f : Nat} {cargs : Array Operand} {at_ : Array TypeId} {args : Array Value} {gd : Option (Nat × Bool)} {X : Value → Prop} {Y : List PanicEntry → Prop}
    (hg : Region.wanted ⟨d, .call ⟨.value (.func f), cargs, at_⟩, t, p, af, gd⟩ (yielded ops a.tmps) = true) (hgo : isGo P f = true) (hargs : cargs.map a.eval = args)
    (h : ∀ w, Kn B F s w → Calls P f args w (fun e w' => Below w.heap.size w w' ∧ ((∃ v, X v ∧ e = .returned v) ∨ (∃ c, Y c ∧ e = .panicked c)))) (hz : ∀ z ∈ s0, z.1.Sublist s)
    (ke : ∀ c, Y c → Ek B F Q (.panic c) a s) (k : ∀ v, X v → Rg none P ops Q B F s0 l (a.put d v) s) :
    Rg none P ops Q B F s0 ((⟨d, .call ⟨.value (.func f), cargs, at_⟩, t, p, af, gd⟩, 1) :: l) a s := by
  refine .inl fun w K => ?_
  unfold hop
  rw [if_pos hg]
  unfold Oper.wp
  have hr : (execOp a.eval ⟨d, .call ⟨.value (.func f), cargs, at_⟩, t, p, af, gd⟩).run P w = .ok (.enter f args) w := by
    have he : #[] ++ cargs.map a.eval ++ #[] = args := by simpa using hargs
    rw [execOp_call_go, he]
    exact run_callFunc_go hgo args w
  rw [hr]
  refine (h w K).mono fun e w' ⟨hb, he⟩ => ?_
  rcases he with ⟨v, hv, rfl⟩ | ⟨c, hc, rfl⟩
  · exact ⟨s, K.call hb, hz, k v hv⟩
  · exact ke c hc w' (K.call hb)
end

/-- A call that returns, or panics with its error. -/
theorem rg_post {l : List (Oper × Nat)} {a : Act} {s : List Blk} {d : Option Tmp} {t : TypeId} {p : String} {af : Array Edge} {s0 : Option (List Blk × List Blk)} {P : Program} {f : Nat} {cargs : Array Operand} {at_ : Array TypeId} {args : Array Value} {gd : Option (Nat × Bool)} {α : Type} {fv : α → Value} {r : En.R α}
    (hg : Region.wanted ⟨d, .call ⟨.value (.func f), cargs, at_⟩, t, p, af, gd⟩ (yielded ops a.tmps) = true) (hgo : isGo P f = true) (hargs : cargs.map a.eval = args)
    (h : ∀ w, Kn B F s w → Calls P f args w (Post fv r w)) (hz : ∀ z ∈ s0, z.1.Sublist s)
    (ke : ∀ c, r = .error c → Ek B F Q (.panic (nonev c)) a s) (k : ∀ v, r = .ok v → Rg none P ops Q B F s0 l (a.put d (fv v)) s) :
    Rg none P ops Q B F s0 ((⟨d, .call ⟨.value (.func f), cargs, at_⟩, t, p, af, gd⟩, 1) :: l) a s := by
  refine rg_try (X := fun v => ∃ x, r = .ok x ∧ v = fv x) (Y := fun c => ∃ x, r = .error x ∧ c = nonev x) hg hgo hargs (fun w K => (h w K).mono fun e w' hp => ?_) hz ?_ ?_
  · obtain ⟨hb, hc⟩ := hp.cases
    refine ⟨hb, ?_⟩
    rcases hc with ⟨x, h1, h2⟩ | ⟨c, h1, h2⟩
    · exact .inl ⟨_, ⟨x, h1, rfl⟩, h2⟩
    · exact .inr ⟨_, ⟨c, h1, rfl⟩, h2⟩
  · rintro c ⟨x, h1, rfl⟩; exact ke x h1
  · rintro v ⟨x, h1, rfl⟩; exact k x h1
theorem Kn.start2 {w : World} {g g' t t' : Nat} {cs cs' : Array Value} (h : Hd w g t cs) (h' : Hd w g' t' cs') (hne : g ≠ g') : Kn w [g, g'] [(g, .cells cs t), (g', .cells cs' t')] w :=
  ⟨rfl, rfl, rfl, Nat.le_refl _, fun _ _ _ => rfl, (fun b hb => by simp at hb; rcases hb with rfl | rfl; exact h; exact h'), (fun b hb => by simp at hb; rcases hb with rfl | rfl <;> simp), by simpa using hne⟩
theorem Kn.far {A B w' : World} {F : List Nat} {s : List Blk} {n : Nat} (hw : Below n A B) (K : Kn B F s w') (hF : ∀ k ∈ F, n ≤ k) (hn : n ≤ B.heap.size) : Below n A w' :=
  ⟨K.os.trans hw.os, K.tape.trans hw.tape, K.output.trans hw.output, Nat.le_trans hw.size K.size, fun k hk => (K.old k (by omega) (fun hm => by have := hF k hm; omega)).trans (hw.block k hk)⟩

/-- A call that changes one block of the list. -/
theorem Kn.butR {s s' : List Blk} {g : Nat} {o o' : Obj} {w w' : World} (K : Kn B F s w) (hb : But g w w') (ho : w'.heap[g]? = some o') (hr : Rep g o o' s s') : Kn B F s' w' := by
  have hsp := hr.spec K.nodup
  have hg := K.new _ hr.mem
  refine ⟨hb.os.trans K.os, hb.tape.trans K.tape, hb.output.trans K.output, Nat.le_trans K.size hb.size, ?_, ?_, ?_, by rw [hr.names]; exact K.nodup⟩
  · intro k hk hF
    refine (hb.block k (Nat.lt_of_lt_of_le hk K.size) fun e => ?_).trans (K.old k hk hF)
    subst e
    rcases hg with hg | hg
    · exact hF hg
    · simp at hg; omega
  · intro b hb'
    rcases hsp b hb' with ⟨h1, h2⟩ | rfl
    · exact (hb.block b.1 (K.lt h1) h2).trans (K.own b h1)
    · exact ho
  · intro b hb'
    rcases hsp b hb' with ⟨h1, _⟩ | rfl
    · exact K.new b h1
    · exact hg
section
variable {l : List (Oper × Nat)} {a : Act} {s : List Blk} {d : Option Tmp} {t : TypeId} {p : String} {af : Array Edge} {s0 : Option (List Blk × List Blk)} {R : Option Nat}
theorem rg_but {f g : Nat} {o : Obj} {cargs : Array Operand} {at_ : Array TypeId} {args : Array Value} {gd : Option (Nat × Bool)} {α : Type} {T : α → Value → Obj → Prop}
    (hg : Region.wanted ⟨d, .call ⟨.value (.func f), cargs, at_⟩, t, p, af, gd⟩ (yielded ops a.tmps) = true) (hgo : isGo P f = true) (hargs : cargs.map a.eval = args)
    (h : ∀ w, Kn B F s w → Calls P f args w (fun e w' => ∃ x v o', e = .returned v ∧ T x v o' ∧ w'.heap[g]? = some o' ∧ But g w w'))
    (k : ∀ x v o', T x v o' → ∃ s', Rep g o o' s s' ∧ (∀ z ∈ s0, z.1.Sublist s') ∧ Rg R P ops Q B F s0 l (a.put d v) s') :
    Rg R P ops Q B F s0 ((⟨d, .call ⟨.value (.func f), cargs, at_⟩, t, p, af, gd⟩, 1) :: l) a s := by
  refine rg_call hg hgo hargs fun w K => (h w K).mono fun e w' ⟨x, v, o', he, hT, ho, hb⟩ => ?_
  obtain ⟨s', hr, hz, hk⟩ := k x v o' hT
  exact ⟨v, s', he, K.butR hb ho hr, hz, hk⟩
end
end
end Go.Proofs.Ytpbbbfglecbceaa
