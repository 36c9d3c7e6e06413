/- The call's own blocks as a list: what is known of the world, rules for operations and for code that keep such a list. -/
import Derived.Test.YtccbinnlnkpplaaHd
import Derived.Test.YtccbinnlnkpplaaTr
import Derived.Test.YtccbinnlnkpplaaOrd
import Derived.LoopN
import Derived.LoopNIn
import Derived.RangeFuncLeaves
import Derived.RangeFuncRecord
import Derived.TacticsIn
namespace Go.Proofs.Ytccbinnlnkpplaa
set_option linter.all false
open Go.RowKit

abbrev Blk := Nat × Obj

/-- B: the world at the call's begin; F: old blocks that may change; s: the blocks that are known whole (new ones, or of F). -/
structure Kn (B : World) (F : List Nat) (s : List Blk) (w : World) : Prop where
  os : w.os = B.os
  tape : w.tape = B.tape
  output : w.output = B.output
  size : B.heap.size ≤ w.heap.size
  old : ∀ k, k < B.heap.size → k ∉ F → w.heap[k]? = B.heap[k]?
  own : ∀ b ∈ s, w.heap[b.1]? = some b.2
  new : ∀ b ∈ s, b.1 ∈ F ∨ B.heap.size ≤ b.1
  nodup : (s.map (·.1)).Nodup

section
variable {B w w' : World} {F : List Nat} {s s' : List Blk} {g t : Nat} {cs : Array Value}

theorem Kn.start (w : World) : Kn w [] [] w :=
  ⟨rfl, rfl, rfl, Nat.le_refl _, fun _ _ _ => rfl, (fun _ h => nomatch h), (fun _ h => nomatch h), List.nodup_nil⟩

theorem Kn.startF (w : World) (h : Hd w g t cs) : Kn w [g] [(g, .cells cs t)] w :=
  ⟨rfl, rfl, rfl, Nat.le_refl _, fun _ _ _ => rfl, (fun b hb => by simp at hb; subst hb; exact h), (fun b hb => by simp at hb; subst hb; simp), by simp⟩

theorem Kn.below (h : Kn B [] s w) : Below B.heap.size B w := ⟨h.os, h.tape, h.output, h.size, fun k hk => h.old k hk (by simp)⟩

theorem Kn.hd (h : Kn B F s w) (hm : (g, Obj.cells cs t) ∈ s) : Hd w g t cs := h.own _ hm

theorem Kn.hd0 (h : Kn B F ((g, .cells cs t) :: s) w) : Hd w g t cs := h.own (g, .cells cs t) (by simp)
theorem Kn.ob0 {o : Obj} (h : Kn B F ((g, o) :: s) w) : w.heap[g]? = some o := h.own (g, o) (by simp)
theorem Kn.tl {b : Blk} (h : Kn B F (b :: s) w) : Kn B F s w :=
  ⟨h.os, h.tape, h.output, h.size, h.old, fun c hc => h.own c (by simp [hc]), fun c hc => h.new c (by simp [hc]), (List.nodup_cons.1 h.nodup).2⟩
theorem Kn.sub (h : Kn B F s w) (hs : s'.Sublist s) : Kn B F s' w :=
  ⟨h.os, h.tape, h.output, h.size, h.old, fun b hb => h.own b (hs.subset hb), fun b hb => h.new b (hs.subset hb), (hs.map _).nodup h.nodup⟩

theorem Kn.drew (h : Kn B F s w) : Kn B F s w.drew := ⟨h.os, h.tape, h.output, h.size, h.old, h.own, h.new, h.nodup⟩

theorem ob_lt {o : Obj} (h : w.heap[g]? = some o) : g < w.heap.size := by
  rcases Nat.lt_or_ge g w.heap.size with hlt | hge
  · exact hlt
  · rw [Array.getElem?_eq_none hge] at h; cases h
theorem Kn.lt (h : Kn B F s w) {b : Blk} (hb : b ∈ s) : b.1 < w.heap.size := ob_lt (h.own b hb)

theorem Kn.call (h : Kn B F s w) (hb : Below w.heap.size w w') : Kn B F s w' :=
  ⟨hb.os.trans h.os, hb.tape.trans h.tape, hb.output.trans h.output, Nat.le_trans h.size hb.size,
    fun k hk hF => (hb.block k (Nat.lt_of_lt_of_le hk h.size)).trans (h.old k hk hF), fun b hm => (hb.block b.1 (h.lt hm)).trans (h.own b hm), h.new, h.nodup⟩

/-- Blocks that a call has made. -/
structure Made (w : World) (u : List Blk) (w' : World) : Prop where
  below : Below w.heap.size w w'
  own : ∀ b ∈ u, w'.heap[b.1]? = some b.2
  new : ∀ b ∈ u, w.heap.size ≤ b.1
  nodup : (u.map (·.1)).Nodup

theorem Made.nil (h : Below w.heap.size w w') : Made w [] w' := ⟨h, (fun _ h => nomatch h), (fun _ h => nomatch h), List.nodup_nil⟩
theorem Made.one {o : Obj} (h : Below w.heap.size w w') (hd : w'.heap[g]? = some o) (hn : w.heap.size ≤ g) : Made w [(g, o)] w' :=
  ⟨h, (fun b hb => by simp at hb; subst hb; exact hd), (fun b hb => by simp at hb; subst hb; exact hn), by simp⟩
theorem Kn.made (h : Kn B [] s w) (hs : s'.Sublist s) : Made B s' w :=
  ⟨h.below, fun b hb => h.own b (hs.subset hb), fun b hb => (h.new b (hs.subset hb)).resolve_left (by simp), (hs.map _).nodup h.nodup⟩

theorem Kn.add (h : Kn B F s w) (hm : Made w s' w') : Kn B F (s' ++ s) w' := by
  have h1 := h.call hm.below
  refine ⟨h1.os, h1.tape, h1.output, h1.size, h1.old, ?_, ?_, ?_⟩
  · intro b hb
    rcases List.mem_append.1 hb with hb | hb
    · exact hm.own b hb
    · exact h1.own b hb
  · intro b hb
    rcases List.mem_append.1 hb with hb | hb
    · exact .inr (Nat.le_trans h.size (hm.new b hb))
    · exact h1.new b hb
  · rw [List.map_append]
    refine List.nodup_append.2 ⟨hm.nodup, h.nodup, ?_⟩
    intro a ha c hc e
    subst e
    obtain ⟨x, hx, rfl⟩ := List.mem_map.1 ha
    obtain ⟨y, hy, hxy⟩ := List.mem_map.1 hc
    have := hm.new x hx
    have := h.lt hy
    omega

theorem Kn.alloc (h : Kn B F s w) (o : Obj) : Kn B F ((w.heap.size, o) :: s) (w.alloc o) :=
  h.add (s' := [(w.heap.size, o)]) (Made.one ((Below.refl _ w).alloc (Nat.le_refl _) _) (heap_alloc_new w o) (Nat.le_refl _))

/-- A store changes one block of the list. -/
inductive Upd (g i : Nat) (u : Value) : List Blk → List Blk → Prop
  | here (t : Nat) (cs : Array Value) (s : List Blk) : Upd g i u ((g, .cells cs t) :: s) ((g, .cells (cs.setIfInBounds i u) t) :: s)
  | there (b : Blk) {s s' : List Blk} : Upd g i u s s' → Upd g i u (b :: s) (b :: s')

theorem Upd.names {i : Nat} {u : Value} (h : Upd g i u s s') : s'.map (·.1) = s.map (·.1) := by
  induction h with
  | here => rfl
  | there b _ ih => simp [ih]
theorem Upd.mem {i : Nat} {u : Value} (h : Upd g i u s s') : ∃ t cs, (g, Obj.cells cs t) ∈ s := by
  induction h with
  | here t cs s => exact ⟨t, cs, by simp⟩
  | there b _ ih => obtain ⟨t, cs, h⟩ := ih; exact ⟨t, cs, by simp [h]⟩
theorem Upd.spec {i : Nat} {u : Value} (h : Upd g i u s s') (hn : (s.map (·.1)).Nodup) : ∀ b ∈ s', (b ∈ s ∧ b.1 ≠ g) ∨ ∃ t cs, (g, Obj.cells cs t) ∈ s ∧ b = (g, Obj.cells (cs.setIfInBounds i u) t) := by
  induction h with
  | here t cs s =>
    intro b hb
    rcases List.mem_cons.1 hb with rfl | hb
    · exact .inr ⟨t, cs, by simp, rfl⟩
    · refine .inl ⟨by simp [hb], fun e => ?_⟩
      simp only [List.map_cons, List.nodup_cons] at hn
      exact hn.1 (e ▸ List.mem_map.2 ⟨b, hb, rfl⟩)
  | there c h ih =>
    intro b hb
    simp only [List.map_cons, List.nodup_cons] at hn
    rcases List.mem_cons.1 hb with rfl | hb
    · refine .inl ⟨by simp, fun e => ?_⟩
      obtain ⟨t, cs, hm⟩ := h.mem
      exact hn.1 (List.mem_map.2 ⟨_, hm, e.symm⟩)
    · rcases ih hn.2 b hb with ⟨h1, h2⟩ | ⟨t, cs, h1, h2⟩
      · exact .inl ⟨by simp [h1], h2⟩
      · exact .inr ⟨t, cs, by simp [h1], h2⟩

theorem Kn.set {i : Nat} {u : Value} (h : Kn B F s w) (hu : Upd g i u s s') : Kn B F s' (w.setCell ⟨g, i, none⟩ u) := by
  have hsp := hu.spec h.nodup
  obtain ⟨t, cs, hm⟩ := hu.mem
  have hg := h.new _ hm
  refine ⟨h.os, h.tape, h.output, by rw [World.size_setCell]; exact h.size, ?_, ?_, ?_, by rw [hu.names]; exact h.nodup⟩
  · intro k hk hF
    refine (Below.heap_setCell w ⟨g, i, none⟩ u k ?_).trans (h.old k hk hF)
    show k ≠ g
    rcases hg with hg | hg
    · exact fun e => hF (e ▸ hg)
    · simp at hg; omega
  · intro b hb
    rcases hsp b hb with ⟨h1, h2⟩ | ⟨t, cs, h1, rfl⟩
    · exact (Below.heap_setCell w ⟨g, i, none⟩ u b.1 h2).trans (h.own b h1)
    · exact (Kn.hd h h1).set i u
  · intro b hb
    rcases hsp b hb with ⟨h1, _⟩ | ⟨t, cs, h1, rfl⟩
    · exact h.new b h1
    · exact h.new (g, .cells cs t) h1

theorem Kn.put {i : Nat} {u : Value} (hu : Upd g i u s s') (h : Kn B F s w) : Kn B F s' (w.setCell ⟨g, i, none⟩ u) := h.set hu
theorem Kn.cellB (h : Kn B F s w) {k : Nat} (hk : k < B.heap.size) (hF : k ∉ F) (i : Nat) : w.cell? ⟨k, i, none⟩ = B.cell? ⟨k, i, none⟩ :=
  World.cell?_of_block (w := B) (h.old k hk hF)
theorem Kn.frozenB (h : Kn B F s w) {k : Nat} (hk : k < B.heap.size) (hF : k ∉ F) (i : Nat) : w.frozen? ⟨k, i, none⟩ = B.frozen? ⟨k, i, none⟩ :=
  World.frozen?_of_block (w := B) (h.old k hk hF)
theorem Kn.hdB (h : Kn B F s w) (hd : Hd B g t cs) (hF : g ∉ F) : Hd w g t cs := (h.old g hd.lt hF).trans hd
end

/-! ### Code: R = some l: in a round of the loop l over a function -/
abbrev FR (R : Option Nat) : Fence := { Fence.wide with round := R }
theorem FR_none : FR none = Fence.wide := rfl

section
variable {R : Option Nat} {P : Program} {Q : Exit → Act → World → Prop} {B : World} {F : List Nat} {a : Act} {s : List Blk}

def Wk (R : Option Nat) (P : Program) (B : World) (F : List Nat) (Q : Exit → Act → World → Prop) (a : Act) (s : List Blk) (c : Code) : Prop := ∀ w, Kn B F s w → c.wpIn (FR R) 0 P Q a w
/-- The same behind an end. -/
def Ek (B : World) (F : List Nat) (Q : Exit → Act → World → Prop) (e : Exit) (a : Act) (s : List Blk) : Prop := ∀ w, Kn B F s w → Q e a w

theorem wk_start {c : Code} {w : World} (h : Wk none P w [] Q a [] c) : c.wp P Q a w := wpIn_wide.1 (h w (Kn.start w))
theorem wk_startF {c : Code} {w : World} {s : List Blk} {F : List Nat} (K : Kn w F s w) (h : Wk none P w F Q a s c) : c.wp P Q a w := wpIn_wide.1 (h w K)
theorem wk_sub {c : Code} {s' : List Blk} (hs : s'.Sublist s) (h : Wk R P B F Q a s' c) : Wk R P B F Q a s c := fun w K => h w (K.sub hs)
theorem wk_seq {x y : Code} (h : Wk R P B F (Exit.then (y.wpIn (FR R) 0 P Q) Q) a s x) : Wk R P B F Q a s (.seq x y) := fun w K => wpIn_seq (h w K)
theorem wk_block {id : Nat} {c : Code} (h : Wk R P B F (Exit.inBlock id Q) a s c) : Wk R P B F Q a s (.block id c) := fun w K => wpIn_block (h w K)
theorem wk_skip (h : Ek B F Q .normal a s) : Wk R P B F Q a s .skip := fun w K => wpIn_skip (h w K)
theorem wk_ret (h : Ek B F Q .ret a s) : Wk R P B F Q a s .ret := fun w K => wpIn_ret (h w K)
theorem wk_exit {id : Nat} (h : Ek B F Q (.exit id) a s) : Wk R P B F Q a s (.exit id) := fun w K => wpIn_exit (h w K)
theorem wk_cond {c : Operand} {x y : Code} {t : Bool} (hc : a.eval c = .bool t) (ht : t = true → Wk R P B F Q a s x) (hf : t = false → Wk R P B F Q a s y) :
    Wk R P B F Q a s (.cond c x y) := fun w K => wpIn_cond_split hc (fun h => ht h w K) (fun h => hf h w K)
theorem wk_cond_t {c : Operand} {x y : Code} (hc : a.eval c = .bool true) (h : Wk R P B F Q a s x) : Wk R P B F Q a s (.cond c x y) := fun w K => wpIn_cond_true hc (h w K)
theorem wk_cond_f {c : Operand} {x y : Code} (hc : a.eval c = .bool false) (h : Wk R P B F Q a s y) : Wk R P B F Q a s (.cond c x y) := fun w K => wpIn_cond_false hc (h w K)

theorem ek_then {K : Act → World → Prop} (h : ∀ w, Kn B F s w → K a w) : Ek B F (Exit.then K Q) .normal a s := h
theorem ek_next {y : Code} (h : Wk R P B F Q a s y) : Ek B F (Exit.then (y.wpIn (FR R) 0 P Q) Q) .normal a s := h
theorem ek_then_ret {K : Act → World → Prop} (h : Ek B F Q .ret a s) : Ek B F (Exit.then K Q) .ret a s := h
theorem ek_then_exit {K : Act → World → Prop} {id : Nat} (h : Ek B F Q (.exit id) a s) : Ek B F (Exit.then K Q) (.exit id) a s := h
theorem ek_block {id : Nat} (h : Ek B F Q .normal a s) : Ek B F (Exit.inBlock id Q) .normal a s := h
theorem ek_block_ret {id : Nat} (h : Ek B F Q .ret a s) : Ek B F (Exit.inBlock id Q) .ret a s := h
theorem ek_block_exit {id : Nat} (h : Ek B F Q .normal a s) : Ek B F (Exit.inBlock id Q) (.exit id) a s := fun w K => by simp only [Exit.inBlock, if_true]; exact h w K
theorem ek_block_other {id id' : Nat} (hne : id' ≠ id) (h : Ek B F Q (.exit id') a s) : Ek B F (Exit.inBlock id Q) (.exit id') a s := fun w K => by simp only [Exit.inBlock, if_neg hne]; exact h w K

/-- What lies behind is walked once: M says of the frame and the blocks what it needs. -/
def Mid (B : World) (F : List Nat) (M : Act → List Blk → Prop) (a : Act) (w : World) : Prop := ∃ s, Kn B F s w ∧ M a s
theorem ek_mid {M : Act → List Blk → Prop} (h : M a s) : Ek B F (Exit.then (Mid B F M) Q) .normal a s := fun _ K => ⟨s, K, h⟩
theorem wk_cut {x y : Code} (M : Act → List Blk → Prop) (h1 : Wk R P B F (Exit.then (Mid B F M) Q) a s x) (h2 : ∀ a s, M a s → Wk R P B F Q a s y) : Wk R P B F Q a s (.seq x y) :=
  wk_seq fun w K => wpIn_mono (h1 w K) fun e a' w' h => by
    cases e with
    | normal => obtain ⟨s', K', hM⟩ := h; exact h2 a' s' hM w' K'
    | _ => exact h

theorem least_nat (p : Nat → Prop) (h : ∃ n, p n) : ∃ n, p n ∧ ∀ m, p m → n ≤ m := by
  obtain ⟨n, hn⟩ := h
  induction n using Nat.strongRecOn with
  | _ n ih =>
    by_cases hx : ∃ m, m < n ∧ p m
    · obtain ⟨m, hm, hp⟩ := hx; exact ih m hm hp
    · exact ⟨n, hn, fun m hm => Nat.le_of_not_lt fun hlt => hx ⟨m, hlt, hm⟩⟩

/-- Behind a round: the relation at a smaller number. -/
def Rnd (B : World) (F : List Nat) (I : Nat → Act → List Blk → Prop) (n : Nat) (a : Act) (w : World) : Prop := ∃ m s, m < n ∧ Kn B F s w ∧ I m a s
theorem ek_round {I : Nat → Act → List Blk → Prop} {n : Nat} (m : Nat) (hm : m < n) (h : I m a s) : Ek B F (Exit.then (Rnd B F I n) Q) .normal a s := fun _ K => ⟨m, s, hm, K, h⟩
theorem wk_loop {c : Code} (I : Nat → Act → List Blk → Prop) (n : Nat) (h0 : I n a s)
    (round : ∀ n a s, I n a s → Wk R P B F (Exit.then (Rnd B F I n) Q) a s c) : Wk R P B F Q a s (.loop c) := by
  intro w K
  classical
  let p : Act → World → Nat → Prop := fun a w n => ∃ s, Kn B F s w ∧ I n a s
  let μ : Act → World → Nat := fun a w => if h : ∃ n, p a w n then Classical.choose (least_nat _ h) else 0
  have hμ : ∀ a w n, p a w n → p a w (μ a w) ∧ μ a w ≤ n := by
    intro a w n hp
    have h : ∃ n, p a w n := ⟨n, hp⟩
    have hs := Classical.choose_spec (least_nat _ h)
    simp only [μ, dif_pos h]
    exact ⟨hs.1, hs.2 n hp⟩
  refine wpIn_loop (fun a w => ∃ n, p a w n) μ ⟨n, s, K, h0⟩ ?_
  rintro a w ⟨n, hp⟩
  obtain ⟨⟨s, K, hI⟩, _⟩ := hμ a w n hp
  refine wpIn_mono (round _ a s hI w K) fun e a' w' h => ?_
  cases e with
  | normal =>
    obtain ⟨m, s', hm, K', hI'⟩ := h
    exact ⟨⟨m, s', K', hI'⟩, Nat.lt_of_le_of_lt (hμ a' w' m ⟨s', K', hI'⟩).2 hm⟩
  | _ => exact h
end

/-! ### Loops and cuts by slots: W are the slots that may be written -/
section
variable {R : Option Nat} {P : Program} {Q : Exit → Act → World → Prop} {B : World} {F : List Nat} {a : Act} {s : List Blk}

def Act.puts (a : Act) (W : List Nat) (vs : List Value) : Act := ⟨(W.zip vs).foldl (fun t p => t.setIfInBounds p.1 p.2) a.tmps, a.defers⟩
def Act.vals (a : Act) (W : List Nat) : List Value := W.map fun k => a.tmps.getD k undef

/-- Relation of a loop: the written slots and the blocks. -/
def RelS (W : List Nat) (a0 : Act) (J : Nat → List Value → List Blk → Prop) : Nat → Act → List Blk → Prop := fun n a s => ∃ vs, a = Act.puts a0 W vs ∧ J n vs s
theorem wk_loopS {c : Code} (W : List Nat) (J : Nat → List Value → List Blk → Prop) (n : Nat) (h0 : J n (Act.vals a W) s) (ha : a = Act.puts a W (Act.vals a W))
    (round : ∀ n vs s, J n vs s → Wk R P B F (Exit.then (Rnd B F (RelS W a J) n) Q) (Act.puts a W vs) s c) : Wk R P B F Q a s (.loop c) :=
  wk_loop (RelS W a J) n ⟨_, ha, h0⟩ fun n a' s' h => by
    obtain ⟨vs, rfl, hJ⟩ := h
    exact round n vs s' hJ
theorem ek_roundS {W : List Nat} {a0 : Act} {J : Nat → List Value → List Blk → Prop} {n : Nat} (m : Nat) (hm : m < n) (ha : a = Act.puts a0 W (Act.vals a W)) (h : J m (Act.vals a W) s) :
    Ek B F (Exit.then (Rnd B F (RelS W a0 J) n) Q) .normal a s := ek_round m hm ⟨_, ha, h⟩
def MidS (W : List Nat) (a0 : Act) (J : List Value → List Blk → Prop) : Act → List Blk → Prop := fun a s => ∃ vs, a = Act.puts a0 W vs ∧ J vs s
theorem wk_cutS {x y : Code} (W : List Nat) (J : List Value → List Blk → Prop) (h1 : Wk R P B F (Exit.then (Mid B F (MidS W a J)) Q) a s x)
    (h2 : ∀ vs s, J vs s → Wk R P B F Q (Act.puts a W vs) s y) : Wk R P B F Q a s (.seq x y) :=
  wk_cut (MidS W a J) h1 fun a' s' h => by
    obtain ⟨vs, rfl, hJ⟩ := h
    exact h2 vs s' hJ
theorem ek_midS {W : List Nat} {a0 : Act} {J : List Value → List Blk → Prop} (ha : a = Act.puts a0 W (Act.vals a W)) (h : J (Act.vals a W) s) :
    Ek B F (Exit.then (Mid B F (MidS W a0 J)) Q) .normal a s := ek_mid ⟨_, ha, h⟩
theorem ek_sub {x : Exit} {s' : List Blk} (hs : s'.Sublist s) (h : Ek B F Q x a s') : Ek B F Q x a s := fun w K => h w (K.sub hs)
/-- Another frame for the same. -/
theorem wk_frame {c : Code} {a' : Act} (e : a = a') (h : Wk R P B F Q a' s c) : Wk R P B F Q a s c := e ▸ h
theorem ek_frame {x : Exit} {a' : Act} (e : a = a') (h : Ek B F Q x a' s) : Ek B F Q x a s := e ▸ h

/-- A loop of a known number of rounds. -/
theorem wk_unroll {c : Code} (n : Nat) (h : Wk R P B F (Exit.then (Code.roundsIn (FR R) 0 P c Q n) Q) a s c) : Wk R P B F Q a s (.loop c) :=
  fun w K => wpIn_loop_rounds (n + 1) (by rw [roundsIn_succ]; exact h w K)
theorem ek_again {c : Code} {n : Nat} (h : Wk R P B F (Exit.then (Code.roundsIn (FR R) 0 P c Q n) Q) a s c) : Ek B F (Exit.then (Code.roundsIn (FR R) 0 P c Q (n + 1)) Q) .normal a s :=
  fun w K => by show Code.roundsIn (FR R) 0 P c Q (n + 1) a w; rw [roundsIn_succ]; exact h w K
end

/-! ### Regions -/
section
variable {R : Option Nat} {P : Program} {ops : Array Oper} {Q : Exit → Act → World → Prop} {B : World} {F : List Nat} {s0 : Option (List Blk × List Blk)}

/-- One operation that is carried out. -/
def hop (P : Program) (ops : Array Oper) (Q : Exit → Act → World → Prop) (K : Act → World → Prop) (o : Oper) (a : Act) (w : World) : Prop :=
  if Region.wanted o (yielded ops a.tmps) then o.wp P a w K Q else K (a.put o.dst undef) w
/-- The same where it may be a call of yield. -/
def hopR (R : Option Nat) (P : Program) (ops : Array Oper) (Q : Exit → Act → World → Prop) (K : Act → World → Prop) (o : Oper) (a : Act) (w : World) : Prop :=
  Region.wanted o (yielded ops a.tmps) = true ∧ o.uponIn (FR R) 0 P a K Q ((execOp a.eval o).run P w)

/-- What is known throughout: in a region that keeps the text's order, all; else the first list, behind the marked operation the second. -/
def zOf (s0 : Option (List Blk × List Blk)) (s : List Blk) : List Blk := match s0 with | none => s | some z => z.1
/-- What is known in any case. -/
def yOf (s0 : Option (List Blk × List Blk)) (s : List Blk) : List Blk := match s0 with | none => s | some z => z.2
def Rg (R : Option Nat) (P : Program) (ops : Array Oper) (Q : Exit → Act → World → Prop) (B : World) (F : List Nat) : Option (List Blk × List Blk) → List (Oper × Nat) → Act → List Blk → Prop
  | _, [], a, s => Ek B F Q .normal a s
  | s0, (o, 0) :: l, a, s => ∃ v, YieldsIf P ops (Kn B F (zOf s0 s)) o v a ∧ Rg R P ops Q B F s0 l (a.put o.dst v) s
  | s0, (o, 1) :: l, a, s =>
    (∀ w, Kn B F s w → hop P ops Q (fun a' w' => ∃ s', Kn B F s' w' ∧ (∀ z ∈ s0, z.1.Sublist s') ∧ Rg R P ops Q B F s0 l a' s') o a w) ∨
    (s0 = none ∧ ∀ w, Kn B F s w → hopR R P ops Q (fun a' w' => ∃ s', Kn B F s' w' ∧ Rg R P ops Q B F s0 l a' s') o a w)
  | s0, (o, 2) :: l, a, s => ∃ z, s0 = some z ∧ ∀ w, Kn B F s w → hop P ops Q (fun a' w' => ∃ s', Kn B F s' w' ∧ z.2.Sublist s' ∧ Rg R P ops Q B F (some (z.2, z.2)) l a' s') o a w
  | s0, (o, _ + 3) :: l, a, s => ∃ v, YieldsIf P ops (Kn B F (yOf s0 s)) o v a ∧ Rg R P ops Q B F s0 l (a.put o.dst v) s

theorem hop_mono {K K' : Act → World → Prop} {o : Oper} {a : Act} {w : World} (hk : ∀ a w, K a w → K' a w) (h : hop P ops Q K o a w) : hop P ops Q K' o a w := by
  unfold hop at *
  split
  · rename_i hw; rw [if_pos hw] at h; exact Oper.wp_mono hk h
  · rename_i hw; rw [if_neg hw] at h; exact hk _ _ h
theorem hop_list {K : Act → World → Prop} {o : Oper} {a : Act} {w : World} (h : hop P ops Q K o a w) : wpList P ops (Exit.then K Q) [o] a w := by
  unfold hop at h
  unfold wpList
  split
  · rename_i hw
    rw [if_pos hw] at h
    refine .inl ?_
    unfold Oper.wp at *
    generalize (execOp a.eval o).run P w = r at *
    cases r with
    | ok n w' =>
      cases n <;> simp only [Oper.upon] at h ⊢ <;>
        first
          | exact h
          | exact Calls.mono h (fun e w'' he => by cases e <;> first | exact he | (obtain ⟨a₀, w₀, h₀⟩ := he; exact ⟨a₀, w₀, h₀⟩))
    | halt x w' => cases x <;> simp only [Oper.upon] at h ⊢ <;> exact h
  · rename_i hw
    rw [if_neg hw] at h
    exact h

def noDefer (l : List Oper) : Bool := l.all fun o => match o.op with | .defer _ => false | _ => true
theorem semAt_exec {o : Oper} (h : (match o.op with | .defer _ => false | _ => true) = true) (ρ : Operand → Value) : o.semAt R ρ = execOp ρ o := by
  cases R with
  | none => rfl
  | some l => exact Oper.semAt_some l ρ o (fun c hc => by rw [hc] at h; cases h)

theorem calls_FR {f : Nat} {args : Array Value} {w : World} {X : Ending → World → Prop} (h : Calls P f args w X) : CallsIn (FR R) 0 P f args w X := callsIn_wide.2 h
theorem callsIn_FR {f : Nat} {args : Array Value} {w : World} {X : Ending → World → Prop} {n : Nat} (h : CallsIn (FR R) n P f args w X) : Calls P f args w X := callsIn_wide.1 h
theorem rows_FR {f : String} {args : Array Value} {w : World} {X : Value → World → Prop} (h : Rows P f args w X) : RowsIn (FR R) 0 P f args w X :=
  fun c cs _ => let ⟨v, w', r, st⟩ := h c cs; ⟨v, w', r, stepsIn_wide.2 st⟩

theorem hop_in {K : Act → World → Prop} {o : Oper} {l : List Oper} {a : Act} {w : World} (hd : noDefer (o :: l) = true) (h : hop P ops Q K o a w) (hK : ∀ a w, K a w → wpListIn (FR R) 0 P ops Q l a w) :
    wpListIn (FR R) 0 P ops Q (o :: l) a w := by
  have hd1 : (match o.op with | .defer _ => false | _ => true) = true := by simp only [noDefer, List.all_cons, Bool.and_eq_true] at hd; exact hd.1
  unfold hop at h
  unfold wpListIn
  split
  · rename_i hw
    rw [if_pos hw] at h
    refine ⟨fun _ _ => trivial, ?_⟩
    have hsem : o.semAt (FR R).round a.eval = execOp a.eval o := semAt_exec (R := R) hd1 _
    rw [hsem]
    unfold Oper.wp at h
    generalize (execOp a.eval o).run P w = r at *
    cases r with
    | ok n w' =>
      cases n <;> simp only [Oper.upon, Oper.uponIn] at h ⊢ <;>
        first
          | exact hK _ _ h
          | exact ⟨(fun hh => nomatch hh), calls_FR (h.mono fun e w'' he => by cases e <;> first | exact hK _ _ he | exact he)⟩
          | exact ⟨(fun hh => nomatch hh), rows_FR (h.mono fun _ _ he => hK _ _ he)⟩
    | halt x w' => cases x <;> simp only [Oper.upon, Oper.uponIn] at h ⊢ <;> exact h
  · rename_i hw
    rw [if_neg hw] at h
    exact ⟨fun _ _ => trivial, hK _ _ h⟩

theorem hopR_in {K : Act → World → Prop} {o : Oper} {l : List Oper} {a : Act} {w : World} (hd : noDefer (o :: l) = true) (h : hopR R P ops Q K o a w) (hK : ∀ a w, K a w → wpListIn (FR R) 0 P ops Q l a w) :
    wpListIn (FR R) 0 P ops Q (o :: l) a w := by
  have hd1 : (match o.op with | .defer _ => false | _ => true) = true := by simp only [noDefer, List.all_cons, Bool.and_eq_true] at hd; exact hd.1
  obtain ⟨hw, h⟩ := h
  unfold wpListIn
  rw [if_pos hw]
  refine ⟨fun _ _ => trivial, ?_⟩
  have hsem : o.semAt (FR R).round a.eval = execOp a.eval o := semAt_exec (R := R) hd1 _
  rw [hsem]
  generalize (execOp a.eval o).run P w = r at *
  cases r with
  | ok n w' =>
    cases n <;> simp only [Oper.uponIn] at h ⊢ <;>
      first
        | exact hK _ _ h
        | exact h
        | exact ⟨h.1, h.2.mono fun e w'' he => by cases e <;> first | exact hK _ _ he | exact he⟩
        | exact ⟨h.1, h.2.mono fun _ _ he => hK _ _ he⟩
  | halt x w' => cases x <;> simp only [Oper.uponIn] at h ⊢ <;> exact h

theorem rg_text : ∀ (l : List (Oper × Nat)) (a : Act) (s : List Blk), noDefer (l.map (·.1)) = true → Rg R P ops Q B F none l a s → ∀ w, Kn B F s w → wpListIn (FR R) 0 P ops Q (l.map (·.1)) a w
  | [], _, _, _, h, w, K => h w K
  | (o, 0) :: l, a, s, hd, ⟨v, hy, h⟩, w, K => by
    have hd2 : noDefer (l.map (·.1)) = true := by simp only [noDefer, List.map_cons, List.all_cons, Bool.and_eq_true] at hd; exact hd.2
    simp only [List.map_cons] at hd ⊢
    refine hop_in (K := fun a' w' => a' = a.put o.dst v ∧ w' = w) hd ?_ (fun a' w' ⟨ha, hw⟩ => by subst ha hw; exact rg_text l _ s hd2 h _ K)
    unfold hop
    rcases hy with ⟨hw, hv⟩ | ⟨hw, rfl⟩
    · rw [if_pos hw]; unfold Oper.wp; rw [hv w K]; exact ⟨rfl, rfl⟩
    · rw [if_neg (by simp [hw])]; exact ⟨rfl, rfl⟩
  | (o, 1) :: l, a, s, hd, h, w, K => by
    have hd2 : noDefer (l.map (·.1)) = true := by simp only [noDefer, List.map_cons, List.all_cons, Bool.and_eq_true] at hd; exact hd.2
    simp only [List.map_cons] at hd ⊢
    rcases h with h | ⟨_, h⟩
    · exact hop_in hd (h w K) (fun a' w' ⟨s', K', _, h'⟩ => rg_text l a' s' hd2 h' w' K')
    · exact hopR_in hd (h w K) (fun a' w' ⟨s', K', h'⟩ => rg_text l a' s' hd2 h' w' K')
  | (o, 2) :: l, a, s, hd, h, w, K => by obtain ⟨z, hz, _⟩ := h; cases hz
  | (o, n + 3) :: l, a, s, hd, ⟨v, hy, h⟩, w, K => by
    have hd2 : noDefer (l.map (·.1)) = true := by simp only [noDefer, List.map_cons, List.all_cons, Bool.and_eq_true] at hd; exact hd.2
    simp only [List.map_cons] at hd ⊢
    refine hop_in (K := fun a' w' => a' = a.put o.dst v ∧ w' = w) hd ?_ (fun a' w' ⟨ha, hw⟩ => by subst ha hw; exact rg_text l _ s hd2 h _ K)
    unfold hop
    rcases hy with ⟨hw, hv⟩ | ⟨hw, rfl⟩
    · rw [if_pos hw]; unfold Oper.wp; rw [hv w K]; exact ⟨rfl, rfl⟩
    · rw [if_neg (by simp [hw])]; exact ⟨rfl, rfl⟩

theorem wpOp_of_list1 {K : Act → World → Prop} {i : Nat} {a : Act} {w : World} {o : Oper} (ho : ops[i]? = some o) (h : hop P ops Q K o a w) : wpOp P ops Q i K a w := by
  unfold wpOp
  simp only [ho]
  unfold hop at h
  split
  · rename_i hw; rw [if_pos hw] at h; exact .inl h
  · rename_i hw; rw [if_neg hw] at h; exact h

def mks (i : Nat) (B : World) (F : List Nat) (z : List Blk) : List (Nat × (World → Prop)) := [(i, Kn B F z)]
theorem rg_eag (lo : List Oper) (hlo : ops = lo.toArray) (mk : Nat) : ∀ (ord : List (Nat × Nat)) (z : List Blk × List Blk) (a : Act) (s : List Blk) (m : List (Nat × (World → Prop))),
    (m = [(mk, Kn B F z.2)] ∨ (m = [] ∧ z.1 = z.2 ∧ ∀ p ∈ ord, p.2 ≠ 2)) → (ord.map (·.2)).filter (· == 2) = (if m = [] then [] else [2]) →
    (ord.all fun p => decide (p.1 < lo.length)) = true → Rg R P ops Q B F (some z) (ord.map fun p => (lo.getD p.1 default, p.2)) a s → ∀ w, Kn B F s w → wpEagF P ops Q (Kn B F z.2) ord m (Kn B F z.1) a w
  | [], _, _, _, _, _, _, _, h, w, K => h w K
  | (i, 0) :: l, z, a, s, m, hm, hf, hi, ⟨v, hy, h⟩, w, K => by
    simp only [List.all_cons, Bool.and_eq_true, decide_eq_true_eq] at hi
    have ho : ops[i]? = some (lo.getD i default) := by subst hlo; simp [List.getD_eq_getElem?_getD, hi.1]
    exact ⟨_, v, ho, hy, rg_eag lo hlo mk l z _ s m (hm.imp id fun ⟨x, y, q⟩ => ⟨x, y, fun p hp => q p (by simp [hp])⟩) (by simpa using hf) (by simpa using hi.2) h w K⟩
  | (i, n + 3) :: l, z, a, s, m, hm, hf, hi, ⟨v, hy, h⟩, w, K => by
    simp only [List.all_cons, Bool.and_eq_true, decide_eq_true_eq] at hi
    have ho : ops[i]? = some (lo.getD i default) := by subst hlo; simp [List.getD_eq_getElem?_getD, hi.1]
    exact ⟨_, v, ho, hy, rg_eag lo hlo mk l z _ s m (hm.imp id fun ⟨x, y, q⟩ => ⟨x, y, fun p hp => q p (by simp [hp])⟩) (by simpa [show (n + 3 == 2) = false from by simp] using hf) (by simpa using hi.2) h w K⟩
  | (i, 1) :: l, z, a, s, m, hm, hf, hi, h, w, K => by
    simp only [List.all_cons, Bool.and_eq_true, decide_eq_true_eq] at hi
    have ho : ops[i]? = some (lo.getD i default) := by subst hlo; simp [List.getD_eq_getElem?_getD, hi.1]
    rcases h with h | ⟨hn, _⟩
    · exact wpOp_of_list1 ho (hop_mono (fun a' w' ⟨s', K', hz, h'⟩ => ⟨K'.sub (hz z rfl), rg_eag lo hlo mk l z a' s' m (hm.imp id fun ⟨x, y, q⟩ => ⟨x, y, fun p hp => q p (by simp [hp])⟩) (by simpa using hf) (by simpa using hi.2) h' w' K'⟩) (h w K))
    · cases hn
  | (i, 2) :: l, z, a, s, m, hm, hf, hi, h, w, K => by
    simp only [List.all_cons, Bool.and_eq_true, decide_eq_true_eq] at hi
    have ho : ops[i]? = some (lo.getD i default) := by subst hlo; simp [List.getD_eq_getElem?_getD, hi.1]
    rcases hm with rfl | ⟨rfl, _, q⟩
    · obtain ⟨z', hz', h⟩ := h
      cases hz'
      have h4 : (l.map (·.2)).filter (· == 2) = [] := by
        have := hf
        simp at this
        simpa using this
      have hl1 : ∀ p ∈ l, p.2 ≠ 2 := fun p hp e => by
        have : p.2 ∈ (l.map (·.2)).filter (· == 2) := List.mem_filter.2 ⟨List.mem_map.2 ⟨p, hp, rfl⟩, by simp [e]⟩
        rw [h4] at this; cases this
      show wpOp P ops Q i (fun a' w' => Kn B F z.2 w' ∧ wpEagF P ops Q (Kn B F z.2) l [] (Kn B F z.2) a' w') a w
      exact wpOp_of_list1 ho (hop_mono (fun a' w' ⟨s', K', hz, h'⟩ => ⟨K'.sub hz, rg_eag lo hlo mk l (z.2, z.2) a' s' [] (.inr ⟨rfl, rfl, hl1⟩) (by rw [if_pos rfl]; exact h4) (by simpa using hi.2) h' w' K'⟩) (h w K))
    · exact absurd rfl (q (i, 2) (by simp))

/-- A region in the order of the text; f: which operations are soft. -/
theorem wk_region {id : Nat} {a : Act} {s : List Blk} {l : List Oper} (f : List Nat) (hf : f.length = l.length) (hd : noDefer l = true)
    (h : Rg R P l.toArray Q B F none (l.zip f) a s) : Wk R P B F Q a s (Code.region id l.toArray false) := fun w K =>
  wpIn_region_lit (by have := rg_text (l.zip f) a s (by rw [List.map_fst_zip (by omega)]; exact hd) h w K; rwa [List.map_fst_zip (by omega)] at this)

def marks (ord : List (Nat × Nat)) : List Nat := (ord.filter fun p => p.2 == 2).map (·.1)
/-- A region that draws its order; z: what is known till the marked operation comes up, z1: what is known behind it. -/
theorem wk_draws {id : Nat} {a : Act} {s : List Blk} {l : List Oper} (z z1 : List Blk) (ord : List (Nat × Nat)) (mk : List Nat) (hm : P.follows .mixedOrders = true)
    (hB : ((Region.noSelect l.toArray && (decide (ord.length = l.length) && eagF .any l.toArray ord mk (Array.replicate l.length false))) &&
      ((ord.all fun p => decide (p.1 < l.length)) && (decide (mk.length ≤ 1) && decide ((ord.map (·.2)).filter (· == 2) = mk.map fun _ => 2)))) = true)
    (hQ : ∀ c d v a w, Q (.panic c) (Act.put a d v) w → Q (.panic c) a w) (hz : z.Sublist s) (hzz : mk = [] → z = z1)
    (h : Rg none P l.toArray Q B F (some (z, z1)) (ord.map fun p => (l.getD p.1 default, p.2)) a s) (hy : z1.Sublist z := by exact List.Sublist.refl _) : Wk none P B F Q a s (Code.region id l.toArray true) := fun w K => by
  simp only [Bool.and_eq_true, decide_eq_true_eq, List.all_eq_true] at hB
  obtain ⟨hB1, h1, h3, h4⟩ := hB
  refine wpIn_wide.2 ?_
  match mk, h3, h4, hB1, hzz with
  | [], _, h4, hB1, hzz =>
    refine wp_region_eagF [] (Kn B F z) ord hm (by simp only [Bool.and_eq_true, decide_eq_true_eq]; exact hB1) hQ (K.drew.sub hz) (fun w K => K.sub hy) (fun x hx => nomatch hx) ?_
    refine rg_eag l rfl 0 ord (z, z1) a s [] (.inr ⟨rfl, hzz rfl, fun p hp e => ?_⟩) (by rw [if_pos rfl]; exact h4) (by simpa [List.all_eq_true] using h1) h w.drew K.drew
    have : p.2 ∈ (ord.map (·.2)).filter (· == 2) := List.mem_filter.2 ⟨List.mem_map.2 ⟨p, hp, rfl⟩, by simp [e]⟩
    rw [h4] at this; cases this
  | [x], _, h4, hB1, _ =>
    refine wp_region_eagF [(x, Kn B F z1)] (Kn B F z) ord hm (by simp only [Bool.and_eq_true, decide_eq_true_eq]; exact hB1) hQ (K.drew.sub hz) (fun w K => K.sub hy) (fun x hx w K => by simp only [List.mem_singleton] at hx; subst hx; exact K) ?_
    exact rg_eag l rfl x ord (z, z1) a s [(x, Kn B F z1)] (.inl rfl) (by rw [if_neg (by simp)]; exact h4) (by simpa [List.all_eq_true] using h1) h w.drew K.drew
  | _ :: _ :: _, h3, _, _, _ => simp at h3

/-- All is known till the marked store. -/
theorem wk_draws_m {id : Nat} {a : Act} {s z1 : List Blk} (hz1 : z1.Sublist s) {l : List Oper} (ord : List (Nat × Nat)) (mk : Nat) (hm : P.follows .mixedOrders = true)
    (hB : ((Region.noSelect l.toArray && (decide (ord.length = l.length) && eagF .any l.toArray ord [mk] (Array.replicate l.length false))) &&
      ((ord.all fun p => decide (p.1 < l.length)) && (decide ([mk].length ≤ 1) && decide ((ord.map (·.2)).filter (· == 2) = [mk].map fun _ => 2)))) = true)
    (hQ : ∀ c d v a w, Q (.panic c) (Act.put a d v) w → Q (.panic c) a w)
    (h : Rg none P l.toArray Q B F (some (s, z1)) (ord.map fun p => (l.getD p.1 default, p.2)) a s) : Wk none P B F Q a s (Code.region id l.toArray true) :=
  wk_draws s z1 ord [mk] hm hB hQ (List.Sublist.refl _) (fun e => nomatch e) h hz1
/-- A function with a body. -/
def isGo (P : Program) (f : Nat) : Bool := match P.funcs[f]? with | some fn => !(fn.name == "runtime.NumGoroutine") && !fn.body.isNone | none => false
theorem run_callFunc_go {f : Nat} (h : isGo P f = true) (args : Array Value) (w : World) : (callFunc f args).run P w = .ok (.enter f args) w := by
  unfold isGo at h
  cases hf : P.funcs[f]? with
  | none => rw [hf] at h; cases h
  | some fn =>
    rw [hf] at h
    simp only [Bool.and_eq_true, Bool.not_eq_true'] at h
    have h1 : ¬ fn.name = "runtime.NumGoroutine" := by simpa using h.1
    have h2 : ¬ fn.body = none := fun e => by rw [e] at h; exact absurd h.2 (by simp)
    simp [callFunc, go_sem, hf, h1, h2]

section
variable {l : List (Oper × Nat)} {a : Act} {s : List Blk} {d : Option Tmp} {op : Op} {t : TypeId} {p : String} {af : Array Edge} {v : Value}

/-- An operation yields v and leaves the world; it is carried out and leaves w'. (Names that simp does not open.) -/
def Yld (r : Result Next) (v : Value) (w : World) : Prop := r = .ok (.value v) w
theorem Yld.mk (v : Value) (w : World) : Yld (.ok (.value v) w) v w := rfl
def Dne (r : Result Next) (w : World) : Prop := r = .ok .skip w
theorem Dne.mk (w : World) : Dne (.ok .skip w) w := rfl
theorem rg_nil (h : Ek B F Q .normal a s) : Rg R P ops Q B F s0 [] a s := h
theorem rg_soft (hy : ∀ w, Kn B F (zOf s0 s) w → Yld ((execOp a.eval ⟨d, op, t, p, af, none⟩).run P w) v w) (h : Rg R P ops Q B F s0 l (a.put d v) s) :
    Rg R P ops Q B F s0 ((⟨d, op, t, p, af, none⟩, 0) :: l) a s := ⟨v, .inl ⟨by simp [Region.wanted], hy⟩, h⟩
theorem rg_move {x : Operand} (h : Rg R P ops Q B F s0 l (a.put d (a.eval x)) s) : Rg R P ops Q B F s0 ((⟨d, .move x, t, p, af, none⟩, 0) :: l) a s :=
  rg_soft (fun w _ => BigFrame.run_move x rfl w) h
theorem rg_assign {x : Operand} (h : Rg R P ops Q B F s0 l (a.put d (a.eval x)) s) : Rg R P ops Q B F s0 ((⟨d, .assign x, t, p, af, none⟩, 0) :: l) a s :=
  rg_soft (fun w _ => BigFrame.run_assign x rfl w) h
theorem rg_soft_g {g : Nat × Bool} (hg : Region.wanted ⟨d, op, t, p, af, some g⟩ (yielded ops a.tmps) = true)
    (hy : ∀ w, Kn B F (zOf s0 s) w → Yld ((execOp a.eval ⟨d, op, t, p, af, some g⟩).run P w) v w) (h : Rg R P ops Q B F s0 l (a.put d v) s) :
    Rg R P ops Q B F s0 ((⟨d, op, t, p, af, some g⟩, 0) :: l) a s := ⟨v, .inl ⟨hg, hy⟩, h⟩
theorem rg_skip {g : Nat × Bool} (hg : Region.wanted ⟨d, op, t, p, af, some g⟩ (yielded ops a.tmps) = false)
    (h : Rg R P ops Q B F s0 l (a.put d undef) s) : Rg R P ops Q B F s0 ((⟨d, op, t, p, af, some g⟩, 0) :: l) a s := ⟨undef, .inr ⟨hg, rfl⟩, h⟩

/-! An operation that reads no memory. -/
theorem rg_softP (hy : ∀ w, Kn B F (yOf s0 s) w → Yld ((execOp a.eval ⟨d, op, t, p, af, none⟩).run P w) v w) (h : Rg R P ops Q B F s0 l (a.put d v) s) :
    Rg R P ops Q B F s0 ((⟨d, op, t, p, af, none⟩, 3) :: l) a s := ⟨v, .inl ⟨by simp [Region.wanted], hy⟩, h⟩
theorem rg_moveP {x : Operand} (h : Rg R P ops Q B F s0 l (a.put d (a.eval x)) s) : Rg R P ops Q B F s0 ((⟨d, .move x, t, p, af, none⟩, 3) :: l) a s :=
  rg_softP (fun w _ => BigFrame.run_move x rfl w) h
theorem rg_assignP {x : Operand} (h : Rg R P ops Q B F s0 l (a.put d (a.eval x)) s) : Rg R P ops Q B F s0 ((⟨d, .assign x, t, p, af, none⟩, 3) :: l) a s :=
  rg_softP (fun w _ => BigFrame.run_assign x rfl w) h
theorem rg_softP_g {g : Nat × Bool} (hg : Region.wanted ⟨d, op, t, p, af, some g⟩ (yielded ops a.tmps) = true)
    (hy : ∀ w, Kn B F (yOf s0 s) w → Yld ((execOp a.eval ⟨d, op, t, p, af, some g⟩).run P w) v w) (h : Rg R P ops Q B F s0 l (a.put d v) s) :
    Rg R P ops Q B F s0 ((⟨d, op, t, p, af, some g⟩, 3) :: l) a s := ⟨v, .inl ⟨hg, hy⟩, h⟩
theorem rg_skipP {g : Nat × Bool} (hg : Region.wanted ⟨d, op, t, p, af, some g⟩ (yielded ops a.tmps) = false)
    (h : Rg R P ops Q B F s0 l (a.put d undef) s) : Rg R P ops Q B F s0 ((⟨d, op, t, p, af, some g⟩, 3) :: l) a s := ⟨undef, .inr ⟨hg, rfl⟩, h⟩
theorem rg_softbP {b : Bool} (hy : ∀ w, Kn B F (yOf s0 s) w → Yld ((execOp a.eval ⟨d, op, t, p, af, none⟩).run P w) (.bool b) w) (h : ∀ x, b = x → Rg R P ops Q B F s0 l (a.put d (.bool x)) s) :
    Rg R P ops Q B F s0 ((⟨d, op, t, p, af, none⟩, 3) :: l) a s := rg_softP hy (h b rfl)
theorem rg_softbP_g {b : Bool} {g : Nat × Bool} (hg : Region.wanted ⟨d, op, t, p, af, some g⟩ (yielded ops a.tmps) = true)
    (hy : ∀ w, Kn B F (yOf s0 s) w → Yld ((execOp a.eval ⟨d, op, t, p, af, some g⟩).run P w) (.bool b) w) (h : ∀ x, b = x → Rg R P ops Q B F s0 l (a.put d (.bool x)) s) :
    Rg R P ops Q B F s0 ((⟨d, op, t, p, af, some g⟩, 3) :: l) a s := rg_softP_g hg hy (h b rfl)
/-- A truth value on which the way parts. -/
theorem rg_softb {b : Bool} (hy : ∀ w, Kn B F (zOf s0 s) w → Yld ((execOp a.eval ⟨d, op, t, p, af, none⟩).run P w) (.bool b) w) (h : ∀ x, b = x → Rg R P ops Q B F s0 l (a.put d (.bool x)) s) :
    Rg R P ops Q B F s0 ((⟨d, op, t, p, af, none⟩, 0) :: l) a s := rg_soft hy (h b rfl)
theorem rg_softb_g {b : Bool} {g : Nat × Bool} (hg : Region.wanted ⟨d, op, t, p, af, some g⟩ (yielded ops a.tmps) = true)
    (hy : ∀ w, Kn B F (zOf s0 s) w → Yld ((execOp a.eval ⟨d, op, t, p, af, some g⟩).run P w) (.bool b) w) (h : ∀ x, b = x → Rg R P ops Q B F s0 l (a.put d (.bool x)) s) :
    Rg R P ops Q B F s0 ((⟨d, op, t, p, af, some g⟩, 0) :: l) a s := rg_soft_g hg hy (h b rfl)
/-- An operation that is carried out, its run being known. -/
theorem rg_run {g : Option (Nat × Bool)} (hg : Region.wanted ⟨d, op, t, p, af, g⟩ (yielded ops a.tmps) = true)
    (h : ∀ w, Kn B F s w → ∃ v w' s', ((execOp a.eval ⟨d, op, t, p, af, g⟩).run P w = .ok (.value v) w' ∨ (v = undef ∧ (execOp a.eval ⟨d, op, t, p, af, g⟩).run P w = .ok .skip w')) ∧ Kn B F s' w' ∧ (∀ z ∈ s0, z.1.Sublist s') ∧ Rg R P ops Q B F s0 l (a.put d v) s') :
    Rg R P ops Q B F s0 ((⟨d, op, t, p, af, g⟩, 1) :: l) a s := by
  refine .inl fun w K => ?_
  obtain ⟨v, w', s', hr, K', hz, h'⟩ := h w K
  unfold hop
  rw [if_pos hg]
  unfold Oper.wp
  rcases hr with hr | ⟨rfl, hr⟩ <;> rw [hr]
  · exact ⟨s', K', hz, h'⟩
  · exact ⟨s', K', hz, h'⟩

theorem rg_sub : ∀ {s0 : Option (List Blk × List Blk)} {l : List (Oper × Nat)} {a : Act} {s s' : List Blk}, s'.Sublist s → (∀ z ∈ s0, z.1.Sublist s') → Rg R P ops Q B F s0 l a s' → Rg R P ops Q B F s0 l a s
  | _, [], _, _, _, hs, _, h => fun w K => h w (K.sub hs)
  | s0, (o, 0) :: l, a, s, s', hs, hz, ⟨v, hy, h⟩ => ⟨v, (by
      cases s0 with
      | none => exact hy.imp (fun ⟨x, y⟩ => ⟨x, fun w K => y w (K.sub hs)⟩) id
      | some z => exact hy), rg_sub hs hz h⟩
  | s0, (o, 1) :: l, a, s, s', hs, hz, h => h.imp (fun h w K => h w (K.sub hs)) (fun ⟨e, h⟩ => ⟨e, fun w K => h w (K.sub hs)⟩)
  | s0, (o, 2) :: l, a, s, s', hs, hz, h => let ⟨z, e, h⟩ := h; ⟨z, e, fun w K => h w (K.sub hs)⟩
  | s0, (o, n + 3) :: l, a, s, s', hs, hz, ⟨v, hy, h⟩ => ⟨v, (by
      cases s0 with
      | none => exact hy.imp (fun ⟨x, y⟩ => ⟨x, fun w K => y w (K.sub hs)⟩) id
      | some z => exact hy), rg_sub hs hz h⟩
theorem rg_skip_h {g : Nat × Bool} (hg : Region.wanted ⟨d, op, t, p, af, some g⟩ (yielded ops a.tmps) = false) (hz : ∀ z ∈ s0, z.1.Sublist s)
    (h : Rg R P ops Q B F s0 l (a.put d undef) s) : Rg R P ops Q B F s0 ((⟨d, op, t, p, af, some g⟩, 1) :: l) a s :=
  .inl fun w K => by unfold hop; rw [if_neg (by simp [hg])]; exact ⟨s, K, hz, h⟩
/-- A new block (alloc, box). -/
theorem rg_new {cs : Array Value} {ty : Nat} {gd : Option (Nat × Bool)} (hg : Region.wanted ⟨d, op, t, p, af, gd⟩ (yielded ops a.tmps) = true) (hr : ∀ w : World, (execOp a.eval ⟨d, op, t, p, af, gd⟩).run P w = .ok (.value (.pointer (some ⟨w.heap.size, 0, none⟩))) (w.alloc (.cells cs ty)))
    (hz : ∀ z ∈ s0, z.1.Sublist s) (h : ∀ g, Rg R P ops Q B F s0 l (a.put d (.pointer (some ⟨g, 0, none⟩))) ((g, .cells cs ty) :: s)) :
    Rg R P ops Q B F s0 ((⟨d, op, t, p, af, gd⟩, 1) :: l) a s :=
  rg_run hg fun w K => ⟨_, _, _, .inl (hr w), K.alloc _, fun z hz' => (hz z hz').cons _, h _⟩

/-- A store. -/
theorem rg_store {s' : List Blk} (hr : ∀ w, Kn B F s w → ∃ w', Dne ((execOp a.eval ⟨d, op, t, p, af, none⟩).run P w) w' ∧ Kn B F s' w')
    (hz : ∀ z ∈ s0, z.1.Sublist s') (h : Rg R P ops Q B F s0 l (a.put d undef) s') :
    Rg R P ops Q B F s0 ((⟨d, op, t, p, af, none⟩, 1) :: l) a s :=
  rg_run (by simp [Region.wanted]) fun w K => let ⟨w', h1, h2⟩ := hr w K; ⟨undef, w', s', .inr ⟨rfl, h1⟩, h2, hz, h⟩

/-- A store that is marked: behind it other things are known. -/
theorem rg_storeM {z : List Blk × List Blk} {s' : List Blk} (hr : ∀ w, Kn B F s w → ∃ w', Dne ((execOp a.eval ⟨d, op, t, p, af, none⟩).run P w) w' ∧ Kn B F s' w')
    (hz : z.2.Sublist s') (h : Rg R P ops Q B F (some (z.2, z.2)) l (a.put d undef) s') :
    Rg R P ops Q B F (some z) ((⟨d, op, t, p, af, none⟩, 2) :: l) a s :=
  ⟨z, rfl, fun w K => by
    obtain ⟨w', h1, h2⟩ := hr w K
    unfold hop
    rw [if_pos (by simp [Region.wanted])]
    unfold Oper.wp
    rw [h1]
    exact ⟨s', h2, hz, h⟩⟩
/-- A call of a function that is named. -/
theorem rg_call {f : Nat} {cargs : Array Operand} {at_ : Array TypeId} {args : Array Value} {gd : Option (Nat × Bool)} (hg : Region.wanted ⟨d, .call ⟨.value (.func f), cargs, at_⟩, t, p, af, gd⟩ (yielded ops a.tmps) = true) (hgo : isGo P f = true) (hargs : cargs.map a.eval = args)
    (h : ∀ w, Kn B F s w → Calls P f args w (fun e w' => ∃ v s', e = .returned v ∧ Kn B F s' w' ∧ (∀ z ∈ s0, z.1.Sublist s') ∧ Rg R P ops Q B F s0 l (a.put d v) s')) :
    Rg R P ops Q B F s0 ((⟨d, .call ⟨.value (.func f), cargs, at_⟩, t, p, af, gd⟩, 1) :: l) a s := by
  refine .inl fun w K => ?_
  unfold hop
  rw [if_pos hg]
  unfold Oper.wp
  have hr : (execOp a.eval ⟨d, .call ⟨.value (.func f), cargs, at_⟩, t, p, af, gd⟩).run P w = .ok (.enter f args) w := by
    have he : #[] ++ cargs.map a.eval ++ #[] = args := by simpa using hargs
    rw [execOp_call_go, he]
    exact run_callFunc_go hgo args w
  rw [hr]
  refine (h w K).mono fun e w' he => ?_
  obtain ⟨v, s', rfl, K', hz, h'⟩ := he
  exact ⟨s', K', hz, h'⟩
/-- A call that computes a value and leaves what was there. -/
theorem rg_pure {f : Nat} {cargs : Array Operand} {at_ : Array TypeId} {args : Array Value} {v : Value} {gd : Option (Nat × Bool)} (hg : Region.wanted ⟨d, .call ⟨.value (.func f), cargs, at_⟩, t, p, af, gd⟩ (yielded ops a.tmps) = true) (hgo : isGo P f = true)
    (h : ∀ w, Kn B F s w → Calls P f args w (fun e w' => e = .returned v ∧ Below w.heap.size w w')) (hargs : cargs.map a.eval = args)
    (hz : ∀ z ∈ s0, z.1.Sublist s) (k : Rg R P ops Q B F s0 l (a.put d v) s) :
    Rg R P ops Q B F s0 ((⟨d, .call ⟨.value (.func f), cargs, at_⟩, t, p, af, gd⟩, 1) :: l) a s :=
  rg_call hg hgo hargs fun w K => (h w K).mono fun e w' ⟨he, hb⟩ => ⟨v, s, he, K.call hb, hz, k⟩
theorem rg_pureb {f : Nat} {cargs : Array Operand} {at_ : Array TypeId} {args : Array Value} {b : Bool} {gd : Option (Nat × Bool)} (hg : Region.wanted ⟨d, .call ⟨.value (.func f), cargs, at_⟩, t, p, af, gd⟩ (yielded ops a.tmps) = true) (hgo : isGo P f = true)
    (h : ∀ w, Kn B F s w → Calls P f args w (fun e w' => e = .returned (.bool b) ∧ Below w.heap.size w w')) (hargs : cargs.map a.eval = args)
    (hz : ∀ z ∈ s0, z.1.Sublist s) (k : ∀ x, b = x → Rg R P ops Q B F s0 l (a.put d (.bool x)) s) :
    Rg R P ops Q B F s0 ((⟨d, .call ⟨.value (.func f), cargs, at_⟩, t, p, af, gd⟩, 1) :: l) a s := rg_pure hg hgo h hargs hz (k b rfl)
/-- A call that returns a value of which R is known, with blocks that it has made. -/
theorem rg_made {f : Nat} {cargs : Array Operand} {at_ : Array TypeId} {args : Array Value} {T : Value → List Blk → Prop} {gd : Option (Nat × Bool)} (hg : Region.wanted ⟨d, .call ⟨.value (.func f), cargs, at_⟩, t, p, af, gd⟩ (yielded ops a.tmps) = true) (hgo : isGo P f = true)
    (h : ∀ w, Kn B F s w → Calls P f args w (fun e w' => ∃ v u, e = .returned v ∧ T v u ∧ Made w u w')) (hargs : cargs.map a.eval = args)
    (hz : ∀ z ∈ s0, z.1.Sublist s) (k : ∀ v u, T v u → Rg R P ops Q B F s0 l (a.put d v) (u ++ s)) :
    Rg R P ops Q B F s0 ((⟨d, .call ⟨.value (.func f), cargs, at_⟩, t, p, af, gd⟩, 1) :: l) a s :=
  rg_call hg hgo hargs fun w K => (h w K).mono fun e w' ⟨v, u, he, hT, hm⟩ => ⟨v, u ++ s, he, K.add hm, fun z hz' => (hz z hz').trans (List.sublist_append_right _ _), k v u hT⟩
end
theorem res_t {fn : Func} {tmps : Array Value} {w : World} (k : Nat) (h : fn.results = #[.tmp k]) : (results fn tmps).run P w = .ok (tmps.getD k undef) w := by
  simp [results, h]
theorem res_0 {fn : Func} {tmps : Array Value} {w : World} (h : fn.results = #[]) : (results fn tmps).run P w = .ok (.tuple #[]) w := by
  simp [results, h]
theorem res_tt {fn : Func} {tmps : Array Value} {w : World} (k j : Nat) (h : fn.results = #[.tmp k, .tmp j]) : (results fn tmps).run P w = .ok (.tuple #[tmps.getD k undef, tmps.getD j undef]) w := by
  simp [results, h]
theorem res_ttt {fn : Func} {tmps : Array Value} {w : World} (k j i : Nat) (h : fn.results = #[.tmp k, .tmp j, .tmp i]) : (results fn tmps).run P w = .ok (.tuple #[tmps.getD k undef, tmps.getD j undef, tmps.getD i undef]) w := by
  simp [results, h]
/-- The end of a body. -/
theorem ek_ret {fn : Func} {R : Ending → World → Prop} {a : Act} {s : List Blk} (h : ∀ w, Kn B F s w → a.defers = [] ∧ ∃ v, (results fn a.tmps).run P w = .ok v w ∧ R (.returned v) w) :
    Ek B F (bodyPost P fn R) .ret a s := h
theorem ek_norm {fn : Func} {R : Ending → World → Prop} {a : Act} {s : List Blk} (h : ∀ w, Kn B F s w → a.defers = [] ∧ ∃ v, (results fn a.tmps).run P w = .ok v w ∧ R (.returned v) w) :
    Ek B F (bodyPost P fn R) .normal a s := h
end
end Go.Proofs.Ytccbinnlnkpplaa
