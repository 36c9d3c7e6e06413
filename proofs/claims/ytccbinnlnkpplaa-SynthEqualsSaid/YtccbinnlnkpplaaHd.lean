/- Blocks of the call's own that are known whole; what a call leaves of them. -/
import Derived.Test.YtccbinnlnkpplaaEag
namespace Go.Proofs.Ytccbinnlnkpplaa
set_option linter.all false
open Go.RowKit

/-- Block g is a row of cells, none of them shared with a string. -/
def Hd (w : World) (g : Nat) (t : TypeId) (cs : Array Value) : Prop := w.heap[g]? = some (.cells cs t (0, 0))

section
variable {w w' : World} {g : Nat} {t : TypeId} {cs : Array Value}
theorem Hd.lt (h : Hd w g t cs) : g < w.heap.size := by
  rcases Nat.lt_or_ge g w.heap.size with hlt | hge
  · exact hlt
  · unfold Hd at h; rw [Array.getElem?_eq_none hge] at h; cases h
theorem Hd.cell (h : Hd w g t cs) (i : Nat) : w.cell? ⟨g, i, none⟩ = cs[i]? := cell_of_row w g i cs t (0, 0) h
theorem Hd.free (h : Hd w g t cs) (i : Nat) : w.frozen? ⟨g, i, none⟩ = false := by
  unfold Hd at h
  simp [World.frozen?, h]
theorem Hd.facts (h : Hd w g t cs) : (∀ i, w.cell? ⟨g, i, none⟩ = cs[i]?) ∧ (∀ i, w.frozen? ⟨g, i, none⟩ = false) := ⟨h.cell, h.free⟩
theorem Hd.new {g : Nat} (hg : g = w.heap.size) : Hd (w.alloc (.cells cs t)) g t cs := by subst hg; exact heap_alloc_new w _
theorem Hd.drew (h : Hd w g t cs) : Hd w.drew g t cs := h
theorem Hd.drewN (h : Hd w g t cs) (n : Nat) : Hd (w.drewN n) g t cs := h
theorem Hd.alloc (h : Hd w g t cs) (o : Obj) : Hd (w.alloc o) g t cs := (Below.heap_alloc w o g h.lt).trans h
theorem Hd.set (h : Hd w g t cs) (i : Nat) (u : Value) : Hd (w.setCell ⟨g, i, none⟩ u) g t (cs.setIfInBounds i u) := by
  unfold Hd at h ⊢
  simp [World.setCell, Array.getElem?_modify, h]
theorem Hd.set' {cs' : Array Value} {i : Nat} {u : Value} (h : Hd w g t cs) (e : cs.setIfInBounds i u = cs') : Hd (w.setCell ⟨g, i, none⟩ u) g t cs' := e ▸ h.set i u
theorem Hd.far (h : Hd w g t cs) {p : Addr} (hp : g ≠ p.block) (u : Value) : Hd (w.setCell p u) g t cs := (Below.heap_setCell w p u g hp).trans h
theorem Hd.below {B : Nat} (h : Hd w g t cs) (hb : Below B w w') (hg : g < B) : Hd w' g t cs := (hb.block g hg).trans h
theorem Hd.call (h : Hd w g t cs) (hb : Below w.heap.size w w') : Hd w' g t cs := h.below hb h.lt
theorem Hd.ne {g' : Nat} {t' : TypeId} {cs' : Array Value} (h : Hd w g t cs) (h' : Hd w g' t' cs') (hne : cs ≠ cs') : g ≠ g' := by
  rintro rfl
  unfold Hd at h h'
  rw [h] at h'
  injection h' with h'
  injection h' with h1 _
  exact hne h1
end

section
variable {w w' : World} {g : Nat} {t : TypeId} {cs cs' : Array Value} {o : Obj} {i : Nat} {u : Value} {p : Addr}
theorem hdN (hg : g = w.heap.size) : Hd (w.alloc (.cells cs t)) g t cs := Hd.new hg
theorem hdA (h : Hd w g t cs) : Hd (w.alloc o) g t cs := h.alloc o
theorem hdD (h : Hd w g t cs) : Hd w.drew g t cs := h
theorem hdS (h : Hd w g t cs) (e : cs.setIfInBounds i u = cs') : Hd (w.setCell ⟨g, i, none⟩ u) g t cs' := h.set' e
theorem hdF (h : Hd w g t cs) (hp : g ≠ p.block) : Hd (w.setCell p u) g t cs := h.far hp u
end
theorem sA (w : World) (o : Obj) : (w.alloc o).heap.size = w.heap.size + 1 := World.size_alloc w o
theorem sS (w : World) (a : Addr) (u : Value) : (w.setCell a u).heap.size = w.heap.size := World.size_setCell w a u
theorem sD (w : World) : w.drew.heap.size = w.heap.size := World.size_drew w

/-- A type whose values are rows of cells. -/
def isRow : TypeDesc → Bool
  | .struct _ => true
  | .array _ _ => true
  | _ => false

section
variable {P : Program} {w : World}
theorem run_load_hd {g t ty : Nat} {cs : Array Value} {d : TypeDesc} (hg : Hd w g t cs) (hu : P.underlying ty = some d) (hr : isRow d = true)
    (hs : (P.info? ty).map (·.size) = some cs.size) : (loadVar ty ⟨g, 0, none⟩).run P w = .ok (.agg cs) w := by
  refine run_loadVar_row w g t ty cs (0, 0) d hg hu ?_ hs
  cases d <;> first | rfl | cases hr

theorem run_results1 {fn : Func} {k ty : Nat} {tmps : Array Value} {g t : Nat} {cs : Array Value} {d : TypeDesc} (hres : fn.results = #[.cell k ty])
    (hk : tmps.getD k undef = .pointer (some ⟨g, 0, none⟩)) (hg : Hd w g t cs) (hu : P.underlying ty = some d) (hr : isRow d = true)
    (hs : (P.info? ty).map (·.size) = some cs.size) : (results fn tmps).run P w = .ok (.agg cs) w := by
  have := run_load_hd hg hu hr hs
  have hk0 : tmps[k]?.getD undef = .pointer (some ⟨g, 0, none⟩) := by simpa using hk
  simp [results, hres, hk0, asAddr, this]

theorem run_results2 {fn : Func} {k ty u : Nat} {tmps : Array Value} {g t : Nat} {cs : Array Value} {d : TypeDesc} (hres : fn.results = #[.cell k ty, .tmp u])
    (hk : tmps.getD k undef = .pointer (some ⟨g, 0, none⟩)) (hg : Hd w g t cs) (hu : P.underlying ty = some d) (hr : isRow d = true)
    (hs : (P.info? ty).map (·.size) = some cs.size) : (results fn tmps).run P w = .ok (.tuple #[.agg cs, tmps.getD u undef]) w := by
  have := run_load_hd hg hu hr hs
  have hk0 : tmps[k]?.getD undef = .pointer (some ⟨g, 0, none⟩) := by simpa using hk
  simp [results, hres, hk0, asAddr, this]

theorem run_results3 {fn : Func} {k ty u v : Nat} {tmps : Array Value} {g t : Nat} {cs : Array Value} {d : TypeDesc} (hres : fn.results = #[.cell k ty, .tmp u, .tmp v])
    (hk : tmps.getD k undef = .pointer (some ⟨g, 0, none⟩)) (hg : Hd w g t cs) (hu : P.underlying ty = some d) (hr : isRow d = true)
    (hs : (P.info? ty).map (·.size) = some cs.size) : (results fn tmps).run P w = .ok (.tuple #[.agg cs, tmps.getD u undef, tmps.getD v undef]) w := by
  have := run_load_hd hg hu hr hs
  have hk0 : tmps[k]?.getD undef = .pointer (some ⟨g, 0, none⟩) := by simpa using hk
  simp [results, hres, hk0, asAddr, this]

theorem run_results_cc {fn : Func} {k k' ty ty' u : Nat} {tmps : Array Value} {g t g' t' : Nat} {cs cs' : Array Value} {d d' : TypeDesc} (hres : fn.results = #[.cell k ty, .cell k' ty', .tmp u])
    (hk : tmps.getD k undef = .pointer (some ⟨g, 0, none⟩)) (hg : Hd w g t cs) (hu : P.underlying ty = some d) (hr : isRow d = true)
    (hs : (P.info? ty).map (·.size) = some cs.size) (hk' : tmps.getD k' undef = .pointer (some ⟨g', 0, none⟩)) (hg' : Hd w g' t' cs') (hu' : P.underlying ty' = some d') (hr' : isRow d' = true)
    (hs' : (P.info? ty').map (·.size) = some cs'.size) : (results fn tmps).run P w = .ok (.tuple #[.agg cs, .agg cs', tmps.getD u undef]) w := by
  have := run_load_hd hg hu hr hs
  have := run_load_hd hg' hu' hr' hs'
  have hk0 : tmps[k]?.getD undef = .pointer (some ⟨g, 0, none⟩) := by simpa using hk
  have hk0' : tmps[k']?.getD undef = .pointer (some ⟨g', 0, none⟩) := by simpa using hk'
  simp [results, hres, hk0, hk0', asAddr, *]
end

/-- What a call leaves of what was there before. -/
theorem below_next {a W w1 : World} (h : Below a.heap.size a W) (hb : Below W.heap.size W w1) : Below a.heap.size a w1 := h.trans (hb.mono h.size)

/-- What lay there before a call reads as it did. -/
theorem bcell {W w1 : World} (hb : Below W.heap.size W w1) : (∀ b o, b < W.heap.size → w1.cell? ⟨b, o, none⟩ = W.cell? ⟨b, o, none⟩) ∧ (∀ b o, b < W.heap.size → w1.frozen? ⟨b, o, none⟩ = W.frozen? ⟨b, o, none⟩) :=
  ⟨fun b o h => hb.cell (p := ⟨b, o, none⟩) h, fun b o h => hb.frozen (p := ⟨b, o, none⟩) h⟩

theorem hdx {P : Prop} (h : P := by (with_reducible repeat' (first | assumption | (apply hdN; (try simp only [sA, sS, sD]); done) | apply hdA | apply hdD | apply hdS | (apply hdF; case hp => first | (simp; done) | (simp; omega)) | with_unfolding_all rfl))) : P := h
end Go.Proofs.Ytccbinnlnkpplaa
