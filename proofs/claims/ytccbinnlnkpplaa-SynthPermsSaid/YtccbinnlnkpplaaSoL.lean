/- slices.Sort at []int, by the kit's shelf, over a list that the call owns. -/
import Derived.Test.YtccbinnlnkpplaaSy4
import Derived.Shelf.Sort.Plain
import Derived.Shelf.Lay
import Derived.Ground.NamesProg
import Derived.Sort.OwnSortedInts
namespace Go.Proofs.Ytccbinnlnkpplaa
set_option linter.all false
open Go.RowKit Go.Shelf

shelf_lay Lays.n189 Nm 189 at Try as Try.lays189

/-- The list in ascending order. -/
def srt (zs : List Int) : List Int := zs.mergeSort fun x y => decide (x ≤ y)
theorem srt_len (zs : List Int) : (srt zs).length = zs.length := List.length_mergeSort zs
section
variable {R : Option Nat} {ops : Array Oper} {Q : Exit → Act → World → Prop} {B : World} {F : List Nat} {s0 : Option (List Blk × List Blk)}
variable {l : List (Oper × Nat)} {a : Act} {s : List Blk} {d : Option Tmp} {t : TypeId} {p : String} {af : Array Edge} {v : Value}
theorem rg_sortI {so : Operand} {u : List Blk} {zs : List Int} {at_ : Array TypeId} {gd : Option (Nat × Bool)} (hg : Region.wanted ⟨d, .call ⟨.value (.func 80), #[so], at_⟩, t, p, af, gd⟩ (yielded ops a.tmps) = true)
    (hs : a.eval so = v) (hown : OwnI u v zs) (hne : 0 < zs.length) (hn : zs.length ≤ 1000000) (hz : ∀ z ∈ s0, z.1.Sublist s)
    (h : ∀ u', OwnI u' v (srt zs) → Rg R Try.prog ops Q B F s0 l (a.put d (.tuple #[])) (u' ++ s)) :
    Rg R Try.prog ops Q B F s0 ((⟨d, .call ⟨.value (.func 80), #[so], at_⟩, t, p, af, gd⟩, 1) :: l) a (u ++ s) := by
  obtain ⟨hl, ⟨rfl, rfl, h0⟩ | ⟨g, cap, cur, rfl, rfl, hc, hm, hsz, ht⟩⟩ := hown
  · omega
  refine rg_call (args := #[.slice (some ⟨g, 0, none⟩) zs.length cap]) hg (by kernel_rfl) (by simp [hs]) fun w K => ?_
  have K' : Kn B F ((g, .cells cur 3) :: s) w := K
  have hb : w.heap[g]? = some (.cells cur 3 (0, 0)) := K'.own (g, .cells cur 3) (by simp)
  have hlt : g < w.heap.size := K'.lt (b := (g, .cells cur 3)) (by simp)
  rw [Nat.mul_one] at ht
  have hcon := Any.slices_Sort_int Try.lays189 g 0 cap zs w (holds_of_blockI hb ht) hlt (by omega)
  refine hcon.mono ?_
  rintro e w' ⟨rfl, n, os, rfl⟩
  have hgr := grownBy_sortedI (w := w) (g := g) (n := n) (os := os) (srt zs).toArray
  have hh := heap_sortedI (n := n) (os := os) (srt zs).toArray hb
  refine ⟨_, (g, .cells (Go.Sort.putCells (Value.int .i64) 0 (srt zs).toArray cur) 3) :: s, rfl, K'.mod hgr.os hgr.tape hgr.output hgr.size (fun k hk hne => hgr.block k hk (fun e => hne (by injection e))) hh, fun z hz' => (hz z hz').cons _, ?_⟩
  refine h [(g, .cells (Go.Sort.putCells (Value.int .i64) 0 (srt zs).toArray cur) 3)] ?_
  refine ⟨by simp, .inr ⟨g, cap, _, rfl, by rw [srt_len], by rw [srt_len]; exact hc, hm, by simp [Go.Sort.putCells, hsz], ?_⟩⟩
  rw [Nat.mul_one]
  exact take_putCellsI cur (srt zs) (by rw [srt_len]; omega)
end
end Go.Proofs.Ytccbinnlnkpplaa
