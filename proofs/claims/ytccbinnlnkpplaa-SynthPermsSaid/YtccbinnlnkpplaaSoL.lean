/- slices.Sort at []int, by the kit's shelf, over a list that the call owns. -/
import Derived.Test.YtccbinnlnkpplaaSy4
import Derived.Shelf.Sort.Plain
import Derived.Sort.OwnSortedInts
namespace Go.Proofs.Ytccbinnlnkpplaa
set_option linter.all false
open Go.RowKit Go.Shelf

def lays189_ren : Go.Shelf.Ren := ⟨fun | 189 => 80 | 125 => 136 | 257 => 135 | 128 => 182 | 129 => 183 | 294 => 173 | 295 => 174 | 296 => 175 | 297 => 176 | 298 => 177 | 299 => 178 | 216 => 179 | 300 => 180 | 301 => 181 | 328 => 203 | 329 => 204 | 330 => 205 | 331 => 206 | 332 => 207 | 215 => 208 | 343 => 219 | n => n, fun | 28 => 22 | 3 => 3 | 46 => 155 | 0 => 0 | 51 => 160 | 53 => 99 | 4 => 4 | 183 => 176 | 182 => 175 | 131 => 96 | 5 => 5 | 9 => 9 | 218 => 200 | 222 => 204 | 228 => 216 | 229 => 217 | n => n, fun n => n⟩
theorem lays189 : Lays.n189 Try.prog lays189_ren where
  mixed := by kernel_rfl
  f125 := Try.func136.trans (congrArg some (by kernel_rfl))
  f128 := Try.func182.trans (congrArg some (by kernel_rfl))
  f129 := Try.func183.trans (congrArg some (by kernel_rfl))
  f189 := Try.func80.trans (congrArg some (by kernel_rfl))
  f215 := Try.func208.trans (congrArg some (by kernel_rfl))
  f216 := Try.func179.trans (congrArg some (by kernel_rfl))
  f257 := Try.func135.trans (congrArg some (by kernel_rfl))
  f294 := Try.func173.trans (congrArg some (by kernel_rfl))
  f295 := Try.func174.trans (congrArg some (by kernel_rfl))
  f296 := Try.func175.trans (congrArg some (by kernel_rfl))
  f297 := Try.func176.trans (congrArg some (by kernel_rfl))
  f298 := Try.func177.trans (congrArg some (by kernel_rfl))
  f299 := Try.func178.trans (congrArg some (by kernel_rfl))
  f300 := Try.func180.trans (congrArg some (by kernel_rfl))
  f301 := Try.func181.trans (congrArg some (by kernel_rfl))
  f328 := Try.func203.trans (congrArg some (by kernel_rfl))
  f329 := Try.func204.trans (congrArg some (by kernel_rfl))
  f330 := Try.func205.trans (congrArg some (by kernel_rfl))
  f331 := Try.func206.trans (congrArg some (by kernel_rfl))
  f332 := Try.func207.trans (congrArg some (by kernel_rfl))
  f343 := Try.func219.trans (congrArg some (by kernel_rfl))
  t0 := Try.underlying0
  a0 := Try.isAgg0
  z0 := Try.sizeOf0
  v0 := Try.zeroValue0
  t3 := Try.underlying3
  a3 := Try.isAgg3
  z3 := Try.sizeOf3
  v3 := Try.zeroValue3
  t4 := Try.underlying4
  a4 := Try.isAgg4
  z4 := Try.sizeOf4
  v4 := Try.zeroValue4
  t5 := Try.underlying5
  a5 := Try.isAgg5
  z5 := Try.sizeOf5
  v5 := Try.zeroValue5
  t9 := Try.underlying9
  a9 := Try.isAgg9
  z9 := Try.sizeOf9
  v9 := Try.zeroValue9
  t28 := Try.underlying22
  a28 := Try.isAgg22
  z28 := Try.sizeOf22
  v28 := Try.zeroValue22
  t46 := Try.underlying155
  a46 := Try.isAgg155
  z46 := Try.sizeOf155
  v46 := Try.zeroValue155
  t51 := Try.underlying160
  a51 := Try.isAgg160
  z51 := Try.sizeOf160
  v51 := Try.zeroValue160
  t53 := Try.underlying99
  a53 := Try.isAgg99
  z53 := Try.sizeOf99
  v53 := Try.zeroValue99
  t131 := Try.underlying96
  a131 := Try.isAgg96
  z131 := Try.sizeOf96
  v131 := Try.zeroValue96
  t182 := Try.underlying175
  a182 := Try.isAgg175
  z182 := Try.sizeOf175
  v182 := Try.zeroValue175
  t183 := Try.underlying176
  a183 := Try.isAgg176
  z183 := Try.sizeOf176
  v183 := Try.zeroValue176
  t218 := Try.underlying200
  a218 := Try.isAgg200
  z218 := Try.sizeOf200
  v218 := Try.zeroValue200
  t222 := Try.underlying204
  a222 := Try.isAgg204
  z222 := Try.sizeOf204
  v222 := Try.zeroValue204
  t228 := Try.underlying216
  a228 := Try.isAgg216
  z228 := Try.sizeOf216
  v228 := Try.zeroValue216
  t229 := Try.underlying217
  a229 := Try.isAgg217
  z229 := Try.sizeOf217
  v229 := Try.zeroValue217

/-- The list in ascending order. -/
def srt (zs : List Int) : List Int := zs.mergeSort fun x y => decide (x ≤ y)
theorem srt_len (zs : List Int) : (srt zs).length = zs.length := List.length_mergeSort zs
section
variable {R : Option Nat} {ops : Array Oper} {Q : Exit → Act → World → Prop} {B : World} {F : List Nat} {s0 : Option (List Blk × List Blk)}
variable {l : List (Oper × Nat)} {a : Act} {s : List Blk} {d : Option Tmp} {t : TypeId} {p : String} {af : Array Edge} {v : Value}
theorem rg_sortI {so : Operand} {u : List Blk} {zs : List Int} {at_ : Array TypeId} {gd : Option (Nat × Bool)} (hg : Region.wanted ⟨d, .call ⟨.value (.func 80), #[so], at_⟩, t, p, af, gd⟩ (yielded ops a.tmps) = true)
    (hs : a.eval so = v) (hown : OwnI u v zs) (hne : 0 < zs.length) (hn : zs.length ≤ 1000000) (hz : ∀ z ∈ s0, z.1.Sublist s)
    (h : ∀ u', OwnI u' v (srt zs) → Rg R Try.prog ops Q B F s0 l (a.put d (.tuple #[])) (u' ++ s)) :
    Rg R Try.prog ops Q B F s0 ((⟨d, .call ⟨.value (.func 80), #[so], at_⟩, t, p, af, gd⟩, 1) :: l) a (u ++ s) := by
  obtain ⟨hl, ⟨rfl, rfl, h0⟩ | ⟨g, cap, cur, rfl, rfl, hc, hm, hsz, ht⟩⟩ := hown
  · omega
  refine rg_call (args := #[.slice (some ⟨g, 0, none⟩) zs.length cap]) hg (by kernel_rfl) (by simp [hs]) fun w K => ?_
  have K' : Kn B F ((g, .cells cur 3) :: s) w := K
  have hb : w.heap[g]? = some (.cells cur 3 (0, 0)) := K'.own (g, .cells cur 3) (by simp)
  have hlt : g < w.heap.size := K'.lt (b := (g, .cells cur 3)) (by simp)
  rw [Nat.mul_one] at ht
  have hcon := Any.slices_Sort_int lays189 g 0 cap zs w (holds_of_blockI hb ht) hlt (by omega)
  refine hcon.mono ?_
  rintro e w' ⟨rfl, n, os, rfl⟩
  have hgr := grownBy_sortedI (w := w) (g := g) (n := n) (os := os) (srt zs).toArray
  have hh := heap_sortedI (n := n) (os := os) (srt zs).toArray hb
  refine ⟨_, (g, .cells (Go.Sort.putCells (Value.int .i64) 0 (srt zs).toArray cur) 3) :: s, rfl, K'.mod hgr.os hgr.tape hgr.output hgr.size (fun k hk hne => hgr.block k hk (fun e => hne (by injection e))) hh, fun z hz' => (hz z hz').cons _, ?_⟩
  refine h [(g, .cells (Go.Sort.putCells (Value.int .i64) 0 (srt zs).toArray cur) 3)] ?_
  refine ⟨by simp, .inr ⟨g, cap, _, rfl, by rw [srt_len], by rw [srt_len]; exact hc, hm, by simp [Go.Sort.putCells, hsz], ?_⟩⟩
  rw [Nat.mul_one]
  exact take_putCellsI cur (srt zs) (by rw [srt_len]; omega)
end
end Go.Proofs.Ytccbinnlnkpplaa
