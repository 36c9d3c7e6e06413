/- An argument that is an exact number. -/
import Derived.Test.YtccbinnlnkpplaaFrm
import Derived.Test.YtccbinnlnkpplaaSg
namespace Go.Proofs.Ytccbinnlnkpplaa
set_option linter.all false
open Go.ChangeShapes Go.WideShapes Go.ChangeAt Go.RowKit

theorem okWide_i64 {P : Program} {w : World} {r : Reach} {b0 t : Nat} {v : Value} (ht : P.underlying t = some (.int .i64)) (h : Cell.okWide P w r b0 t v) : ∃ n : Int, v = .int .i64 n :=
  okWide_int (w := w) (r := r) (base := b0) ht (by simp only [Value.okWide, ht]; exact h)
set_option maxRecDepth 20000 in
theorem open_numN {w : World} {r : Reach} {b0 : Nat} {v : Value} (h : Value.okWide Try.prog w r b0 45 v) : ∃ z : Nm, v = nmV z := by
  simp only [Value.okWide, Try.underlying45] at h
  obtain ⟨cs, rfl, hs, ts, h1, _, h3⟩ := h
  have hs' : cs.size = 5 := hs.trans (by kernel_rfl)
  have ht : Try.prog.cellTypes Try.prog.depth 45 = some (List.replicate 5 3) := by kernel_rfl
  rw [ht] at h1
  cases h1
  have k : ∀ i, i < 5 → ∃ n : Int, cs[i]? = some (.int .i64 n) := fun i hi => by
    have hv : cs[i]? = some cs[i] := Array.getElem?_eq_getElem (by omega)
    obtain ⟨u, h4, h5⟩ := h3 i _ hv
    have hu : u = 3 := List.eq_of_mem_replicate (List.mem_of_getElem? h4)
    subst hu
    obtain ⟨n, hn⟩ := okWide_i64 Try.underlying3 h5
    exact ⟨n, by rw [hv, hn]⟩
  obtain ⟨a, ha⟩ := k 0 (by decide)
  obtain ⟨b, hb⟩ := k 1 (by decide)
  obtain ⟨c, hc⟩ := k 2 (by decide)
  obtain ⟨d, hd⟩ := k 3 (by decide)
  obtain ⟨e, he⟩ := k 4 (by decide)
  refine ⟨⟨a, b, c, d, e⟩, congrArg Value.agg (Array.ext_getElem? fun i => ?_)⟩
  match i with
  | 0 => exact ha
  | 1 => exact hb
  | 2 => exact hc
  | 3 => exact hd
  | 4 => exact he
  | i + 5 => rw [Array.getElem?_eq_none (by omega), Array.getElem?_eq_none (by simp)]
end Go.Proofs.Ytccbinnlnkpplaa
