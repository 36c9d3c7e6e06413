/- Matrices that came in: what they may hold. -/
import Derived.Test.YtjeijnjaleldkaaFrmM
namespace Go.Proofs.Ytjeijnjaleldkaa
set_option linter.all false
open Go.ChangeShapes Go.WideShapes Go.ChangeAt Go.RowKit
set_option maxRecDepth 100000 in
theorem cap_asM {H : Type} {enc : TypeId × Value → H} {W : World} {n : Int} {a : Option Addr} {m c : Nat} {d : DataW H} {p : List MemPlace}
    (h : DataW.Trod enc Try.prog W 0 (fun _ => true) true 24 (.agg #[.int .i64 n, .slice a m c]) d p) : m ≤ c := by
  obtain ⟨fuel, hf⟩ := h
  obtain ⟨ys, k, _, hx, hl, hlen, hfi⟩ := DataW.trod_struct Try.underlying24 hf
  match ys, hlen with
  | [y0, y1], _ =>
  have t1 := hfi 1 _ rfl
  simp [Value.cells, cellsIntM, cellsSl] at t1
  rcases Go.Deep.open_slice Try.underlying22 t1 with ⟨hcs, hx⟩ | ⟨a', len, cap', m', n', D, Pl, hcs, _, hl, hm, hmm, hx, hel⟩
  · simp at hcs; omega
  · simp at hcs; omega
end Go.Proofs.Ytjeijnjaleldkaa
