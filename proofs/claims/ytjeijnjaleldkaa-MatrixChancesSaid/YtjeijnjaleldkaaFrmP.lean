/- Two lists of whole numbers that came in in one struct. -/
import Derived.Test.YtjeijnjaleldkaaSq
import Derived.Test.YtjeijnjaleldkaaFrmM
import Derived.Test.YtjeijnjaleldkaaPt0
namespace Go.Proofs.Ytjeijnjaleldkaa
set_option linter.all false
open Go.ChangeShapes Go.WideShapes Go.ChangeAt Go.RowKit

theorem cellsSlI : Try.prog.cellsOf 37 = 1 := by kernel_rfl
theorem cellsPh : Try.prog.cellsOf 56 = 2 := by kernel_rfl
theorem open_oneI {H : Type} {enc : TypeId × Value → H} {W : World} {fuel : Nat} {cs : List Value} {y : DataW H × List MemPlace} (hf : DataW.trod enc Try.prog W 0 (fun _ => true) true fuel 37 cs = some y) (hlt : ∀ x ∈ y.2, x.block < W.heap.size) :
    ∃ (xs : List Int) (a : Option Addr) (c : Nat), cs = [.slice a xs.length c] ∧ AS W a (zs xs) ∧ xs.length ≤ maxLen := by
  rcases open_ints Try.underlying37 Try.underlying3 cellsIntM hf with ⟨hcs, hx⟩ | ⟨a, len, cap, zz, hcs, _, hl, hm, hz, hx, hcell, hwz⟩
  · exact ⟨[], none, 0, hcs, AS.nil, by simp⟩
  · simp only [if_true] at hz
    have hlen : (zz.take len).length = len := by rw [List.length_take]; omega
    refine ⟨zz.take len, some a, cap, by rw [hlen]; exact hcs, fun hne => ?_, by omega⟩
    have hl0 : 0 < len := by
      rcases Nat.eq_zero_or_pos len with h0 | h0
      · subst h0; simp at hne
      · exact h0
    obtain ⟨b, off, spot⟩ := a
    have hspot : spot = none := by simpa [Addr.add] using World.cell?_spot (hcell 0 (by omega))
    subst hspot
    refine ⟨b, off, rfl, hlt (.cell b off) ?_, fun j hj => ?_⟩
    · rw [hx]; exact MemPlace.mem_row.2 ⟨0, by omega, by simp⟩
    rw [List.length_map, hlen] at hj
    have := hcell j (by omega)
    have e : (⟨b, off, none⟩ : Addr).add j = ⟨b, off + j, none⟩ := by simp [Addr.add]
    rw [e] at this
    rw [this, List.getElem?_map, List.getElem?_take_of_lt hj, List.getD_eq_getElem?_getD]
    have hjz : j < zz.length := by omega
    simp [List.getElem?_eq_getElem hjz]
set_option maxRecDepth 100000 in
theorem open_asP {H : Type} {enc : TypeId × Value → H} {W : World} {base : Nat} {v : Value} {d : DataW H} {p : List MemPlace}
    (hval : Value.okWide Try.prog W .any base 56 v) (h : DataW.Trod enc Try.prog W 0 (fun _ => true) true 56 v d p) (hlt : ∀ x ∈ p, x.block < W.heap.size) :
    ∃ (xs ys : List Int) (a a' : Option Addr) (c c' : Nat), v = .agg #[.slice a xs.length c, .slice a' ys.length c'] ∧ (AS W a (zs xs) ∧ xs.length ≤ maxLen) ∧ AS W a' (zs ys) ∧ ys.length ≤ maxLen := by
  obtain ⟨cs, rfl, hsz⟩ := okWide_struct Try.underlying56 hval
  rw [cellsPh] at hsz
  obtain ⟨fuel, hf⟩ := h
  obtain ⟨ys, m, _, hx, hl, hlen, hfi⟩ := DataW.trod_struct Try.underlying56 hf
  match cs, hsz with
  | ⟨[v0, v1]⟩, _ =>
  match ys, hlen with
  | [y0, y1], _ =>
  have t0 := hfi 0 _ rfl
  have t1 := hfi 1 _ rfl
  simp [Value.cells, cellsSlI] at t0 t1
  simp only [Prod.mk.injEq] at hx
  obtain ⟨rfl, rfl⟩ := hx
  obtain ⟨xs, a, c, e0, h0, l0⟩ := open_oneI t0 (fun x hx => hlt x (List.mem_flatMap.2 ⟨y0, by simp, hx⟩))
  obtain ⟨zs', a', c', e1, h1, l1⟩ := open_oneI t1 (fun x hx => hlt x (List.mem_flatMap.2 ⟨y1, by simp, hx⟩))
  simp only [List.cons.injEq, and_true] at e0 e1
  subst e0 e1
  exact ⟨xs, zs', a, a', c, c', rfl, ⟨h0, l0⟩, h1, l1⟩
end Go.Proofs.Ytjeijnjaleldkaa
