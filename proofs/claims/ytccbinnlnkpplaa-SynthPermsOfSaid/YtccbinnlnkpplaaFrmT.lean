/- Lists of items that came in. -/
import Derived.Test.YtccbinnlnkpplaaFrm
import Derived.Test.YtccbinnlnkpplaaSy12
import Derived.Deep.Slices
import Derived.Lib.SmallJoins
namespace Go.Proofs.Ytccbinnlnkpplaa
set_option linter.all false
open Go.ChangeShapes Go.WideShapes Go.ChangeAt Go.RowKit

theorem its_of_each {Q : Nat → It → Prop} : ∀ n : Nat, (∀ i, i < n → ∃ x, Q i x) → ∃ xs : List It, xs.length = n ∧ ∀ i, i < n → Q i (it xs i)
  | 0, _ => ⟨[], rfl, fun i hi => by omega⟩
  | n + 1, h => by
    obtain ⟨xs, hl, hx⟩ := its_of_each n fun i hi => h i (by omega)
    obtain ⟨x, hq⟩ := h n (by omega)
    refine ⟨xs ++ [x], by simp [hl], fun i hi => ?_⟩
    by_cases e : i = n
    · subst e
      have : it (xs ++ [x]) i = x := by unfold it; rw [List.getD_eq_getElem?_getD, ← hl]; simp
      rw [this]; exact hq
    · have : it (xs ++ [x]) i = it xs i := by unfold it; rw [List.getD_eq_getElem?_getD, List.getD_eq_getElem?_getD, List.getElem?_append_left (by omega)]
      rw [this]; exact hx i (by omega)
theorem cellsIT : Try.prog.cellsOf 80 = 4 := by kernel_rfl
theorem cellsInt : Try.prog.cellsOf 3 = 1 := by kernel_rfl
theorem cellsStr : Try.prog.cellsOf 9 = 1 := by kernel_rfl
def ItWf (i : It) : Prop := (Lit.int .i64 i.kind).wf = true ∧ (Lit.int .i64 i.at_).wf = true ∧ (Lit.int .i64 i.n).wf = true ∧ i.name.size ≤ maxLen
set_option maxRecDepth 100000 in
theorem open_asT {H : Type} {enc : TypeId × Value → H} {W : World} {base : Nat} {v : Value} {d : DataW H} {p : List MemPlace}
    (hval : Value.okWide Try.prog W .any base 32 v) (h : DataW.Trod enc Try.prog W 0 (fun _ => true) true 32 v d p) (hlt : ∀ x ∈ p, x.block < W.heap.size) :
    ∃ (xs : List It) (a : Option Addr) (c : Nat), v = .slice a xs.length c ∧ AS W a (its xs) ∧ (∀ x ∈ xs, ItWf x) ∧ xs.length ≤ maxLen := by
  obtain ⟨a0, len, cap, rfl⟩ := okWide_slice Try.underlying32 hval
  obtain ⟨fuel, hf⟩ := h
  rcases Go.Deep.open_slice Try.underlying32 hf with ⟨hcs, hx⟩ | ⟨a, len', cap', m, n, D, Pl, hcs, _, hl, hm, hmm, hx, hel⟩
  · simp [Value.cells] at hcs
    obtain ⟨rfl, rfl, rfl⟩ := hcs
    exact ⟨[], none, 0, rfl, AS.nil, by simp, by simp⟩
  · simp [Value.cells] at hcs
    obtain ⟨rfl, rfl, rfl⟩ := hcs
    simp only [Prod.mk.injEq] at hx
    obtain ⟨rfl, rfl⟩ := hx
    simp only [if_true] at hmm
    subst hmm
    have each : ∀ i, i < len → ∃ x : It, (∀ r, r < 4 → W.cell? ((a.add (i * 4)).add r) = (itC x)[r]?) ∧ ItWf x := by
      intro i hi
      obtain ⟨cs', h1, h2⟩ := hel i (by omega)
      rw [cellsIT] at h1
      obtain ⟨_, hlen, hcell⟩ := World.cells?_some h1
      obtain ⟨y0, y1, y2, y3, k, _, hl4, t0, t1, t2, t3⟩ := Go.Joins.trod_struct4 Try.underlying80 h2
      match cs', hlen with
      | [v0, v1, v2, v3], _ =>
        simp only [cellsInt, cellsStr, List.drop_succ_cons, List.drop_zero, List.take_succ_cons, List.take_zero] at t0 t1 t2 t3
        obtain ⟨n0, e0, -, w0⟩ := DataW.trod_int Try.underlying3 t0
        obtain ⟨n1, e1, -, w1⟩ := DataW.trod_int Try.underlying3 t1
        obtain ⟨n2, e2, -, w2⟩ := DataW.trod_int Try.underlying3 t2
        obtain ⟨s3, e3, -, w3⟩ := DataW.trod_string Try.underlying9 t3
        simp only [List.cons.injEq, and_true] at e0 e1 e2 e3
        subst e0 e1 e2 e3
        exact ⟨⟨n0, n1, n2, s3⟩, fun r hr => hcell r hr, w0, w1, w2, w3⟩
    obtain ⟨xs, hxl, hxx⟩ := its_of_each len each
    subst hxl
    refine ⟨xs, some a, _, rfl, fun hne => ?_, fun x hx => ?_, by omega⟩
    · have h0 : 0 < xs.length := by
        rcases Nat.eq_zero_or_pos xs.length with h0 | h0
        · have := List.eq_nil_of_length_eq_zero h0; subst this; exact absurd rfl hne
        · exact h0
      obtain ⟨b, off, spot⟩ := a
      have hspot : spot = none := by
        have h1 := (hxx 0 h0).1 0 (by omega)
        have h2 : W.cell? (((⟨b, off, spot⟩ : Addr).add (0 * 4)).add 0) = some (.int .i64 (it xs 0).kind) := h1
        simpa [Addr.add] using World.cell?_spot h2
      subst hspot
      refine ⟨b, off, rfl, hlt (.cell b off) (List.mem_append_left _ (MemPlace.mem_row.2 ⟨0, by rw [cellsIT]; omega, by simp⟩)), fun j hj => ?_⟩
      rw [its_len] at hj
      have h1 := (hxx (j / 4) (by omega)).1 (j % 4) (Nat.mod_lt _ (by omega))
      have h2 := its_get xs (j / 4) (j % 4) (by omega) (Nat.mod_lt _ (by omega))
      have e : j / 4 * 4 + j % 4 = j := by omega
      rw [e] at h2
      rw [h2, ← h1]
      have e2 : ((⟨b, off, none⟩ : Addr).add (j / 4 * 4)).add (j % 4) = ⟨b, off + j, none⟩ := by
        have ap : ∀ o i : Nat, (⟨b, o, none⟩ : Addr).add i = ⟨b, o + i, none⟩ := fun o i => by simp [Addr.add]
        rw [ap, ap, show off + j / 4 * 4 + j % 4 = off + j by omega]
      rw [e2]
    · obtain ⟨j, hj, e⟩ := List.getElem_of_mem hx
      have : it xs j = x := by unfold it; rw [List.getD_eq_getElem?_getD, List.getElem?_eq_getElem hj]; exact e
      rw [← this]; exact (hxx j hj).2
end Go.Proofs.Ytccbinnlnkpplaa
