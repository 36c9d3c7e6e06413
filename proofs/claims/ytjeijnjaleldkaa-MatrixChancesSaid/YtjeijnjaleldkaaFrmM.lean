/- Matrices that came in. -/
import Derived.Test.YtjeijnjaleldkaaSq
import Derived.Test.YtjeijnjaleldkaaFrm
import Derived.Test.YtjeijnjaleldkaaMx1
import Derived.Deep.Slices
import Derived.Lib.SmallJoins
namespace Go.Proofs.Ytjeijnjaleldkaa
set_option linter.all false
open Go.ChangeShapes Go.WideShapes Go.ChangeAt Go.RowKit

theorem nms_of_each {Q : Nat → Nm → Prop} : ∀ n : Nat, (∀ i, i < n → ∃ x, Q i x) → ∃ xs : List Nm, xs.length = n ∧ ∀ i, i < n → Q i (nm xs i)
  | 0, _ => ⟨[], rfl, fun i hi => by omega⟩
  | n + 1, h => by
    obtain ⟨xs, hl, hx⟩ := nms_of_each n fun i hi => h i Ox
    obtain ⟨x, hq⟩ := h n Ox
    refine ⟨xs ++ [x], by simp [hl], fun i hi => ?_⟩
    by_cases e : i = n
    · subst e
      have : nm (xs ++ [x]) i = x := by unfold nm El.at; rw [List.getD_eq_getElem?_getD, ← hl]; simp
      rw [this]; exact hq
    · have : nm (xs ++ [x]) i = nm xs i := by unfold nm El.at; rw [List.getD_eq_getElem?_getD, List.getD_eq_getElem?_getD, List.getElem?_append_left Ox]
      rw [this]; exact hx i Ox
theorem cellsNm : Try.prog.cellsOf 29 = 5 := by kernel_rfl
theorem cellsIntM : Try.prog.cellsOf 3 = 1 := by kernel_rfl
theorem cellsArr : Try.prog.cellsOf 27 = 4 := by kernel_rfl
theorem cellsSl : Try.prog.cellsOf 22 = 1 := by kernel_rfl
theorem cellsMx : Try.prog.cellsOf 24 = 2 := by kernel_rfl
set_option maxRecDepth 100000 in
theorem open_asM {H : Type} {enc : TypeId × Value → H} {W : World} {base : Nat} {v : Value} {d : DataW H} {p : List MemPlace}
    (hval : Value.okWide Try.prog W .any base 24 v) (h : DataW.Trod enc Try.prog W 0 (fun _ => true) true 24 v d p) (hlt : ∀ x ∈ p, x.block < W.heap.size) :
    ∃ (n : Int) (xs : List Nm) (a : Option Addr) (c : Nat), v = .agg #[.int .i64 n, .slice a xs.length c] ∧ AS W a (nms xs) ∧ xs.length ≤ maxLen := by
  obtain ⟨cs, rfl, hsz⟩ := okWide_struct Try.underlying24 hval
  rw [cellsMx] at hsz
  obtain ⟨fuel, hf⟩ := h
  obtain ⟨ys, m, _, hx, hl, hlen, hfi⟩ := DataW.trod_struct Try.underlying24 hf
  match cs, hsz with
  | ⟨[v0, v1]⟩, _ =>
  match ys, hlen with
  | [y0, y1], _ =>
  have t0 := hfi 0 _ rfl
  have t1 := hfi 1 _ rfl
  simp [Value.cells, cellsIntM, cellsSl] at t0 t1
  simp only [Prod.mk.injEq] at hx
  obtain ⟨rfl, rfl⟩ := hx
  obtain ⟨n0, e0, -, w0⟩ := DataW.trod_int Try.underlying3 t0
  simp only [List.cons.injEq, and_true] at e0
  subst e0
  rcases Go.Deep.open_slice Try.underlying22 t1 with ⟨hcs, hx⟩ | ⟨a, len, cap', m, n, D, Pl, hcs, _, hl, hm, hmm, hx, hel⟩
  · simp only [List.cons.injEq, and_true] at hcs
    subst hcs
    exact ⟨n0, [], none, 0, rfl, AS.nil, by simp⟩
  · simp only [List.cons.injEq, and_true] at hcs
    subst hcs
    simp only [if_true] at hmm
    subst hmm
    have each : ∀ i, i < len → ∃ x : Nm, (∀ r, r < 5 → W.cell? ((a.add (i * 5)).add r) = (nmC x)[r]?) := by
      intro i hi
      obtain ⟨cs', h1, h2⟩ := hel i Ox
      rw [cellsNm] at h1
      obtain ⟨_, hlen, hcell⟩ := World.cells?_some h1
      obtain ⟨zs, k, _, _, _, hzl, hz⟩ := DataW.trod_struct Try.underlying29 h2
      match cs', hlen, zs, hzl with
      | [v0, v1, v2, v3, v4], _, [zA, z4], _ =>
        have tA := hz 0 _ rfl
        have t4 := hz 1 _ rfl
        simp [cellsArr, cellsIntM] at tA t4
        obtain ⟨qs, k2, _, _, _, hql, hq⟩ := DataW.trod_array Try.underlying27 tA
        match qs, hql with
        | [z0, z1, z2, z3], _ =>
        have t0 := hq 0 Ox
        have t1 := hq 1 Ox
        have t2 := hq 2 Ox
        have t3 := hq 3 Ox
        simp [cellsIntM] at t0 t1 t2 t3
        obtain ⟨n0, e0, -, w0⟩ := DataW.trod_int Try.underlying3 t0
        obtain ⟨n1, e1, -, w1⟩ := DataW.trod_int Try.underlying3 t1
        obtain ⟨n2, e2, -, w2⟩ := DataW.trod_int Try.underlying3 t2
        obtain ⟨n3, e3, -, w3⟩ := DataW.trod_int Try.underlying3 t3
        obtain ⟨n4, e4, -, w4⟩ := DataW.trod_int Try.underlying3 t4
        simp only [List.cons.injEq, and_true] at e0 e1 e2 e3 e4
        subst e0 e1 e2 e3 e4
        exact ⟨⟨n0, n1, n2, n3, n4⟩, fun r hr => hcell r hr⟩
    obtain ⟨xs, hxl, hxx⟩ := nms_of_each len each
    subst hxl
    refine ⟨n0, xs, some a, _, rfl, fun hne => ?_, by omega⟩
    have h0 : 0 < xs.length := by
      rcases Nat.eq_zero_or_pos xs.length with h0 | h0
      · have := List.eq_nil_of_length_eq_zero h0; subst this; exact absurd rfl hne
      · exact h0
    obtain ⟨b, off, spot⟩ := a
    have hspot : spot = none := by
      have h1 := (hxx 0 h0) 0 Ox
      have h2 : W.cell? (((⟨b, off, spot⟩ : Addr).add (0 * 5)).add 0) = some (.int .i64 (nm xs 0).a) := h1
      simpa [Addr.add] using World.cell?_spot h2
    subst hspot
    refine ⟨b, off, rfl, hlt (.cell b off) ?_, fun j hj => ?_⟩
    · refine List.mem_flatMap.2 ⟨y1, by simp, ?_⟩
      have hy : y1.2 = _ := congrArg Prod.snd hx
      rw [hy]
      exact List.mem_append_left _ (MemPlace.mem_row.2 ⟨0, by rw [cellsNm]; omega, by simp⟩)
    · have hj2 : j < xs.length * 5 := by rw [NmE.flat_len] at hj; exact hj
      have h1 := (hxx (j / 5) Ox) (j % 5) (Nat.mod_lt _ Ox)
      have h2 := NmE.get xs (j / 5) (j % 5) Ox (Nat.mod_lt _ (by show 0 < 5; omega))
      have e : j / 5 * 5 + j % 5 = j := by omega
      have h3 : (nms xs)[j / 5 * 5 + j % 5]? = (nmC (nm xs (j / 5)))[j % 5]? := h2
      rw [e] at h3
      rw [h3, ← h1]
      have e2 : ((⟨b, off, none⟩ : Addr).add (j / 5 * 5)).add (j % 5) = ⟨b, off + j, none⟩ := by
        have ap : ∀ o i : Nat, (⟨b, o, none⟩ : Addr).add i = ⟨b, o + i, none⟩ := fun o i => by simp [Addr.add]
        rw [ap, ap, show off + j / 5 * 5 + j % 5 = off + j by omega]
      rw [e2]
end Go.Proofs.Ytjeijnjaleldkaa
