/- A copy of a list. -/
import Derived.Test.YtccbinnlnkpplaaSyPl
namespace Go.Proofs.Ytccbinnlnkpplaa
set_option linter.all false
open Go.RowKit

section
variable {R : Option Nat} {ops : Array Oper} {Q : Exit → Act → World → Prop} {B : World} {F : List Nat} {s0 : Option (List Blk × List Blk)}
variable {l : List (Oper × Nat)} {a : Act} {s S : List Blk} {d : Option Tmp} {op : Op} {t : TypeId} {p : String} {af : Array Edge} {v : Value}
/-- append of a whole list that is read. -/
theorem rg_appendL {so xo : Operand} {u : List Blk} {xs ys : List Int} {b off c : Nat} {gd : Option (Nat × Bool)}
    (hg : Region.wanted ⟨d, .call ⟨.builtin .append, #[so, xo], #[22, 22]⟩, t, p, af, gd⟩ (yielded ops a.tmps) = true)
    (hs : a.eval so = v) (hown : OwnI u v xs) (hx : a.eval xo = .slice (some ⟨b, off, none⟩) ys.length c)
    (hr : ∀ w, Kn B F S w → ∀ j, j < ys.length → w.cell? ⟨b, off + j, none⟩ = some (.int .i64 (ix ys j))) (hn : xs.length + ys.length ≤ 1000000)
    (hp : S.Perm (u ++ s)) (hzz : ∀ z ∈ s0, z.1.Sublist s) (h : ∀ u' v', OwnI u' v' (xs ++ ys) → Rg R Try.prog ops Q B F s0 l (a.put d v') (u' ++ s)) :
    Rg R Try.prog ops Q B F s0 ((⟨d, .call ⟨.builtin .append, #[so, xo], #[22, 22]⟩, t, p, af, gd⟩, 1) :: l) a S := by
  obtain ⟨i, hi, hz, hsz, hb⟩ := info_parts intInfo
  refine rg_append (u := u) (s := s) (i := i) (z := .int .i64 0) (size := 1) (bytes := 8) (n := xs.length) (m := ys.length) (c := c) (xs := ints xs) (news := ints ys) (ad := ⟨b, off, none⟩) hg
    Try.underlying22 hi hz hsz hb rfl (by decide) hs hown hx (by simp) ?_ (by intro x hx; simp only [List.mem_map] at hx; obtain ⟨y, _, rfl⟩ := hx; rfl) (by simp only [maxLen]; omega) (by omega) hp hzz ?_
  · intro w K j y hj
    have hlt : j < ys.length := by have := (List.getElem?_eq_some_iff.1 hj).1; simpa using this
    have hc := hr w K j hlt
    have e : (⟨b, off, none⟩ : Addr).add j = ⟨b, off + j, none⟩ := by unfold Addr.add; split <;> simp_all
    rw [e, hc, ix_get _ _ hlt, ← hj]
    simp [hlt]
  · intro u' v' hO _
    have hO' : OwnI u' v' (xs ++ ys) := by
      have e : ints (xs ++ ys) = ints xs ++ ints ys := by simp
      unfold OwnI
      rw [e, List.length_append]
      exact hO
    exact h u' v' hO'
end
/-- A list that the call owns, its block open. -/
theorem OwnI.open {u : List Blk} {v : Value} {xs : List Int} (h : OwnI u v xs) (hn : 0 < xs.length) : ∃ g cap rest, u = [(g, .cells (ints xs ++ rest).toArray 3)] ∧ v = .slice (some ⟨g, 0, none⟩) xs.length cap := by
  obtain ⟨hl, ⟨rfl, rfl, h0⟩ | ⟨g, cap, cur, rfl, rfl, hc, hm, hs, ht⟩⟩ := h
  · omega
  · refine ⟨g, cap, cur.toList.drop (xs.length * 1), ?_, rfl⟩
    rw [← ht, List.take_append_drop]
theorem row_cell {w : World} {g e : Nat} {zs : List Int} {rest : List Value} (h : Hd w g e (ints zs ++ rest).toArray) {i : Nat} (hi : i < zs.length) : w.cell? ⟨g, i, none⟩ = some (.int .i64 (ix zs i)) := by
  rw [h.cell, ix_get _ _ hi]
  simp [List.getElem?_append_left, hi]
theorem row_set {zs : List Int} {rest : List Value} (i : Nat) (x : Int) (hi : i < zs.length) : (ints zs ++ rest).set i (.int .i64 x) = ints (zs.set i x) ++ rest := by
  rw [List.set_append_left _ _ (by simpa using hi)]
  simp [List.map_set]

set_option maxRecDepth 100000 in
set_option maxHeartbeats 1000000 in
theorem clone_any (xs : List Int) (a : Option Addr) (c : Nat) (hl : xs.length ≤ 1000) (h0 : 0 < xs.length) (w : World) (hA : AS w a (ints xs)) : Calls Try.prog 113 #[slV a xs.length c] w fun e w' => RetI w (fun v => v) (fun zs => zs = xs) e w' := by
  obtain ⟨b, off, rfl, hlt, hcell⟩ := AS.open hA h0
  go_enter Try.func113, Try.ntmps113
  refine wk_start ?_
  refine wk_seq ?_
  refine wk_region [0] rfl (by kernel_rfl) ?_
  simp only [List.zip_cons_cons, List.zip_nil_right]
  refine rg_assign ?_
  simp only [Act.put, Act.eval, List.setIfInBounds_toArray, List.set_cons_zero, List.set_cons_succ, Array.getD_eq_getD_getElem?, List.getElem?_toArray, List.getElem?_cons_zero, List.getElem?_cons_succ, Option.getD_some]
  refine rg_nil ?_
  refine ek_next ?_
  refine wk_seq ?_
  refine wk_seq ?_
  refine wk_region [0, 0] rfl (by kernel_rfl) ?_
  simp only [List.zip_cons_cons, List.zip_nil_right]
  refine rg_move ?_
  simp only [Act.put, Act.eval, List.setIfInBounds_toArray, List.set_cons_zero, List.set_cons_succ, Array.getD_eq_getD_getElem?, List.getElem?_toArray, List.getElem?_cons_zero, List.getElem?_cons_succ, Option.getD_some]
  apply rg_softb
  case hy => (intro w hw; go_simp; (try go_bits); exact Yld.mk _ _)
  intro x h1
  obtain rfl : x = false := by (refine h1.symm.trans ?_; first | rfl | exact decide_eq_false (by omega) | exact beq_eq_false_iff_ne.2 (by omega) | exact bne_eq_false_iff_eq.2 (by omega) | (simp; omega))
  clear h1
  simp only [Act.put, Act.eval, List.setIfInBounds_toArray, List.set_cons_zero, List.set_cons_succ, Array.getD_eq_getD_getElem?, List.getElem?_toArray, List.getElem?_cons_zero, List.getElem?_cons_succ, Option.getD_some]
  refine rg_nil ?_
  refine ek_next ?_
  refine wk_cond_f rfl ?_
  refine wk_skip ?_
  refine ek_next ?_
  refine wk_seq ?_
  refine wk_region [1, 0, 1, 0] rfl (by kernel_rfl) ?_
  simp only [List.zip_cons_cons, List.zip_nil_right]
  refine rg_newS (cs := ?_) (ty := ?_) (n := 0) (c := 0) (by rfl) (fun w => ?_) (fun _ h => by cases h) (fun g1 => ?_); rotate_left 2
  focus (go_simp; rfl)
  simp only [Act.put, Act.eval, List.setIfInBounds_toArray, List.set_cons_zero, List.set_cons_succ, Array.getD_eq_getD_getElem?, List.getElem?_toArray, List.getElem?_cons_zero, List.getElem?_cons_succ, Option.getD_some]
  refine rg_move ?_
  simp only [Act.put, Act.eval, List.setIfInBounds_toArray, List.set_cons_zero, List.set_cons_succ, Array.getD_eq_getD_getElem?, List.getElem?_toArray, List.getElem?_cons_zero, List.getElem?_cons_succ, Option.getD_some]
  refine rg_appendL (u := [(g1, .cells (ints []).toArray 3)]) (s := []) (by rfl) rfl (OwnI.whole' rfl (by decide)) rfl (fun w K j hj => (Kn.cellB K hlt (by simp) _).trans (hcell j hj)) (by simp; omega) (List.Perm.refl _) (fun _ h => by cases h) (fun u1 v1 hO1 => ?_)
  simp only [Act.put, Act.eval, List.setIfInBounds_toArray, List.set_cons_zero, List.set_cons_succ, Array.getD_eq_getD_getElem?, List.getElem?_toArray, List.getElem?_cons_zero, List.getElem?_cons_succ, Option.getD_some]
  refine rg_assign ?_
  simp only [Act.put, Act.eval, List.setIfInBounds_toArray, List.set_cons_zero, List.set_cons_succ, Array.getD_eq_getD_getElem?, List.getElem?_toArray, List.getElem?_cons_zero, List.getElem?_cons_succ, Option.getD_some]
  refine rg_nil ?_
  refine ek_next ?_
  refine wk_ret ?_
  refine ek_ret (fun w hw => ⟨rfl, _, res_t _ rfl, ?_⟩)
  (try simp only [Act.put, Act.eval, List.setIfInBounds_toArray, List.set_cons_zero, List.set_cons_succ, Array.getD_eq_getD_getElem?, List.getElem?_toArray, List.getElem?_cons_zero, List.getElem?_cons_succ, Option.getD_some])
  exact ⟨_, _, _, rfl, hO1, rfl, hw.made (by simp)⟩

end Go.Proofs.Ytccbinnlnkpplaa
