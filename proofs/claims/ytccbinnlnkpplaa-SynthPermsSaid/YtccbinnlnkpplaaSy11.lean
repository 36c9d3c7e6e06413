/- Composing permutations. -/
import Derived.Test.YtccbinnlnkpplaaSyPm
import Derived.Test.YtccbinnlnkpplaaSy10
namespace Go.Proofs.Ytccbinnlnkpplaa
set_option linter.all false
open Go.RowKit

noncomputable def compC (xs ys : List Int) : Int := if Perm xs ∧ Perm ys then (if xs.length = ys.length then 0 else 2) else 40
noncomputable def compZ (xs ys : List Int) : List Int := if Perm xs ∧ Perm ys ∧ xs.length = ys.length then compL xs ys else []
theorem sameB_self (xs : List Int) : sameB xs xs = true := decide_eq_true rfl
theorem compZ_len (xs ys : List Int) : (compZ xs ys).length ≤ ys.length := by
  unfold compZ; split
  · rw [compL_len]; omega
  · exact Nat.zero_le _
set_option maxRecDepth 100000 in
set_option maxHeartbeats 1000000 in
theorem composeS_e1 (xs ys : List Int) (a : Option Addr) (c : Nat) (a' : Option Addr) (c' : Nat) (hl : xs.length ≤ 1000) (hl' : ys.length ≤ 1000) (hp : ¬ Perm xs) (w : World) (hA : AS w a (ints xs)) (hA' : AS w a' (ints ys)) : Calls Try.prog 15 #[slV a xs.length c, slV a' ys.length c'] w fun e w' => e = .returned (.tuple #[.slice none 0 0, .int .i64 40]) ∧ Below w.heap.size w w' := by
  go_enter Try.func15, Try.ntmps15
  refine wk_start ?_
  refine wk_seq ?_
  refine wk_region [0, 0] rfl (by kernel_rfl) ?_
  simp only [List.zip_cons_cons, List.zip_nil_right]
  refine rg_assign ?_
  simp only [Act.put, Act.eval, List.setIfInBounds_toArray, List.set_cons_zero, List.set_cons_succ, Array.getD_eq_getD_getElem?, List.getElem?_toArray, List.getElem?_cons_zero, List.getElem?_cons_succ, Option.getD_some]
  refine rg_assign ?_
  simp only [Act.put, Act.eval, List.setIfInBounds_toArray, List.set_cons_zero, List.set_cons_succ, Array.getD_eq_getD_getElem?, List.getElem?_toArray, List.getElem?_cons_zero, List.getElem?_cons_succ, Option.getD_some]
  refine rg_nil ?_
  refine ek_next ?_
  refine wk_seq ?_
  refine wk_block ?_
  refine wk_seq ?_
  refine wk_region [0, 1, 0, 0, 0, 1, 0, 0, 0] rfl (by kernel_rfl) ?_
  simp only [List.zip_cons_cons, List.zip_nil_right]
  refine rg_move ?_
  simp only [Act.put, Act.eval, List.setIfInBounds_toArray, List.set_cons_zero, List.set_cons_succ, Array.getD_eq_getD_getElem?, List.getElem?_toArray, List.getElem?_cons_zero, List.getElem?_cons_succ, Option.getD_some]
  apply rg_pure (by rfl) (by kernel_rfl)
  case hargs => (simp only [List.map_toArray, List.map_cons, List.map_nil, Act.eval, Array.getD_eq_getD_getElem?, List.getElem?_toArray, List.getElem?_cons_zero, List.getElem?_cons_succ, Option.getD_some]; exact rfl)
  case h => exact fun w hw => valid_no xs a c hl hp w (hA.kn0 hw)
  case hz => exact (fun _ h => by cases h)
  simp only [Act.put, Act.eval, List.setIfInBounds_toArray, List.set_cons_zero, List.set_cons_succ, Array.getD_eq_getD_getElem?, List.getElem?_toArray, List.getElem?_cons_zero, List.getElem?_cons_succ, Option.getD_some]
  apply rg_soft
  case hy => (intro w hw; go_simp; (try go_bits); exact Yld.mk _ _)
  simp only [Act.put, Act.eval, List.setIfInBounds_toArray, List.set_cons_zero, List.set_cons_succ, Array.getD_eq_getD_getElem?, List.getElem?_toArray, List.getElem?_cons_zero, List.getElem?_cons_succ, Option.getD_some]
  refine rg_move ?_
  simp only [Act.put, Act.eval, List.setIfInBounds_toArray, List.set_cons_zero, List.set_cons_succ, Array.getD_eq_getD_getElem?, List.getElem?_toArray, List.getElem?_cons_zero, List.getElem?_cons_succ, Option.getD_some]
  refine rg_skip (by rfl) ?_
  simp only [Act.put, Act.eval, List.setIfInBounds_toArray, List.set_cons_zero, List.set_cons_succ, Array.getD_eq_getD_getElem?, List.getElem?_toArray, List.getElem?_cons_zero, List.getElem?_cons_succ, Option.getD_some]
  refine rg_skip_h (by rfl) (fun _ h => by cases h) ?_
  simp only [Act.put, Act.eval, List.setIfInBounds_toArray, List.set_cons_zero, List.set_cons_succ, Array.getD_eq_getD_getElem?, List.getElem?_toArray, List.getElem?_cons_zero, List.getElem?_cons_succ, Option.getD_some]
  refine rg_skip (by rfl) ?_
  simp only [Act.put, Act.eval, List.setIfInBounds_toArray, List.set_cons_zero, List.set_cons_succ, Array.getD_eq_getD_getElem?, List.getElem?_toArray, List.getElem?_cons_zero, List.getElem?_cons_succ, Option.getD_some]
  apply rg_soft
  case hy => (intro w hw; go_simp; (try go_bits); exact Yld.mk _ _)
  simp only [Act.put, Act.eval, List.setIfInBounds_toArray, List.set_cons_zero, List.set_cons_succ, Array.getD_eq_getD_getElem?, List.getElem?_toArray, List.getElem?_cons_zero, List.getElem?_cons_succ, Option.getD_some]
  refine rg_assign ?_
  simp only [Act.put, Act.eval, List.setIfInBounds_toArray, List.set_cons_zero, List.set_cons_succ, Array.getD_eq_getD_getElem?, List.getElem?_toArray, List.getElem?_cons_zero, List.getElem?_cons_succ, Option.getD_some]
  refine rg_nil ?_
  refine ek_next ?_
  refine wk_cond_t rfl ?_
  refine wk_seq ?_
  refine wk_region [0, 0] rfl (by kernel_rfl) ?_
  simp only [List.zip_cons_cons, List.zip_nil_right]
  refine rg_assign ?_
  simp only [Act.put, Act.eval, List.setIfInBounds_toArray, List.set_cons_zero, List.set_cons_succ, Array.getD_eq_getD_getElem?, List.getElem?_toArray, List.getElem?_cons_zero, List.getElem?_cons_succ, Option.getD_some]
  refine rg_assign ?_
  simp only [Act.put, Act.eval, List.setIfInBounds_toArray, List.set_cons_zero, List.set_cons_succ, Array.getD_eq_getD_getElem?, List.getElem?_toArray, List.getElem?_cons_zero, List.getElem?_cons_succ, Option.getD_some]
  refine rg_nil ?_
  refine ek_next ?_
  refine wk_ret ?_
  refine ek_block_ret ?_
  refine ek_then_ret ?_
  refine ek_ret (fun w hw => ⟨rfl, _, res_tt _ _ rfl, ?_⟩)
  (try simp only [Act.put, Act.eval, List.setIfInBounds_toArray, List.set_cons_zero, List.set_cons_succ, Array.getD_eq_getD_getElem?, List.getElem?_toArray, List.getElem?_cons_zero, List.getElem?_cons_succ, Option.getD_some])
  first | exact ⟨rfl, hw.below⟩ | exact ⟨trivial, hw.below⟩ | exact hw.below

set_option maxRecDepth 100000 in
set_option maxHeartbeats 1000000 in
theorem composeS_e2 (xs ys : List Int) (a : Option Addr) (c : Nat) (a' : Option Addr) (c' : Nat) (hl : xs.length ≤ 1000) (hl' : ys.length ≤ 1000) (hp : Perm xs) (hq : ¬ Perm ys) (w : World) (hA : AS w a (ints xs)) (hA' : AS w a' (ints ys)) : Calls Try.prog 15 #[slV a xs.length c, slV a' ys.length c'] w fun e w' => e = .returned (.tuple #[.slice none 0 0, .int .i64 40]) ∧ Below w.heap.size w w' := by
  go_enter Try.func15, Try.ntmps15
  refine wk_start ?_
  refine wk_seq ?_
  refine wk_region [0, 0] rfl (by kernel_rfl) ?_
  simp only [List.zip_cons_cons, List.zip_nil_right]
  refine rg_assign ?_
  simp only [Act.put, Act.eval, List.setIfInBounds_toArray, List.set_cons_zero, List.set_cons_succ, Array.getD_eq_getD_getElem?, List.getElem?_toArray, List.getElem?_cons_zero, List.getElem?_cons_succ, Option.getD_some]
  refine rg_assign ?_
  simp only [Act.put, Act.eval, List.setIfInBounds_toArray, List.set_cons_zero, List.set_cons_succ, Array.getD_eq_getD_getElem?, List.getElem?_toArray, List.getElem?_cons_zero, List.getElem?_cons_succ, Option.getD_some]
  refine rg_nil ?_
  refine ek_next ?_
  refine wk_seq ?_
  refine wk_block ?_
  refine wk_seq ?_
  refine wk_region [0, 1, 0, 0, 0, 1, 0, 0, 0] rfl (by kernel_rfl) ?_
  simp only [List.zip_cons_cons, List.zip_nil_right]
  refine rg_move ?_
  simp only [Act.put, Act.eval, List.setIfInBounds_toArray, List.set_cons_zero, List.set_cons_succ, Array.getD_eq_getD_getElem?, List.getElem?_toArray, List.getElem?_cons_zero, List.getElem?_cons_succ, Option.getD_some]
  apply rg_pure (by rfl) (by kernel_rfl)
  case hargs => (simp only [List.map_toArray, List.map_cons, List.map_nil, Act.eval, Array.getD_eq_getD_getElem?, List.getElem?_toArray, List.getElem?_cons_zero, List.getElem?_cons_succ, Option.getD_some]; exact rfl)
  case h => exact fun w hw => valid_yes xs a c hl hp w (hA.kn0 hw)
  case hz => exact (fun _ h => by cases h)
  simp only [Act.put, Act.eval, List.setIfInBounds_toArray, List.set_cons_zero, List.set_cons_succ, Array.getD_eq_getD_getElem?, List.getElem?_toArray, List.getElem?_cons_zero, List.getElem?_cons_succ, Option.getD_some]
  apply rg_soft
  case hy => (intro w hw; go_simp; (try go_bits); exact Yld.mk _ _)
  simp only [Act.put, Act.eval, List.setIfInBounds_toArray, List.set_cons_zero, List.set_cons_succ, Array.getD_eq_getD_getElem?, List.getElem?_toArray, List.getElem?_cons_zero, List.getElem?_cons_succ, Option.getD_some]
  refine rg_move ?_
  simp only [Act.put, Act.eval, List.setIfInBounds_toArray, List.set_cons_zero, List.set_cons_succ, Array.getD_eq_getD_getElem?, List.getElem?_toArray, List.getElem?_cons_zero, List.getElem?_cons_succ, Option.getD_some]
  apply rg_soft_g
  case hg => rfl
  case hy => (intro w hw; go_simp; (try go_bits); exact Yld.mk _ _)
  simp only [Act.put, Act.eval, List.setIfInBounds_toArray, List.set_cons_zero, List.set_cons_succ, Array.getD_eq_getD_getElem?, List.getElem?_toArray, List.getElem?_cons_zero, List.getElem?_cons_succ, Option.getD_some]
  apply rg_pure (by rfl) (by kernel_rfl)
  case hargs => (simp only [List.map_toArray, List.map_cons, List.map_nil, Act.eval, Array.getD_eq_getD_getElem?, List.getElem?_toArray, List.getElem?_cons_zero, List.getElem?_cons_succ, Option.getD_some]; exact rfl)
  case h => exact fun w hw => valid_no ys a' c' hl' hq w (hA'.kn0 hw)
  case hz => exact (fun _ h => by cases h)
  simp only [Act.put, Act.eval, List.setIfInBounds_toArray, List.set_cons_zero, List.set_cons_succ, Array.getD_eq_getD_getElem?, List.getElem?_toArray, List.getElem?_cons_zero, List.getElem?_cons_succ, Option.getD_some]
  apply rg_soft_g
  case hg => rfl
  case hy => (intro w hw; go_simp; (try go_bits); exact Yld.mk _ _)
  simp only [Act.put, Act.eval, List.setIfInBounds_toArray, List.set_cons_zero, List.set_cons_succ, Array.getD_eq_getD_getElem?, List.getElem?_toArray, List.getElem?_cons_zero, List.getElem?_cons_succ, Option.getD_some]
  apply rg_soft
  case hy => (intro w hw; go_simp; (try go_bits); exact Yld.mk _ _)
  simp only [Act.put, Act.eval, List.setIfInBounds_toArray, List.set_cons_zero, List.set_cons_succ, Array.getD_eq_getD_getElem?, List.getElem?_toArray, List.getElem?_cons_zero, List.getElem?_cons_succ, Option.getD_some]
  refine rg_assign ?_
  simp only [Act.put, Act.eval, List.setIfInBounds_toArray, List.set_cons_zero, List.set_cons_succ, Array.getD_eq_getD_getElem?, List.getElem?_toArray, List.getElem?_cons_zero, List.getElem?_cons_succ, Option.getD_some]
  refine rg_nil ?_
  refine ek_next ?_
  refine wk_cond_t rfl ?_
  refine wk_seq ?_
  refine wk_region [0, 0] rfl (by kernel_rfl) ?_
  simp only [List.zip_cons_cons, List.zip_nil_right]
  refine rg_assign ?_
  simp only [Act.put, Act.eval, List.setIfInBounds_toArray, List.set_cons_zero, List.set_cons_succ, Array.getD_eq_getD_getElem?, List.getElem?_toArray, List.getElem?_cons_zero, List.getElem?_cons_succ, Option.getD_some]
  refine rg_assign ?_
  simp only [Act.put, Act.eval, List.setIfInBounds_toArray, List.set_cons_zero, List.set_cons_succ, Array.getD_eq_getD_getElem?, List.getElem?_toArray, List.getElem?_cons_zero, List.getElem?_cons_succ, Option.getD_some]
  refine rg_nil ?_
  refine ek_next ?_
  refine wk_ret ?_
  refine ek_block_ret ?_
  refine ek_then_ret ?_
  refine ek_ret (fun w hw => ⟨rfl, _, res_tt _ _ rfl, ?_⟩)
  (try simp only [Act.put, Act.eval, List.setIfInBounds_toArray, List.set_cons_zero, List.set_cons_succ, Array.getD_eq_getD_getElem?, List.getElem?_toArray, List.getElem?_cons_zero, List.getElem?_cons_succ, Option.getD_some])
  first | exact ⟨rfl, hw.below⟩ | exact ⟨trivial, hw.below⟩ | exact hw.below

set_option maxRecDepth 100000 in
set_option maxHeartbeats 1000000 in
theorem composeS_e3 (xs ys : List Int) (a : Option Addr) (c : Nat) (a' : Option Addr) (c' : Nat) (hl : xs.length ≤ 1000) (hl' : ys.length ≤ 1000) (hp : Perm xs) (hq : Perm ys) (hlen : xs.length ≠ ys.length) (w : World) (hA : AS w a (ints xs)) (hA' : AS w a' (ints ys)) : Calls Try.prog 15 #[slV a xs.length c, slV a' ys.length c'] w fun e w' => e = .returned (.tuple #[.slice none 0 0, .int .i64 2]) ∧ Below w.heap.size w w' := by
  go_enter Try.func15, Try.ntmps15
  refine wk_start ?_
  refine wk_seq ?_
  refine wk_region [0, 0] rfl (by kernel_rfl) ?_
  simp only [List.zip_cons_cons, List.zip_nil_right]
  refine rg_assign ?_
  simp only [Act.put, Act.eval, List.setIfInBounds_toArray, List.set_cons_zero, List.set_cons_succ, Array.getD_eq_getD_getElem?, List.getElem?_toArray, List.getElem?_cons_zero, List.getElem?_cons_succ, Option.getD_some]
  refine rg_assign ?_
  simp only [Act.put, Act.eval, List.setIfInBounds_toArray, List.set_cons_zero, List.set_cons_succ, Array.getD_eq_getD_getElem?, List.getElem?_toArray, List.getElem?_cons_zero, List.getElem?_cons_succ, Option.getD_some]
  refine rg_nil ?_
  refine ek_next ?_
  refine wk_seq ?_
  refine wk_block ?_
  refine wk_seq ?_
  refine wk_region [0, 1, 0, 0, 0, 1, 0, 0, 0] rfl (by kernel_rfl) ?_
  simp only [List.zip_cons_cons, List.zip_nil_right]
  refine rg_move ?_
  simp only [Act.put, Act.eval, List.setIfInBounds_toArray, List.set_cons_zero, List.set_cons_succ, Array.getD_eq_getD_getElem?, List.getElem?_toArray, List.getElem?_cons_zero, List.getElem?_cons_succ, Option.getD_some]
  apply rg_pure (by rfl) (by kernel_rfl)
  case hargs => (simp only [List.map_toArray, List.map_cons, List.map_nil, Act.eval, Array.getD_eq_getD_getElem?, List.getElem?_toArray, List.getElem?_cons_zero, List.getElem?_cons_succ, Option.getD_some]; exact rfl)
  case h => exact fun w hw => valid_yes xs a c hl hp w (hA.kn0 hw)
  case hz => exact (fun _ h => by cases h)
  simp only [Act.put, Act.eval, List.setIfInBounds_toArray, List.set_cons_zero, List.set_cons_succ, Array.getD_eq_getD_getElem?, List.getElem?_toArray, List.getElem?_cons_zero, List.getElem?_cons_succ, Option.getD_some]
  apply rg_soft
  case hy => (intro w hw; go_simp; (try go_bits); exact Yld.mk _ _)
  simp only [Act.put, Act.eval, List.setIfInBounds_toArray, List.set_cons_zero, List.set_cons_succ, Array.getD_eq_getD_getElem?, List.getElem?_toArray, List.getElem?_cons_zero, List.getElem?_cons_succ, Option.getD_some]
  refine rg_move ?_
  simp only [Act.put, Act.eval, List.setIfInBounds_toArray, List.set_cons_zero, List.set_cons_succ, Array.getD_eq_getD_getElem?, List.getElem?_toArray, List.getElem?_cons_zero, List.getElem?_cons_succ, Option.getD_some]
  apply rg_soft_g
  case hg => rfl
  case hy => (intro w hw; go_simp; (try go_bits); exact Yld.mk _ _)
  simp only [Act.put, Act.eval, List.setIfInBounds_toArray, List.set_cons_zero, List.set_cons_succ, Array.getD_eq_getD_getElem?, List.getElem?_toArray, List.getElem?_cons_zero, List.getElem?_cons_succ, Option.getD_some]
  apply rg_pure (by rfl) (by kernel_rfl)
  case hargs => (simp only [List.map_toArray, List.map_cons, List.map_nil, Act.eval, Array.getD_eq_getD_getElem?, List.getElem?_toArray, List.getElem?_cons_zero, List.getElem?_cons_succ, Option.getD_some]; exact rfl)
  case h => exact fun w hw => valid_yes ys a' c' hl' hq w (hA'.kn0 hw)
  case hz => exact (fun _ h => by cases h)
  simp only [Act.put, Act.eval, List.setIfInBounds_toArray, List.set_cons_zero, List.set_cons_succ, Array.getD_eq_getD_getElem?, List.getElem?_toArray, List.getElem?_cons_zero, List.getElem?_cons_succ, Option.getD_some]
  apply rg_soft_g
  case hg => rfl
  case hy => (intro w hw; go_simp; (try go_bits); exact Yld.mk _ _)
  simp only [Act.put, Act.eval, List.setIfInBounds_toArray, List.set_cons_zero, List.set_cons_succ, Array.getD_eq_getD_getElem?, List.getElem?_toArray, List.getElem?_cons_zero, List.getElem?_cons_succ, Option.getD_some]
  apply rg_soft
  case hy => (intro w hw; go_simp; (try go_bits); exact Yld.mk _ _)
  simp only [Act.put, Act.eval, List.setIfInBounds_toArray, List.set_cons_zero, List.set_cons_succ, Array.getD_eq_getD_getElem?, List.getElem?_toArray, List.getElem?_cons_zero, List.getElem?_cons_succ, Option.getD_some]
  refine rg_assign ?_
  simp only [Act.put, Act.eval, List.setIfInBounds_toArray, List.set_cons_zero, List.set_cons_succ, Array.getD_eq_getD_getElem?, List.getElem?_toArray, List.getElem?_cons_zero, List.getElem?_cons_succ, Option.getD_some]
  refine rg_nil ?_
  refine ek_next ?_
  refine wk_cond_f rfl ?_
  refine wk_seq ?_
  refine wk_region [0, 0, 0, 0, 0, 0] rfl (by kernel_rfl) ?_
  simp only [List.zip_cons_cons, List.zip_nil_right]
  refine rg_move ?_
  simp only [Act.put, Act.eval, List.setIfInBounds_toArray, List.set_cons_zero, List.set_cons_succ, Array.getD_eq_getD_getElem?, List.getElem?_toArray, List.getElem?_cons_zero, List.getElem?_cons_succ, Option.getD_some]
  apply rg_soft
  case hy => (intro w hw; go_simp; (try go_bits); exact Yld.mk _ _)
  simp only [Act.put, Act.eval, List.setIfInBounds_toArray, List.set_cons_zero, List.set_cons_succ, Array.getD_eq_getD_getElem?, List.getElem?_toArray, List.getElem?_cons_zero, List.getElem?_cons_succ, Option.getD_some]
  refine rg_move ?_
  simp only [Act.put, Act.eval, List.setIfInBounds_toArray, List.set_cons_zero, List.set_cons_succ, Array.getD_eq_getD_getElem?, List.getElem?_toArray, List.getElem?_cons_zero, List.getElem?_cons_succ, Option.getD_some]
  apply rg_soft
  case hy => (intro w hw; go_simp; (try go_bits); exact Yld.mk _ _)
  simp only [Act.put, Act.eval, List.setIfInBounds_toArray, List.set_cons_zero, List.set_cons_succ, Array.getD_eq_getD_getElem?, List.getElem?_toArray, List.getElem?_cons_zero, List.getElem?_cons_succ, Option.getD_some]
  apply rg_softb
  case hy => (intro w hw; go_simp; (try go_bits); exact Yld.mk _ _)
  intro x h1
  obtain rfl : x = true := by (refine h1.symm.trans ?_; first | rfl | exact decide_eq_true (by omega) | exact beq_iff_eq.2 (by omega) | exact bne_iff_ne.2 (by omega) | (simp; omega))
  clear h1
  simp only [Act.put, Act.eval, List.setIfInBounds_toArray, List.set_cons_zero, List.set_cons_succ, Array.getD_eq_getD_getElem?, List.getElem?_toArray, List.getElem?_cons_zero, List.getElem?_cons_succ, Option.getD_some]
  refine rg_assign ?_
  simp only [Act.put, Act.eval, List.setIfInBounds_toArray, List.set_cons_zero, List.set_cons_succ, Array.getD_eq_getD_getElem?, List.getElem?_toArray, List.getElem?_cons_zero, List.getElem?_cons_succ, Option.getD_some]
  refine rg_nil ?_
  refine ek_next ?_
  refine wk_cond_t rfl ?_
  refine wk_seq ?_
  refine wk_region [0, 0] rfl (by kernel_rfl) ?_
  simp only [List.zip_cons_cons, List.zip_nil_right]
  refine rg_assign ?_
  simp only [Act.put, Act.eval, List.setIfInBounds_toArray, List.set_cons_zero, List.set_cons_succ, Array.getD_eq_getD_getElem?, List.getElem?_toArray, List.getElem?_cons_zero, List.getElem?_cons_succ, Option.getD_some]
  refine rg_assign ?_
  simp only [Act.put, Act.eval, List.setIfInBounds_toArray, List.set_cons_zero, List.set_cons_succ, Array.getD_eq_getD_getElem?, List.getElem?_toArray, List.getElem?_cons_zero, List.getElem?_cons_succ, Option.getD_some]
  refine rg_nil ?_
  refine ek_next ?_
  refine wk_ret ?_
  refine ek_block_ret ?_
  refine ek_then_ret ?_
  refine ek_ret (fun w hw => ⟨rfl, _, res_tt _ _ rfl, ?_⟩)
  (try simp only [Act.put, Act.eval, List.setIfInBounds_toArray, List.set_cons_zero, List.set_cons_succ, Array.getD_eq_getD_getElem?, List.getElem?_toArray, List.getElem?_cons_zero, List.getElem?_cons_succ, Option.getD_some])
  first | exact ⟨rfl, hw.below⟩ | exact ⟨trivial, hw.below⟩ | exact hw.below

theorem composeS_any (xs ys : List Int) (a : Option Addr) (c : Nat) (a' : Option Addr) (c' : Nat) (hl : xs.length ≤ 1000) (hl' : ys.length ≤ 1000) (w : World) (hA : AS w a (ints xs)) (hA' : AS w a' (ints ys)) : Calls Try.prog 15 #[slV a xs.length c, slV a' ys.length c'] w (RetI w (fun v => .tuple #[v, .int .i64 (compC xs ys)]) (fun zs => zs = compZ xs ys)) := by
  by_cases hp : Perm xs
  · by_cases hq : Perm ys
    · by_cases hlen : xs.length = ys.length
      · have e1 : compC xs ys = 0 := by unfold compC; rw [if_pos ⟨hp, hq⟩, if_pos hlen]
        have e2 : compZ xs ys = compL xs ys := by unfold compZ; rw [if_pos ⟨hp, hq, hlen⟩]
        rw [e1, e2]; exact composeS_yes xs ys a c a' c' hl hl' hp hq hlen w hA hA'
      · have e1 : compC xs ys = 2 := by unfold compC; rw [if_pos ⟨hp, hq⟩, if_neg hlen]
        have e2 : compZ xs ys = [] := by unfold compZ; rw [if_neg (fun h => hlen h.2.2)]
        rw [e1, e2]
        exact (composeS_e3 xs ys a c a' c' hl hl' hp hq hlen w hA hA').mono fun e w' ⟨he, hb⟩ => ⟨_, [], [], he, .nil, rfl, .nil hb⟩
    · have e1 : compC xs ys = 40 := by unfold compC; rw [if_neg (fun h => hq h.2)]
      have e2 : compZ xs ys = [] := by unfold compZ; rw [if_neg (fun h => hq h.2.1)]
      rw [e1, e2]
      exact (composeS_e2 xs ys a c a' c' hl hl' hp hq w hA hA').mono fun e w' ⟨he, hb⟩ => ⟨_, [], [], he, .nil, rfl, .nil hb⟩
  · have e1 : compC xs ys = 40 := by unfold compC; rw [if_neg (fun h => hp h.1)]
    have e2 : compZ xs ys = [] := by unfold compZ; rw [if_neg (fun h => hp h.1)]
    rw [e1, e2]
    exact (composeS_e1 xs ys a c a' c' hl hl' hp w hA hA').mono fun e w' ⟨he, hb⟩ => ⟨_, [], [], he, .nil, rfl, .nil hb⟩
set_option maxRecDepth 100000 in
set_option maxHeartbeats 1000000 in
theorem rCompose_e1 (xs ys : List Int) (a : Option Addr) (c : Nat) (a' : Option Addr) (c' : Nat) (hl : xs.length ≤ 1000) (hl' : ys.length ≤ 1000) (hp : ¬ Perm xs) (w : World) (hA : AS w a (ints xs)) (hA' : AS w a' (ints ys)) : Calls Try.prog 16 #[slV a xs.length c, slV a' ys.length c'] w fun e w' => e = .returned (.tuple #[.slice none 0 0, .int .i64 40]) ∧ Below w.heap.size w w' := by
  go_enter Try.func16, Try.ntmps16
  refine wk_start ?_
  refine wk_seq ?_
  refine wk_region [0, 0] rfl (by kernel_rfl) ?_
  simp only [List.zip_cons_cons, List.zip_nil_right]
  refine rg_assign ?_
  simp only [Act.put, Act.eval, List.setIfInBounds_toArray, List.set_cons_zero, List.set_cons_succ, Array.getD_eq_getD_getElem?, List.getElem?_toArray, List.getElem?_cons_zero, List.getElem?_cons_succ, Option.getD_some]
  refine rg_assign ?_
  simp only [Act.put, Act.eval, List.setIfInBounds_toArray, List.set_cons_zero, List.set_cons_succ, Array.getD_eq_getD_getElem?, List.getElem?_toArray, List.getElem?_cons_zero, List.getElem?_cons_succ, Option.getD_some]
  refine rg_nil ?_
  refine ek_next ?_
  refine wk_seq ?_
  refine wk_seq ?_
  refine wk_region [0, 1, 0, 0, 0, 1, 0, 0] rfl (by kernel_rfl) ?_
  simp only [List.zip_cons_cons, List.zip_nil_right]
  refine rg_move ?_
  simp only [Act.put, Act.eval, List.setIfInBounds_toArray, List.set_cons_zero, List.set_cons_succ, Array.getD_eq_getD_getElem?, List.getElem?_toArray, List.getElem?_cons_zero, List.getElem?_cons_succ, Option.getD_some]
  apply rg_pure (by rfl) (by kernel_rfl)
  case hargs => (simp only [List.map_toArray, List.map_cons, List.map_nil, Act.eval, Array.getD_eq_getD_getElem?, List.getElem?_toArray, List.getElem?_cons_zero, List.getElem?_cons_succ, Option.getD_some]; exact rfl)
  case h => exact fun w hw => rvalid_no xs a c hl hp w (hA.kn0 hw)
  case hz => exact (fun _ h => by cases h)
  simp only [Act.put, Act.eval, List.setIfInBounds_toArray, List.set_cons_zero, List.set_cons_succ, Array.getD_eq_getD_getElem?, List.getElem?_toArray, List.getElem?_cons_zero, List.getElem?_cons_succ, Option.getD_some]
  apply rg_soft
  case hy => (intro w hw; go_simp; (try go_bits); exact Yld.mk _ _)
  simp only [Act.put, Act.eval, List.setIfInBounds_toArray, List.set_cons_zero, List.set_cons_succ, Array.getD_eq_getD_getElem?, List.getElem?_toArray, List.getElem?_cons_zero, List.getElem?_cons_succ, Option.getD_some]
  refine rg_move ?_
  simp only [Act.put, Act.eval, List.setIfInBounds_toArray, List.set_cons_zero, List.set_cons_succ, Array.getD_eq_getD_getElem?, List.getElem?_toArray, List.getElem?_cons_zero, List.getElem?_cons_succ, Option.getD_some]
  refine rg_skip (by rfl) ?_
  simp only [Act.put, Act.eval, List.setIfInBounds_toArray, List.set_cons_zero, List.set_cons_succ, Array.getD_eq_getD_getElem?, List.getElem?_toArray, List.getElem?_cons_zero, List.getElem?_cons_succ, Option.getD_some]
  refine rg_skip_h (by rfl) (fun _ h => by cases h) ?_
  simp only [Act.put, Act.eval, List.setIfInBounds_toArray, List.set_cons_zero, List.set_cons_succ, Array.getD_eq_getD_getElem?, List.getElem?_toArray, List.getElem?_cons_zero, List.getElem?_cons_succ, Option.getD_some]
  refine rg_skip (by rfl) ?_
  simp only [Act.put, Act.eval, List.setIfInBounds_toArray, List.set_cons_zero, List.set_cons_succ, Array.getD_eq_getD_getElem?, List.getElem?_toArray, List.getElem?_cons_zero, List.getElem?_cons_succ, Option.getD_some]
  apply rg_soft
  case hy => (intro w hw; go_simp; (try go_bits); exact Yld.mk _ _)
  simp only [Act.put, Act.eval, List.setIfInBounds_toArray, List.set_cons_zero, List.set_cons_succ, Array.getD_eq_getD_getElem?, List.getElem?_toArray, List.getElem?_cons_zero, List.getElem?_cons_succ, Option.getD_some]
  refine rg_nil ?_
  refine ek_next ?_
  refine wk_cond_t rfl ?_
  refine wk_seq ?_
  refine wk_region [0, 0] rfl (by kernel_rfl) ?_
  simp only [List.zip_cons_cons, List.zip_nil_right]
  refine rg_assign ?_
  simp only [Act.put, Act.eval, List.setIfInBounds_toArray, List.set_cons_zero, List.set_cons_succ, Array.getD_eq_getD_getElem?, List.getElem?_toArray, List.getElem?_cons_zero, List.getElem?_cons_succ, Option.getD_some]
  refine rg_assign ?_
  simp only [Act.put, Act.eval, List.setIfInBounds_toArray, List.set_cons_zero, List.set_cons_succ, Array.getD_eq_getD_getElem?, List.getElem?_toArray, List.getElem?_cons_zero, List.getElem?_cons_succ, Option.getD_some]
  refine rg_nil ?_
  refine ek_next ?_
  refine wk_ret ?_
  refine ek_then_ret ?_
  refine ek_ret (fun w hw => ⟨rfl, _, res_tt _ _ rfl, ?_⟩)
  (try simp only [Act.put, Act.eval, List.setIfInBounds_toArray, List.set_cons_zero, List.set_cons_succ, Array.getD_eq_getD_getElem?, List.getElem?_toArray, List.getElem?_cons_zero, List.getElem?_cons_succ, Option.getD_some])
  first | exact ⟨rfl, hw.below⟩ | exact ⟨trivial, hw.below⟩ | exact hw.below

set_option maxRecDepth 100000 in
set_option maxHeartbeats 1000000 in
theorem rCompose_e2 (xs ys : List Int) (a : Option Addr) (c : Nat) (a' : Option Addr) (c' : Nat) (hl : xs.length ≤ 1000) (hl' : ys.length ≤ 1000) (hp : Perm xs) (hq : ¬ Perm ys) (w : World) (hA : AS w a (ints xs)) (hA' : AS w a' (ints ys)) : Calls Try.prog 16 #[slV a xs.length c, slV a' ys.length c'] w fun e w' => e = .returned (.tuple #[.slice none 0 0, .int .i64 40]) ∧ Below w.heap.size w w' := by
  go_enter Try.func16, Try.ntmps16
  refine wk_start ?_
  refine wk_seq ?_
  refine wk_region [0, 0] rfl (by kernel_rfl) ?_
  simp only [List.zip_cons_cons, List.zip_nil_right]
  refine rg_assign ?_
  simp only [Act.put, Act.eval, List.setIfInBounds_toArray, List.set_cons_zero, List.set_cons_succ, Array.getD_eq_getD_getElem?, List.getElem?_toArray, List.getElem?_cons_zero, List.getElem?_cons_succ, Option.getD_some]
  refine rg_assign ?_
  simp only [Act.put, Act.eval, List.setIfInBounds_toArray, List.set_cons_zero, List.set_cons_succ, Array.getD_eq_getD_getElem?, List.getElem?_toArray, List.getElem?_cons_zero, List.getElem?_cons_succ, Option.getD_some]
  refine rg_nil ?_
  refine ek_next ?_
  refine wk_seq ?_
  refine wk_seq ?_
  refine wk_region [0, 1, 0, 0, 0, 1, 0, 0] rfl (by kernel_rfl) ?_
  simp only [List.zip_cons_cons, List.zip_nil_right]
  refine rg_move ?_
  simp only [Act.put, Act.eval, List.setIfInBounds_toArray, List.set_cons_zero, List.set_cons_succ, Array.getD_eq_getD_getElem?, List.getElem?_toArray, List.getElem?_cons_zero, List.getElem?_cons_succ, Option.getD_some]
  apply rg_pure (by rfl) (by kernel_rfl)
  case hargs => (simp only [List.map_toArray, List.map_cons, List.map_nil, Act.eval, Array.getD_eq_getD_getElem?, List.getElem?_toArray, List.getElem?_cons_zero, List.getElem?_cons_succ, Option.getD_some]; exact rfl)
  case h => exact fun w hw => rvalid_yes xs a c hl hp w (hA.kn0 hw)
  case hz => exact (fun _ h => by cases h)
  simp only [Act.put, Act.eval, List.setIfInBounds_toArray, List.set_cons_zero, List.set_cons_succ, Array.getD_eq_getD_getElem?, List.getElem?_toArray, List.getElem?_cons_zero, List.getElem?_cons_succ, Option.getD_some]
  apply rg_soft
  case hy => (intro w hw; go_simp; (try go_bits); exact Yld.mk _ _)
  simp only [Act.put, Act.eval, List.setIfInBounds_toArray, List.set_cons_zero, List.set_cons_succ, Array.getD_eq_getD_getElem?, List.getElem?_toArray, List.getElem?_cons_zero, List.getElem?_cons_succ, Option.getD_some]
  refine rg_move ?_
  simp only [Act.put, Act.eval, List.setIfInBounds_toArray, List.set_cons_zero, List.set_cons_succ, Array.getD_eq_getD_getElem?, List.getElem?_toArray, List.getElem?_cons_zero, List.getElem?_cons_succ, Option.getD_some]
  apply rg_soft_g
  case hg => rfl
  case hy => (intro w hw; go_simp; (try go_bits); exact Yld.mk _ _)
  simp only [Act.put, Act.eval, List.setIfInBounds_toArray, List.set_cons_zero, List.set_cons_succ, Array.getD_eq_getD_getElem?, List.getElem?_toArray, List.getElem?_cons_zero, List.getElem?_cons_succ, Option.getD_some]
  apply rg_pure (by rfl) (by kernel_rfl)
  case hargs => (simp only [List.map_toArray, List.map_cons, List.map_nil, Act.eval, Array.getD_eq_getD_getElem?, List.getElem?_toArray, List.getElem?_cons_zero, List.getElem?_cons_succ, Option.getD_some]; exact rfl)
  case h => exact fun w hw => rvalid_no ys a' c' hl' hq w (hA'.kn0 hw)
  case hz => exact (fun _ h => by cases h)
  simp only [Act.put, Act.eval, List.setIfInBounds_toArray, List.set_cons_zero, List.set_cons_succ, Array.getD_eq_getD_getElem?, List.getElem?_toArray, List.getElem?_cons_zero, List.getElem?_cons_succ, Option.getD_some]
  apply rg_soft_g
  case hg => rfl
  case hy => (intro w hw; go_simp; (try go_bits); exact Yld.mk _ _)
  simp only [Act.put, Act.eval, List.setIfInBounds_toArray, List.set_cons_zero, List.set_cons_succ, Array.getD_eq_getD_getElem?, List.getElem?_toArray, List.getElem?_cons_zero, List.getElem?_cons_succ, Option.getD_some]
  apply rg_soft
  case hy => (intro w hw; go_simp; (try go_bits); exact Yld.mk _ _)
  simp only [Act.put, Act.eval, List.setIfInBounds_toArray, List.set_cons_zero, List.set_cons_succ, Array.getD_eq_getD_getElem?, List.getElem?_toArray, List.getElem?_cons_zero, List.getElem?_cons_succ, Option.getD_some]
  refine rg_nil ?_
  refine ek_next ?_
  refine wk_cond_t rfl ?_
  refine wk_seq ?_
  refine wk_region [0, 0] rfl (by kernel_rfl) ?_
  simp only [List.zip_cons_cons, List.zip_nil_right]
  refine rg_assign ?_
  simp only [Act.put, Act.eval, List.setIfInBounds_toArray, List.set_cons_zero, List.set_cons_succ, Array.getD_eq_getD_getElem?, List.getElem?_toArray, List.getElem?_cons_zero, List.getElem?_cons_succ, Option.getD_some]
  refine rg_assign ?_
  simp only [Act.put, Act.eval, List.setIfInBounds_toArray, List.set_cons_zero, List.set_cons_succ, Array.getD_eq_getD_getElem?, List.getElem?_toArray, List.getElem?_cons_zero, List.getElem?_cons_succ, Option.getD_some]
  refine rg_nil ?_
  refine ek_next ?_
  refine wk_ret ?_
  refine ek_then_ret ?_
  refine ek_ret (fun w hw => ⟨rfl, _, res_tt _ _ rfl, ?_⟩)
  (try simp only [Act.put, Act.eval, List.setIfInBounds_toArray, List.set_cons_zero, List.set_cons_succ, Array.getD_eq_getD_getElem?, List.getElem?_toArray, List.getElem?_cons_zero, List.getElem?_cons_succ, Option.getD_some])
  first | exact ⟨rfl, hw.below⟩ | exact ⟨trivial, hw.below⟩ | exact hw.below

set_option maxRecDepth 100000 in
set_option maxHeartbeats 1000000 in
theorem rCompose_e3 (xs ys : List Int) (a : Option Addr) (c : Nat) (a' : Option Addr) (c' : Nat) (hl : xs.length ≤ 1000) (hl' : ys.length ≤ 1000) (hp : Perm xs) (hq : Perm ys) (hlen : xs.length ≠ ys.length) (w : World) (hA : AS w a (ints xs)) (hA' : AS w a' (ints ys)) : Calls Try.prog 16 #[slV a xs.length c, slV a' ys.length c'] w fun e w' => e = .returned (.tuple #[.slice none 0 0, .int .i64 2]) ∧ Below w.heap.size w w' := by
  go_enter Try.func16, Try.ntmps16
  refine wk_start ?_
  refine wk_seq ?_
  refine wk_region [0, 0] rfl (by kernel_rfl) ?_
  simp only [List.zip_cons_cons, List.zip_nil_right]
  refine rg_assign ?_
  simp only [Act.put, Act.eval, List.setIfInBounds_toArray, List.set_cons_zero, List.set_cons_succ, Array.getD_eq_getD_getElem?, List.getElem?_toArray, List.getElem?_cons_zero, List.getElem?_cons_succ, Option.getD_some]
  refine rg_assign ?_
  simp only [Act.put, Act.eval, List.setIfInBounds_toArray, List.set_cons_zero, List.set_cons_succ, Array.getD_eq_getD_getElem?, List.getElem?_toArray, List.getElem?_cons_zero, List.getElem?_cons_succ, Option.getD_some]
  refine rg_nil ?_
  refine ek_next ?_
  refine wk_seq ?_
  refine wk_seq ?_
  refine wk_region [0, 1, 0, 0, 0, 1, 0, 0] rfl (by kernel_rfl) ?_
  simp only [List.zip_cons_cons, List.zip_nil_right]
  refine rg_move ?_
  simp only [Act.put, Act.eval, List.setIfInBounds_toArray, List.set_cons_zero, List.set_cons_succ, Array.getD_eq_getD_getElem?, List.getElem?_toArray, List.getElem?_cons_zero, List.getElem?_cons_succ, Option.getD_some]
  apply rg_pure (by rfl) (by kernel_rfl)
  case hargs => (simp only [List.map_toArray, List.map_cons, List.map_nil, Act.eval, Array.getD_eq_getD_getElem?, List.getElem?_toArray, List.getElem?_cons_zero, List.getElem?_cons_succ, Option.getD_some]; exact rfl)
  case h => exact fun w hw => rvalid_yes xs a c hl hp w (hA.kn0 hw)
  case hz => exact (fun _ h => by cases h)
  simp only [Act.put, Act.eval, List.setIfInBounds_toArray, List.set_cons_zero, List.set_cons_succ, Array.getD_eq_getD_getElem?, List.getElem?_toArray, List.getElem?_cons_zero, List.getElem?_cons_succ, Option.getD_some]
  apply rg_soft
  case hy => (intro w hw; go_simp; (try go_bits); exact Yld.mk _ _)
  simp only [Act.put, Act.eval, List.setIfInBounds_toArray, List.set_cons_zero, List.set_cons_succ, Array.getD_eq_getD_getElem?, List.getElem?_toArray, List.getElem?_cons_zero, List.getElem?_cons_succ, Option.getD_some]
  refine rg_move ?_
  simp only [Act.put, Act.eval, List.setIfInBounds_toArray, List.set_cons_zero, List.set_cons_succ, Array.getD_eq_getD_getElem?, List.getElem?_toArray, List.getElem?_cons_zero, List.getElem?_cons_succ, Option.getD_some]
  apply rg_soft_g
  case hg => rfl
  case hy => (intro w hw; go_simp; (try go_bits); exact Yld.mk _ _)
  simp only [Act.put, Act.eval, List.setIfInBounds_toArray, List.set_cons_zero, List.set_cons_succ, Array.getD_eq_getD_getElem?, List.getElem?_toArray, List.getElem?_cons_zero, List.getElem?_cons_succ, Option.getD_some]
  apply rg_pure (by rfl) (by kernel_rfl)
  case hargs => (simp only [List.map_toArray, List.map_cons, List.map_nil, Act.eval, Array.getD_eq_getD_getElem?, List.getElem?_toArray, List.getElem?_cons_zero, List.getElem?_cons_succ, Option.getD_some]; exact rfl)
  case h => exact fun w hw => rvalid_yes ys a' c' hl' hq w (hA'.kn0 hw)
  case hz => exact (fun _ h => by cases h)
  simp only [Act.put, Act.eval, List.setIfInBounds_toArray, List.set_cons_zero, List.set_cons_succ, Array.getD_eq_getD_getElem?, List.getElem?_toArray, List.getElem?_cons_zero, List.getElem?_cons_succ, Option.getD_some]
  apply rg_soft_g
  case hg => rfl
  case hy => (intro w hw; go_simp; (try go_bits); exact Yld.mk _ _)
  simp only [Act.put, Act.eval, List.setIfInBounds_toArray, List.set_cons_zero, List.set_cons_succ, Array.getD_eq_getD_getElem?, List.getElem?_toArray, List.getElem?_cons_zero, List.getElem?_cons_succ, Option.getD_some]
  apply rg_soft
  case hy => (intro w hw; go_simp; (try go_bits); exact Yld.mk _ _)
  simp only [Act.put, Act.eval, List.setIfInBounds_toArray, List.set_cons_zero, List.set_cons_succ, Array.getD_eq_getD_getElem?, List.getElem?_toArray, List.getElem?_cons_zero, List.getElem?_cons_succ, Option.getD_some]
  refine rg_nil ?_
  refine ek_next ?_
  refine wk_cond_f rfl ?_
  refine wk_skip ?_
  refine ek_next ?_
  refine wk_seq ?_
  refine wk_seq ?_
  refine wk_region [0, 0, 0, 0, 0] rfl (by kernel_rfl) ?_
  simp only [List.zip_cons_cons, List.zip_nil_right]
  refine rg_move ?_
  simp only [Act.put, Act.eval, List.setIfInBounds_toArray, List.set_cons_zero, List.set_cons_succ, Array.getD_eq_getD_getElem?, List.getElem?_toArray, List.getElem?_cons_zero, List.getElem?_cons_succ, Option.getD_some]
  apply rg_soft
  case hy => (intro w hw; go_simp; (try go_bits); exact Yld.mk _ _)
  simp only [Act.put, Act.eval, List.setIfInBounds_toArray, List.set_cons_zero, List.set_cons_succ, Array.getD_eq_getD_getElem?, List.getElem?_toArray, List.getElem?_cons_zero, List.getElem?_cons_succ, Option.getD_some]
  refine rg_move ?_
  simp only [Act.put, Act.eval, List.setIfInBounds_toArray, List.set_cons_zero, List.set_cons_succ, Array.getD_eq_getD_getElem?, List.getElem?_toArray, List.getElem?_cons_zero, List.getElem?_cons_succ, Option.getD_some]
  apply rg_soft
  case hy => (intro w hw; go_simp; (try go_bits); exact Yld.mk _ _)
  simp only [Act.put, Act.eval, List.setIfInBounds_toArray, List.set_cons_zero, List.set_cons_succ, Array.getD_eq_getD_getElem?, List.getElem?_toArray, List.getElem?_cons_zero, List.getElem?_cons_succ, Option.getD_some]
  apply rg_softb
  case hy => (intro w hw; go_simp; (try go_bits); exact Yld.mk _ _)
  intro x h1
  obtain rfl : x = true := by (refine h1.symm.trans ?_; first | rfl | exact decide_eq_true (by omega) | exact beq_iff_eq.2 (by omega) | exact bne_iff_ne.2 (by omega) | (simp; omega))
  clear h1
  simp only [Act.put, Act.eval, List.setIfInBounds_toArray, List.set_cons_zero, List.set_cons_succ, Array.getD_eq_getD_getElem?, List.getElem?_toArray, List.getElem?_cons_zero, List.getElem?_cons_succ, Option.getD_some]
  refine rg_nil ?_
  refine ek_next ?_
  refine wk_cond_t rfl ?_
  refine wk_seq ?_
  refine wk_region [0, 0] rfl (by kernel_rfl) ?_
  simp only [List.zip_cons_cons, List.zip_nil_right]
  refine rg_assign ?_
  simp only [Act.put, Act.eval, List.setIfInBounds_toArray, List.set_cons_zero, List.set_cons_succ, Array.getD_eq_getD_getElem?, List.getElem?_toArray, List.getElem?_cons_zero, List.getElem?_cons_succ, Option.getD_some]
  refine rg_assign ?_
  simp only [Act.put, Act.eval, List.setIfInBounds_toArray, List.set_cons_zero, List.set_cons_succ, Array.getD_eq_getD_getElem?, List.getElem?_toArray, List.getElem?_cons_zero, List.getElem?_cons_succ, Option.getD_some]
  refine rg_nil ?_
  refine ek_next ?_
  refine wk_ret ?_
  refine ek_then_ret ?_
  refine ek_ret (fun w hw => ⟨rfl, _, res_tt _ _ rfl, ?_⟩)
  (try simp only [Act.put, Act.eval, List.setIfInBounds_toArray, List.set_cons_zero, List.set_cons_succ, Array.getD_eq_getD_getElem?, List.getElem?_toArray, List.getElem?_cons_zero, List.getElem?_cons_succ, Option.getD_some])
  first | exact ⟨rfl, hw.below⟩ | exact ⟨trivial, hw.below⟩ | exact hw.below

theorem rCompose_any (xs ys : List Int) (a : Option Addr) (c : Nat) (a' : Option Addr) (c' : Nat) (hl : xs.length ≤ 1000) (hl' : ys.length ≤ 1000) (w : World) (hA : AS w a (ints xs)) (hA' : AS w a' (ints ys)) : Calls Try.prog 16 #[slV a xs.length c, slV a' ys.length c'] w (RetI w (fun v => .tuple #[v, .int .i64 (compC xs ys)]) (fun zs => zs = compZ xs ys)) := by
  by_cases hp : Perm xs
  · by_cases hq : Perm ys
    · by_cases hlen : xs.length = ys.length
      · have e1 : compC xs ys = 0 := by unfold compC; rw [if_pos ⟨hp, hq⟩, if_pos hlen]
        have e2 : compZ xs ys = compL xs ys := by unfold compZ; rw [if_pos ⟨hp, hq, hlen⟩]
        rw [e1, e2]; exact rCompose_yes xs ys a c a' c' hl hl' hp hq hlen w hA hA'
      · have e1 : compC xs ys = 2 := by unfold compC; rw [if_pos ⟨hp, hq⟩, if_neg hlen]
        have e2 : compZ xs ys = [] := by unfold compZ; rw [if_neg (fun h => hlen h.2.2)]
        rw [e1, e2]
        exact (rCompose_e3 xs ys a c a' c' hl hl' hp hq hlen w hA hA').mono fun e w' ⟨he, hb⟩ => ⟨_, [], [], he, .nil, rfl, .nil hb⟩
    · have e1 : compC xs ys = 40 := by unfold compC; rw [if_neg (fun h => hq h.2)]
      have e2 : compZ xs ys = [] := by unfold compZ; rw [if_neg (fun h => hq h.2.1)]
      rw [e1, e2]
      exact (rCompose_e2 xs ys a c a' c' hl hl' hp hq w hA hA').mono fun e w' ⟨he, hb⟩ => ⟨_, [], [], he, .nil, rfl, .nil hb⟩
  · have e1 : compC xs ys = 40 := by unfold compC; rw [if_neg (fun h => hp h.1)]
    have e2 : compZ xs ys = [] := by unfold compZ; rw [if_neg (fun h => hp h.1)]
    rw [e1, e2]
    exact (rCompose_e1 xs ys a c a' c' hl hl' hp w hA hA').mono fun e w' ⟨he, hb⟩ => ⟨_, [], [], he, .nil, rfl, .nil hb⟩
set_option maxRecDepth 100000 in
set_option maxHeartbeats 2000000 in
theorem synthComposes_yes (xs ys : List Int) (a : Option Addr) (c : Nat) (a' : Option Addr) (c' : Nat) (hp : Perm xs) (w : World) (hA : AS w a (ints xs)) (hA' : AS w a' (ints ys)) : Calls Try.prog 3 #[slV a xs.length c, slV a' ys.length c'] w fun e w' => e = .returned (.bool true) ∧ Below w.heap.size w w' := by
  go_enter Try.func3, Try.ntmps3
  refine wk_start ?_
  refine wk_seq ?_
  refine wk_region [0] rfl (by kernel_rfl) ?_
  simp only [List.zip_cons_cons, List.zip_nil_right]
  refine rg_assign ?_
  simp only [Act.put, Act.eval, List.setIfInBounds_toArray, List.set_cons_zero, List.set_cons_succ, Array.getD_eq_getD_getElem?, List.getElem?_toArray, List.getElem?_cons_zero, List.getElem?_cons_succ, Option.getD_some]
  refine rg_nil ?_
  refine ek_next ?_
  refine wk_seq ?_
  refine wk_seq ?_
  refine wk_region [0, 0, 0, 0, 0, 0, 0, 0] rfl (by kernel_rfl) ?_
  simp only [List.zip_cons_cons, List.zip_nil_right]
  refine rg_move ?_
  simp only [Act.put, Act.eval, List.setIfInBounds_toArray, List.set_cons_zero, List.set_cons_succ, Array.getD_eq_getD_getElem?, List.getElem?_toArray, List.getElem?_cons_zero, List.getElem?_cons_succ, Option.getD_some]
  apply rg_soft
  case hy => (intro w hw; go_simp; (try go_bits); exact Yld.mk _ _)
  simp only [Act.put, Act.eval, List.setIfInBounds_toArray, List.set_cons_zero, List.set_cons_succ, Array.getD_eq_getD_getElem?, List.getElem?_toArray, List.getElem?_cons_zero, List.getElem?_cons_succ, Option.getD_some]
  apply rg_softb
  case hy => (intro w hw; go_simp; (try go_bits); exact Yld.mk _ _)
  intro x h1
  cases x
  · (try simp only [decide_eq_true_eq, decide_eq_false_iff_not, Int.not_lt, Int.not_le, beq_iff_eq, beq_eq_false_iff_ne, bne_iff_ne, bne_eq_false_iff_eq, ne_eq, Bool.not_eq_true', Bool.not_eq_false'] at h1)
    simp only [Act.put, Act.eval, List.setIfInBounds_toArray, List.set_cons_zero, List.set_cons_succ, Array.getD_eq_getD_getElem?, List.getElem?_toArray, List.getElem?_cons_zero, List.getElem?_cons_succ, Option.getD_some]
    refine rg_move ?_
    simp only [Act.put, Act.eval, List.setIfInBounds_toArray, List.set_cons_zero, List.set_cons_succ, Array.getD_eq_getD_getElem?, List.getElem?_toArray, List.getElem?_cons_zero, List.getElem?_cons_succ, Option.getD_some]
    apply rg_soft_g
    case hg => rfl
    case hy => (intro w hw; go_simp; (try go_bits); exact Yld.mk _ _)
    simp only [Act.put, Act.eval, List.setIfInBounds_toArray, List.set_cons_zero, List.set_cons_succ, Array.getD_eq_getD_getElem?, List.getElem?_toArray, List.getElem?_cons_zero, List.getElem?_cons_succ, Option.getD_some]
    apply rg_soft_g
    case hg => rfl
    case hy => (intro w hw; go_simp; (try go_bits); exact Yld.mk _ _)
    simp only [Act.put, Act.eval, List.setIfInBounds_toArray, List.set_cons_zero, List.set_cons_succ, Array.getD_eq_getD_getElem?, List.getElem?_toArray, List.getElem?_cons_zero, List.getElem?_cons_succ, Option.getD_some]
    apply rg_softb_g
    case hg => rfl
    case hy => (intro w hw; go_simp; (try go_bits); exact Yld.mk _ _)
    intro x h2
    cases x
    · (try simp only [decide_eq_true_eq, decide_eq_false_iff_not, Int.not_lt, Int.not_le, beq_iff_eq, beq_eq_false_iff_ne, bne_iff_ne, bne_eq_false_iff_eq, ne_eq, Bool.not_eq_true', Bool.not_eq_false'] at h2)
      simp only [Act.put, Act.eval, List.setIfInBounds_toArray, List.set_cons_zero, List.set_cons_succ, Array.getD_eq_getD_getElem?, List.getElem?_toArray, List.getElem?_cons_zero, List.getElem?_cons_succ, Option.getD_some]
      apply rg_soft
      case hy => (intro w hw; go_simp; (try go_bits); exact Yld.mk _ _)
      simp only [Act.put, Act.eval, List.setIfInBounds_toArray, List.set_cons_zero, List.set_cons_succ, Array.getD_eq_getD_getElem?, List.getElem?_toArray, List.getElem?_cons_zero, List.getElem?_cons_succ, Option.getD_some]
      refine rg_nil ?_
      refine ek_next ?_
      refine wk_cond_f rfl ?_
      refine wk_skip ?_
      refine ek_next ?_
      refine wk_seq ?_
      refine wk_region [0, 0, 1, 0, 0, 0, 0, 0] rfl (by kernel_rfl) ?_
      simp only [List.zip_cons_cons, List.zip_nil_right]
      refine rg_move ?_
      simp only [Act.put, Act.eval, List.setIfInBounds_toArray, List.set_cons_zero, List.set_cons_succ, Array.getD_eq_getD_getElem?, List.getElem?_toArray, List.getElem?_cons_zero, List.getElem?_cons_succ, Option.getD_some]
      refine rg_move ?_
      simp only [Act.put, Act.eval, List.setIfInBounds_toArray, List.set_cons_zero, List.set_cons_succ, Array.getD_eq_getD_getElem?, List.getElem?_toArray, List.getElem?_cons_zero, List.getElem?_cons_succ, Option.getD_some]
      apply rg_retI (by rfl) (by kernel_rfl)
      case hargs => (simp only [List.map_toArray, List.map_cons, List.map_nil, Act.eval, Array.getD_eq_getD_getElem?, List.getElem?_toArray, List.getElem?_cons_zero, List.getElem?_cons_succ, Option.getD_some]; exact rfl)
      case h => exact fun w hw => composeS_any xs ys a c a' c' (by omega) (by omega) w (hA.kn0 hw) (hA'.kn0 hw)
      case hz => exact (fun _ h => by cases h)
      intro v1 u1 z1 hO1 hT1
      simp only [Act.put, Act.eval, List.setIfInBounds_toArray, List.set_cons_zero, List.set_cons_succ, Array.getD_eq_getD_getElem?, List.getElem?_toArray, List.getElem?_cons_zero, List.getElem?_cons_succ, Option.getD_some]
      subst hT1
      obtain ⟨a1, c1, rfl⟩ := hO1.val
      refine rg_move ?_
      simp only [Act.put, Act.eval, List.setIfInBounds_toArray, List.set_cons_zero, List.set_cons_succ, Array.getD_eq_getD_getElem?, List.getElem?_toArray, List.getElem?_cons_zero, List.getElem?_cons_succ, Option.getD_some]
      apply rg_soft
      case hy => (intro w hw; go_simp; (try go_bits); exact Yld.mk _ _)
      simp only [Act.put, Act.eval, List.setIfInBounds_toArray, List.set_cons_zero, List.set_cons_succ, Array.getD_eq_getD_getElem?, List.getElem?_toArray, List.getElem?_cons_zero, List.getElem?_cons_succ, Option.getD_some]
      apply rg_soft
      case hy => (intro w hw; go_simp; (try go_bits); exact Yld.mk _ _)
      simp only [Act.put, Act.eval, List.setIfInBounds_toArray, List.set_cons_zero, List.set_cons_succ, Array.getD_eq_getD_getElem?, List.getElem?_toArray, List.getElem?_cons_zero, List.getElem?_cons_succ, Option.getD_some]
      refine rg_assign ?_
      simp only [Act.put, Act.eval, List.setIfInBounds_toArray, List.set_cons_zero, List.set_cons_succ, Array.getD_eq_getD_getElem?, List.getElem?_toArray, List.getElem?_cons_zero, List.getElem?_cons_succ, Option.getD_some]
      refine rg_assign ?_
      simp only [Act.put, Act.eval, List.setIfInBounds_toArray, List.set_cons_zero, List.set_cons_succ, Array.getD_eq_getD_getElem?, List.getElem?_toArray, List.getElem?_cons_zero, List.getElem?_cons_succ, Option.getD_some]
      refine rg_nil ?_
      refine ek_next ?_
      refine wk_seq ?_
      refine wk_region [0, 0, 1, 0, 0, 0, 0, 0] rfl (by kernel_rfl) ?_
      simp only [List.zip_cons_cons, List.zip_nil_right]
      refine rg_move ?_
      simp only [Act.put, Act.eval, List.setIfInBounds_toArray, List.set_cons_zero, List.set_cons_succ, Array.getD_eq_getD_getElem?, List.getElem?_toArray, List.getElem?_cons_zero, List.getElem?_cons_succ, Option.getD_some]
      refine rg_move ?_
      simp only [Act.put, Act.eval, List.setIfInBounds_toArray, List.set_cons_zero, List.set_cons_succ, Array.getD_eq_getD_getElem?, List.getElem?_toArray, List.getElem?_cons_zero, List.getElem?_cons_succ, Option.getD_some]
      apply rg_retI (by rfl) (by kernel_rfl)
      case hargs => (simp only [List.map_toArray, List.map_cons, List.map_nil, Act.eval, Array.getD_eq_getD_getElem?, List.getElem?_toArray, List.getElem?_cons_zero, List.getElem?_cons_succ, Option.getD_some]; exact rfl)
      case h => exact fun w hw => rCompose_any xs ys a c a' c' (by omega) (by omega) w (hA.kn0 hw) (hA'.kn0 hw)
      case hz => exact (fun _ h => by cases h)
      intro v2 u2 z2 hO2 hT2
      simp only [Act.put, Act.eval, List.setIfInBounds_toArray, List.set_cons_zero, List.set_cons_succ, Array.getD_eq_getD_getElem?, List.getElem?_toArray, List.getElem?_cons_zero, List.getElem?_cons_succ, Option.getD_some]
      subst hT2
      obtain ⟨a2, c2, rfl⟩ := hO2.val
      refine rg_move ?_
      simp only [Act.put, Act.eval, List.setIfInBounds_toArray, List.set_cons_zero, List.set_cons_succ, Array.getD_eq_getD_getElem?, List.getElem?_toArray, List.getElem?_cons_zero, List.getElem?_cons_succ, Option.getD_some]
      apply rg_soft
      case hy => (intro w hw; go_simp; (try go_bits); exact Yld.mk _ _)
      simp only [Act.put, Act.eval, List.setIfInBounds_toArray, List.set_cons_zero, List.set_cons_succ, Array.getD_eq_getD_getElem?, List.getElem?_toArray, List.getElem?_cons_zero, List.getElem?_cons_succ, Option.getD_some]
      apply rg_soft
      case hy => (intro w hw; go_simp; (try go_bits); exact Yld.mk _ _)
      simp only [Act.put, Act.eval, List.setIfInBounds_toArray, List.set_cons_zero, List.set_cons_succ, Array.getD_eq_getD_getElem?, List.getElem?_toArray, List.getElem?_cons_zero, List.getElem?_cons_succ, Option.getD_some]
      refine rg_assign ?_
      simp only [Act.put, Act.eval, List.setIfInBounds_toArray, List.set_cons_zero, List.set_cons_succ, Array.getD_eq_getD_getElem?, List.getElem?_toArray, List.getElem?_cons_zero, List.getElem?_cons_succ, Option.getD_some]
      refine rg_assign ?_
      simp only [Act.put, Act.eval, List.setIfInBounds_toArray, List.set_cons_zero, List.set_cons_succ, Array.getD_eq_getD_getElem?, List.getElem?_toArray, List.getElem?_cons_zero, List.getElem?_cons_succ, Option.getD_some]
      refine rg_nil ?_
      refine ek_next ?_
      refine wk_seq ?_
      refine wk_seq ?_
      refine wk_region [0, 0, 1, 0, 0, 0, 0, 0, 0] rfl (by kernel_rfl) ?_
      simp only [List.zip_cons_cons, List.zip_nil_right]
      refine rg_move ?_
      simp only [Act.put, Act.eval, List.setIfInBounds_toArray, List.set_cons_zero, List.set_cons_succ, Array.getD_eq_getD_getElem?, List.getElem?_toArray, List.getElem?_cons_zero, List.getElem?_cons_succ, Option.getD_some]
      refine rg_move ?_
      simp only [Act.put, Act.eval, List.setIfInBounds_toArray, List.set_cons_zero, List.set_cons_succ, Array.getD_eq_getD_getElem?, List.getElem?_toArray, List.getElem?_cons_zero, List.getElem?_cons_succ, Option.getD_some]
      apply rg_pure (by rfl) (by kernel_rfl)
      case hargs => (simp only [List.map_toArray, List.map_cons, List.map_nil, Act.eval, Array.getD_eq_getD_getElem?, List.getElem?_toArray, List.getElem?_cons_zero, List.getElem?_cons_succ, Option.getD_some]; exact rfl)
      case h => exact fun w hw => (by have h := same_any (compZ xs ys) (compZ xs ys) a1 c1 a2 c2 (Nat.le_trans (compZ_len xs ys) (by omega)) (Nat.le_trans (compZ_len xs ys) (by omega)) w (hO1.as (Kn.tlU hw)) (hO2.as hw); rw [sameB_self] at h; exact h)
      case hz => exact (fun _ h => by cases h)
      simp only [Act.put, Act.eval, List.setIfInBounds_toArray, List.set_cons_zero, List.set_cons_succ, Array.getD_eq_getD_getElem?, List.getElem?_toArray, List.getElem?_cons_zero, List.getElem?_cons_succ, Option.getD_some]
      apply rg_soft
      case hy => (intro w hw; go_simp; (try go_bits); exact Yld.mk _ _)
      simp only [Act.put, Act.eval, List.setIfInBounds_toArray, List.set_cons_zero, List.set_cons_succ, Array.getD_eq_getD_getElem?, List.getElem?_toArray, List.getElem?_cons_zero, List.getElem?_cons_succ, Option.getD_some]
      refine rg_move ?_
      simp only [Act.put, Act.eval, List.setIfInBounds_toArray, List.set_cons_zero, List.set_cons_succ, Array.getD_eq_getD_getElem?, List.getElem?_toArray, List.getElem?_cons_zero, List.getElem?_cons_succ, Option.getD_some]
      apply rg_soft_g
      case hg => rfl
      case hy => (intro w hw; go_simp; (try go_bits); exact Yld.mk _ _)
      simp only [Act.put, Act.eval, List.setIfInBounds_toArray, List.set_cons_zero, List.set_cons_succ, Array.getD_eq_getD_getElem?, List.getElem?_toArray, List.getElem?_cons_zero, List.getElem?_cons_succ, Option.getD_some]
      apply rg_soft_g
      case hg => rfl
      case hy => (intro w hw; go_simp; (try go_bits); exact Yld.mk _ _)
      simp only [Act.put, Act.eval, List.setIfInBounds_toArray, List.set_cons_zero, List.set_cons_succ, Array.getD_eq_getD_getElem?, List.getElem?_toArray, List.getElem?_cons_zero, List.getElem?_cons_succ, Option.getD_some]
      apply rg_softb_g
      case hg => rfl
      case hy => (intro w hw; go_simp; (try go_bits); exact Yld.mk _ _)
      intro x h3
      obtain rfl : x = false := by (refine h3.symm.trans ?_; first | rfl | exact decide_eq_false (by omega) | exact beq_eq_false_iff_ne.2 (by omega) | exact bne_eq_false_iff_eq.2 (by omega) | (simp; omega))
      clear h3
      simp only [Act.put, Act.eval, List.setIfInBounds_toArray, List.set_cons_zero, List.set_cons_succ, Array.getD_eq_getD_getElem?, List.getElem?_toArray, List.getElem?_cons_zero, List.getElem?_cons_succ, Option.getD_some]
      apply rg_soft
      case hy => (intro w hw; go_simp; (try go_bits); exact Yld.mk _ _)
      simp only [Act.put, Act.eval, List.setIfInBounds_toArray, List.set_cons_zero, List.set_cons_succ, Array.getD_eq_getD_getElem?, List.getElem?_toArray, List.getElem?_cons_zero, List.getElem?_cons_succ, Option.getD_some]
      refine rg_nil ?_
      refine ek_next ?_
      refine wk_cond_f rfl ?_
      refine wk_skip ?_
      refine ek_next ?_
      refine wk_seq ?_
      refine wk_region [0, 1, 0, 0, 0, 0, 0] rfl (by kernel_rfl) ?_
      simp only [List.zip_cons_cons, List.zip_nil_right]
      refine rg_move ?_
      simp only [Act.put, Act.eval, List.setIfInBounds_toArray, List.set_cons_zero, List.set_cons_succ, Array.getD_eq_getD_getElem?, List.getElem?_toArray, List.getElem?_cons_zero, List.getElem?_cons_succ, Option.getD_some]
      apply rg_retI (by rfl) (by kernel_rfl)
      case hargs => (simp only [List.map_toArray, List.map_cons, List.map_nil, Act.eval, Array.getD_eq_getD_getElem?, List.getElem?_toArray, List.getElem?_cons_zero, List.getElem?_cons_succ, Option.getD_some]; exact rfl)
      case h => exact fun w hw => invertS_yes xs a c (by omega) hp w (hA.kn0 hw)
      case hz => exact (fun _ h => by cases h)
      intro v3 u3 z3 hO3 hT3
      simp only [Act.put, Act.eval, List.setIfInBounds_toArray, List.set_cons_zero, List.set_cons_succ, Array.getD_eq_getD_getElem?, List.getElem?_toArray, List.getElem?_cons_zero, List.getElem?_cons_succ, Option.getD_some]
      subst hT3
      obtain ⟨a3, c3, rfl⟩ := hO3.val
      simp only [invL_len]
      refine rg_move ?_
      simp only [Act.put, Act.eval, List.setIfInBounds_toArray, List.set_cons_zero, List.set_cons_succ, Array.getD_eq_getD_getElem?, List.getElem?_toArray, List.getElem?_cons_zero, List.getElem?_cons_succ, Option.getD_some]
      apply rg_soft
      case hy => (intro w hw; go_simp; (try go_bits); exact Yld.mk _ _)
      simp only [Act.put, Act.eval, List.setIfInBounds_toArray, List.set_cons_zero, List.set_cons_succ, Array.getD_eq_getD_getElem?, List.getElem?_toArray, List.getElem?_cons_zero, List.getElem?_cons_succ, Option.getD_some]
      apply rg_soft
      case hy => (intro w hw; go_simp; (try go_bits); exact Yld.mk _ _)
      simp only [Act.put, Act.eval, List.setIfInBounds_toArray, List.set_cons_zero, List.set_cons_succ, Array.getD_eq_getD_getElem?, List.getElem?_toArray, List.getElem?_cons_zero, List.getElem?_cons_succ, Option.getD_some]
      refine rg_assign ?_
      simp only [Act.put, Act.eval, List.setIfInBounds_toArray, List.set_cons_zero, List.set_cons_succ, Array.getD_eq_getD_getElem?, List.getElem?_toArray, List.getElem?_cons_zero, List.getElem?_cons_succ, Option.getD_some]
      refine rg_assign ?_
      simp only [Act.put, Act.eval, List.setIfInBounds_toArray, List.set_cons_zero, List.set_cons_succ, Array.getD_eq_getD_getElem?, List.getElem?_toArray, List.getElem?_cons_zero, List.getElem?_cons_succ, Option.getD_some]
      refine rg_nil ?_
      refine ek_next ?_
      refine wk_seq ?_
      refine wk_seq ?_
      refine wk_region [0, 0] rfl (by kernel_rfl) ?_
      simp only [List.zip_cons_cons, List.zip_nil_right]
      refine rg_move ?_
      simp only [Act.put, Act.eval, List.setIfInBounds_toArray, List.set_cons_zero, List.set_cons_succ, Array.getD_eq_getD_getElem?, List.getElem?_toArray, List.getElem?_cons_zero, List.getElem?_cons_succ, Option.getD_some]
      apply rg_softb
      case hy => (intro w hw; go_simp; (try go_bits); exact Yld.mk _ _)
      intro x h4
      obtain rfl : x = false := by (refine h4.symm.trans ?_; first | rfl | exact decide_eq_false (by omega) | exact beq_eq_false_iff_ne.2 (by omega) | exact bne_eq_false_iff_eq.2 (by omega) | (simp; omega))
      clear h4
      simp only [Act.put, Act.eval, List.setIfInBounds_toArray, List.set_cons_zero, List.set_cons_succ, Array.getD_eq_getD_getElem?, List.getElem?_toArray, List.getElem?_cons_zero, List.getElem?_cons_succ, Option.getD_some]
      refine rg_nil ?_
      refine ek_next ?_
      refine wk_cond_f rfl ?_
      refine wk_skip ?_
      refine ek_next ?_
      refine wk_seq ?_
      refine wk_region [0, 0, 1, 0, 0, 0, 0, 0] rfl (by kernel_rfl) ?_
      simp only [List.zip_cons_cons, List.zip_nil_right]
      refine rg_move ?_
      simp only [Act.put, Act.eval, List.setIfInBounds_toArray, List.set_cons_zero, List.set_cons_succ, Array.getD_eq_getD_getElem?, List.getElem?_toArray, List.getElem?_cons_zero, List.getElem?_cons_succ, Option.getD_some]
      refine rg_move ?_
      simp only [Act.put, Act.eval, List.setIfInBounds_toArray, List.set_cons_zero, List.set_cons_succ, Array.getD_eq_getD_getElem?, List.getElem?_toArray, List.getElem?_cons_zero, List.getElem?_cons_succ, Option.getD_some]
      apply rg_retI (by rfl) (by kernel_rfl)
      case hargs => (simp only [List.map_toArray, List.map_cons, List.map_nil, Act.eval, Array.getD_eq_getD_getElem?, List.getElem?_toArray, List.getElem?_cons_zero, List.getElem?_cons_succ, Option.getD_some]; exact rfl)
      case h => exact fun w hw => (by have h := composeS_yes (invL xs) xs a3 c3 a c (by rw [invL_len]; omega) (by omega) hp.inv hp (invL_len xs) w (hO3.as hw) (hA.kn0 hw); rw [invL_len] at h; exact h)
      case hz => exact (fun _ h => by cases h)
      intro v4 u4 z4 hO4 hT4
      simp only [Act.put, Act.eval, List.setIfInBounds_toArray, List.set_cons_zero, List.set_cons_succ, Array.getD_eq_getD_getElem?, List.getElem?_toArray, List.getElem?_cons_zero, List.getElem?_cons_succ, Option.getD_some]
      subst hT4
      obtain ⟨g, cap, rest, rfl, rfl⟩ := hO4.open (by rw [compL_len]; exact hp.1)
      simp only [compL_len, List.cons_append, List.nil_append]
      refine rg_move ?_
      simp only [Act.put, Act.eval, List.setIfInBounds_toArray, List.set_cons_zero, List.set_cons_succ, Array.getD_eq_getD_getElem?, List.getElem?_toArray, List.getElem?_cons_zero, List.getElem?_cons_succ, Option.getD_some]
      apply rg_soft
      case hy => (intro w hw; go_simp; (try go_bits); exact Yld.mk _ _)
      simp only [Act.put, Act.eval, List.setIfInBounds_toArray, List.set_cons_zero, List.set_cons_succ, Array.getD_eq_getD_getElem?, List.getElem?_toArray, List.getElem?_cons_zero, List.getElem?_cons_succ, Option.getD_some]
      apply rg_soft
      case hy => (intro w hw; go_simp; (try go_bits); exact Yld.mk _ _)
      simp only [Act.put, Act.eval, List.setIfInBounds_toArray, List.set_cons_zero, List.set_cons_succ, Array.getD_eq_getD_getElem?, List.getElem?_toArray, List.getElem?_cons_zero, List.getElem?_cons_succ, Option.getD_some]
      refine rg_assign ?_
      simp only [Act.put, Act.eval, List.setIfInBounds_toArray, List.set_cons_zero, List.set_cons_succ, Array.getD_eq_getD_getElem?, List.getElem?_toArray, List.getElem?_cons_zero, List.getElem?_cons_succ, Option.getD_some]
      refine rg_assign ?_
      simp only [Act.put, Act.eval, List.setIfInBounds_toArray, List.set_cons_zero, List.set_cons_succ, Array.getD_eq_getD_getElem?, List.getElem?_toArray, List.getElem?_cons_zero, List.getElem?_cons_succ, Option.getD_some]
      refine rg_nil ?_
      refine ek_next ?_
      refine wk_seq ?_
      refine wk_region [0, 1, 0, 0, 0, 0, 0] rfl (by kernel_rfl) ?_
      simp only [List.zip_cons_cons, List.zip_nil_right]
      refine rg_move ?_
      simp only [Act.put, Act.eval, List.setIfInBounds_toArray, List.set_cons_zero, List.set_cons_succ, Array.getD_eq_getD_getElem?, List.getElem?_toArray, List.getElem?_cons_zero, List.getElem?_cons_succ, Option.getD_some]
      apply rg_pure (by rfl) (by kernel_rfl)
      case hargs => (simp only [List.map_toArray, List.map_cons, List.map_nil, Act.eval, Array.getD_eq_getD_getElem?, List.getElem?_toArray, List.getElem?_cons_zero, List.getElem?_cons_succ, Option.getD_some]; exact rfl)
      case h => exact fun w hw => inversions_yes xs a c (by omega) hp w (hA.kn0 hw)
      case hz => exact (fun _ h => by cases h)
      simp only [Act.put, Act.eval, List.setIfInBounds_toArray, List.set_cons_zero, List.set_cons_succ, Array.getD_eq_getD_getElem?, List.getElem?_toArray, List.getElem?_cons_zero, List.getElem?_cons_succ, Option.getD_some]
      refine rg_move ?_
      simp only [Act.put, Act.eval, List.setIfInBounds_toArray, List.set_cons_zero, List.set_cons_succ, Array.getD_eq_getD_getElem?, List.getElem?_toArray, List.getElem?_cons_zero, List.getElem?_cons_succ, Option.getD_some]
      apply rg_soft
      case hy => (intro w hw; go_simp; (try go_bits); exact Yld.mk _ _)
      simp only [Act.put, Act.eval, List.setIfInBounds_toArray, List.set_cons_zero, List.set_cons_succ, Array.getD_eq_getD_getElem?, List.getElem?_toArray, List.getElem?_cons_zero, List.getElem?_cons_succ, Option.getD_some]
      apply rg_soft
      case hy => (intro w hw; go_simp; (try go_bits); exact Yld.mk _ _)
      simp only [Act.put, Act.eval, List.setIfInBounds_toArray, List.set_cons_zero, List.set_cons_succ, Array.getD_eq_getD_getElem?, List.getElem?_toArray, List.getElem?_cons_zero, List.getElem?_cons_succ, Option.getD_some]
      refine rg_assign ?_
      simp only [Act.put, Act.eval, List.setIfInBounds_toArray, List.set_cons_zero, List.set_cons_succ, Array.getD_eq_getD_getElem?, List.getElem?_toArray, List.getElem?_cons_zero, List.getElem?_cons_succ, Option.getD_some]
      refine rg_assign ?_
      simp only [Act.put, Act.eval, List.setIfInBounds_toArray, List.set_cons_zero, List.set_cons_succ, Array.getD_eq_getD_getElem?, List.getElem?_toArray, List.getElem?_cons_zero, List.getElem?_cons_succ, Option.getD_some]
      refine rg_nil ?_
      refine ek_next ?_
      refine wk_seq ?_
      refine wk_region [0, 1, 0, 0, 0, 0, 0] rfl (by kernel_rfl) ?_
      simp only [List.zip_cons_cons, List.zip_nil_right]
      refine rg_move ?_
      simp only [Act.put, Act.eval, List.setIfInBounds_toArray, List.set_cons_zero, List.set_cons_succ, Array.getD_eq_getD_getElem?, List.getElem?_toArray, List.getElem?_cons_zero, List.getElem?_cons_succ, Option.getD_some]
      apply rg_pure (by rfl) (by kernel_rfl)
      case hargs => (simp only [List.map_toArray, List.map_cons, List.map_nil, Act.eval, Array.getD_eq_getD_getElem?, List.getElem?_toArray, List.getElem?_cons_zero, List.getElem?_cons_succ, Option.getD_some]; exact rfl)
      case h => exact fun w hw => (by have h := inversions_yes (invL xs) a3 c3 (by rw [invL_len]; omega) hp.inv w (hO3.as (Kn.tl hw)); rw [invL_len, invs_inv hp] at h; exact h)
      case hz => exact (fun _ h => by cases h)
      simp only [Act.put, Act.eval, List.setIfInBounds_toArray, List.set_cons_zero, List.set_cons_succ, Array.getD_eq_getD_getElem?, List.getElem?_toArray, List.getElem?_cons_zero, List.getElem?_cons_succ, Option.getD_some]
      refine rg_move ?_
      simp only [Act.put, Act.eval, List.setIfInBounds_toArray, List.set_cons_zero, List.set_cons_succ, Array.getD_eq_getD_getElem?, List.getElem?_toArray, List.getElem?_cons_zero, List.getElem?_cons_succ, Option.getD_some]
      apply rg_soft
      case hy => (intro w hw; go_simp; (try go_bits); exact Yld.mk _ _)
      simp only [Act.put, Act.eval, List.setIfInBounds_toArray, List.set_cons_zero, List.set_cons_succ, Array.getD_eq_getD_getElem?, List.getElem?_toArray, List.getElem?_cons_zero, List.getElem?_cons_succ, Option.getD_some]
      apply rg_soft
      case hy => (intro w hw; go_simp; (try go_bits); exact Yld.mk _ _)
      simp only [Act.put, Act.eval, List.setIfInBounds_toArray, List.set_cons_zero, List.set_cons_succ, Array.getD_eq_getD_getElem?, List.getElem?_toArray, List.getElem?_cons_zero, List.getElem?_cons_succ, Option.getD_some]
      refine rg_assign ?_
      simp only [Act.put, Act.eval, List.setIfInBounds_toArray, List.set_cons_zero, List.set_cons_succ, Array.getD_eq_getD_getElem?, List.getElem?_toArray, List.getElem?_cons_zero, List.getElem?_cons_succ, Option.getD_some]
      refine rg_assign ?_
      simp only [Act.put, Act.eval, List.setIfInBounds_toArray, List.set_cons_zero, List.set_cons_succ, Array.getD_eq_getD_getElem?, List.getElem?_toArray, List.getElem?_cons_zero, List.getElem?_cons_succ, Option.getD_some]
      refine rg_nil ?_
      refine ek_next ?_
      refine wk_seq ?_
      refine wk_seq ?_
      refine wk_region [0, 0, 0, 0, 0, 0, 0, 0, 0, 0, 0, 0, 0, 0, 0, 0, 0, 0, 0, 0, 0, 0] rfl (by kernel_rfl) ?_
      simp only [List.zip_cons_cons, List.zip_nil_right]
      refine rg_move ?_
      simp only [Act.put, Act.eval, List.setIfInBounds_toArray, List.set_cons_zero, List.set_cons_succ, Array.getD_eq_getD_getElem?, List.getElem?_toArray, List.getElem?_cons_zero, List.getElem?_cons_succ, Option.getD_some]
      apply rg_softb
      case hy => (intro w hw; go_simp; (try go_bits); exact Yld.mk _ _)
      intro x h5
      obtain rfl : x = false := by (refine h5.symm.trans ?_; first | rfl | exact decide_eq_false (by omega) | exact beq_eq_false_iff_ne.2 (by omega) | exact bne_eq_false_iff_eq.2 (by omega) | (simp; omega))
      clear h5
      simp only [Act.put, Act.eval, List.setIfInBounds_toArray, List.set_cons_zero, List.set_cons_succ, Array.getD_eq_getD_getElem?, List.getElem?_toArray, List.getElem?_cons_zero, List.getElem?_cons_succ, Option.getD_some]
      refine rg_move ?_
      simp only [Act.put, Act.eval, List.setIfInBounds_toArray, List.set_cons_zero, List.set_cons_succ, Array.getD_eq_getD_getElem?, List.getElem?_toArray, List.getElem?_cons_zero, List.getElem?_cons_succ, Option.getD_some]
      apply rg_soft_g
      case hg => rfl
      case hy => (intro w hw; go_simp; (try go_bits); exact Yld.mk _ _)
      simp only [Act.put, Act.eval, List.setIfInBounds_toArray, List.set_cons_zero, List.set_cons_succ, Array.getD_eq_getD_getElem?, List.getElem?_toArray, List.getElem?_cons_zero, List.getElem?_cons_succ, Option.getD_some]
      apply rg_softb_g
      case hg => rfl
      case hy => (intro w hw; go_simp; (try go_bits); exact Yld.mk _ _)
      intro x h6
      obtain rfl : x = false := by (refine h6.symm.trans ?_; first | rfl | exact decide_eq_false (by omega) | exact beq_eq_false_iff_ne.2 (by omega) | exact bne_eq_false_iff_eq.2 (by omega) | (simp; omega))
      clear h6
      simp only [Act.put, Act.eval, List.setIfInBounds_toArray, List.set_cons_zero, List.set_cons_succ, Array.getD_eq_getD_getElem?, List.getElem?_toArray, List.getElem?_cons_zero, List.getElem?_cons_succ, Option.getD_some]
      apply rg_soft
      case hy => (intro w hw; go_simp; (try go_bits); exact Yld.mk _ _)
      simp only [Act.put, Act.eval, List.setIfInBounds_toArray, List.set_cons_zero, List.set_cons_succ, Array.getD_eq_getD_getElem?, List.getElem?_toArray, List.getElem?_cons_zero, List.getElem?_cons_succ, Option.getD_some]
      refine rg_move ?_
      simp only [Act.put, Act.eval, List.setIfInBounds_toArray, List.set_cons_zero, List.set_cons_succ, Array.getD_eq_getD_getElem?, List.getElem?_toArray, List.getElem?_cons_zero, List.getElem?_cons_succ, Option.getD_some]
      apply rg_soft_g
      case hg => rfl
      case hy => (intro w hw; go_simp; (try go_bits); exact Yld.mk _ _)
      simp only [Act.put, Act.eval, List.setIfInBounds_toArray, List.set_cons_zero, List.set_cons_succ, Array.getD_eq_getD_getElem?, List.getElem?_toArray, List.getElem?_cons_zero, List.getElem?_cons_succ, Option.getD_some]
      apply rg_softb_g
      case hg => rfl
      case hy => (intro w hw; go_simp; (try go_bits); exact Yld.mk _ _)
      intro x h7
      obtain rfl : x = false := by (refine h7.symm.trans ?_; first | rfl | exact decide_eq_false (by omega) | exact beq_eq_false_iff_ne.2 (by omega) | exact bne_eq_false_iff_eq.2 (by omega) | (simp; omega))
      clear h7
      simp only [Act.put, Act.eval, List.setIfInBounds_toArray, List.set_cons_zero, List.set_cons_succ, Array.getD_eq_getD_getElem?, List.getElem?_toArray, List.getElem?_cons_zero, List.getElem?_cons_succ, Option.getD_some]
      apply rg_soft
      case hy => (intro w hw; go_simp; (try go_bits); exact Yld.mk _ _)
      simp only [Act.put, Act.eval, List.setIfInBounds_toArray, List.set_cons_zero, List.set_cons_succ, Array.getD_eq_getD_getElem?, List.getElem?_toArray, List.getElem?_cons_zero, List.getElem?_cons_succ, Option.getD_some]
      refine rg_move ?_
      simp only [Act.put, Act.eval, List.setIfInBounds_toArray, List.set_cons_zero, List.set_cons_succ, Array.getD_eq_getD_getElem?, List.getElem?_toArray, List.getElem?_cons_zero, List.getElem?_cons_succ, Option.getD_some]
      apply rg_soft_g
      case hg => rfl
      case hy => (intro w hw; go_simp; (try go_bits); exact Yld.mk _ _)
      simp only [Act.put, Act.eval, List.setIfInBounds_toArray, List.set_cons_zero, List.set_cons_succ, Array.getD_eq_getD_getElem?, List.getElem?_toArray, List.getElem?_cons_zero, List.getElem?_cons_succ, Option.getD_some]
      apply rg_soft_g
      case hg => rfl
      case hy => (intro w hw; go_simp; (try go_bits); exact Yld.mk _ _)
      simp only [Act.put, Act.eval, List.setIfInBounds_toArray, List.set_cons_zero, List.set_cons_succ, Array.getD_eq_getD_getElem?, List.getElem?_toArray, List.getElem?_cons_zero, List.getElem?_cons_succ, Option.getD_some]
      apply rg_softb_g
      case hg => rfl
      case hy => (intro w hw; go_simp; (try go_bits); exact Yld.mk _ _)
      intro x h8
      obtain rfl : x = false := by (refine h8.symm.trans ?_; first | rfl | exact decide_eq_false (by omega) | exact beq_eq_false_iff_ne.2 (by omega) | exact bne_eq_false_iff_eq.2 (by omega) | (simp; omega))
      clear h8
      simp only [Act.put, Act.eval, List.setIfInBounds_toArray, List.set_cons_zero, List.set_cons_succ, Array.getD_eq_getD_getElem?, List.getElem?_toArray, List.getElem?_cons_zero, List.getElem?_cons_succ, Option.getD_some]
      apply rg_soft
      case hy => (intro w hw; go_simp; (try go_bits); exact Yld.mk _ _)
      simp only [Act.put, Act.eval, List.setIfInBounds_toArray, List.set_cons_zero, List.set_cons_succ, Array.getD_eq_getD_getElem?, List.getElem?_toArray, List.getElem?_cons_zero, List.getElem?_cons_succ, Option.getD_some]
      refine rg_move ?_
      simp only [Act.put, Act.eval, List.setIfInBounds_toArray, List.set_cons_zero, List.set_cons_succ, Array.getD_eq_getD_getElem?, List.getElem?_toArray, List.getElem?_cons_zero, List.getElem?_cons_succ, Option.getD_some]
      apply rg_soft_g
      case hg => rfl
      case hy => (intro w hw; go_simp; (try go_bits); exact Yld.mk _ _)
      simp only [Act.put, Act.eval, List.setIfInBounds_toArray, List.set_cons_zero, List.set_cons_succ, Array.getD_eq_getD_getElem?, List.getElem?_toArray, List.getElem?_cons_zero, List.getElem?_cons_succ, Option.getD_some]
      apply rg_soft_g
      case hg => rfl
      case hy => (intro w hw; go_simp; (try go_bits); exact Yld.mk _ _)
      simp only [Act.put, Act.eval, List.setIfInBounds_toArray, List.set_cons_zero, List.set_cons_succ, Array.getD_eq_getD_getElem?, List.getElem?_toArray, List.getElem?_cons_zero, List.getElem?_cons_succ, Option.getD_some]
      apply rg_soft_g
      case hg => rfl
      case hy => (intro w hw; go_simp; (try go_bits); exact Yld.mk _ _)
      simp only [Act.put, Act.eval, List.setIfInBounds_toArray, List.set_cons_zero, List.set_cons_succ, Array.getD_eq_getD_getElem?, List.getElem?_toArray, List.getElem?_cons_zero, List.getElem?_cons_succ, Option.getD_some]
      apply rg_soft_g
      case hg => rfl
      case hy => (intro w hw; go_simp; (try go_bits); exact Yld.mk _ _)
      simp only [Act.put, Act.eval, List.setIfInBounds_toArray, List.set_cons_zero, List.set_cons_succ, Array.getD_eq_getD_getElem?, List.getElem?_toArray, List.getElem?_cons_zero, List.getElem?_cons_succ, Option.getD_some]
      apply rg_softb_g
      case hg => rfl
      case hy => (intro w hw; go_simp; (try go_bits); exact Yld.mk _ _)
      intro x h9
      obtain rfl : x = false := by (refine h9.symm.trans ?_; first | rfl | exact decide_eq_false (by omega) | exact beq_eq_false_iff_ne.2 (by omega) | exact bne_eq_false_iff_eq.2 (by omega) | (simp; omega))
      clear h9
      simp only [Act.put, Act.eval, List.setIfInBounds_toArray, List.set_cons_zero, List.set_cons_succ, Array.getD_eq_getD_getElem?, List.getElem?_toArray, List.getElem?_cons_zero, List.getElem?_cons_succ, Option.getD_some]
      apply rg_soft
      case hy => (intro w hw; go_simp; (try go_bits); exact Yld.mk _ _)
      simp only [Act.put, Act.eval, List.setIfInBounds_toArray, List.set_cons_zero, List.set_cons_succ, Array.getD_eq_getD_getElem?, List.getElem?_toArray, List.getElem?_cons_zero, List.getElem?_cons_succ, Option.getD_some]
      refine rg_nil ?_
      refine ek_next ?_
      refine wk_cond_f rfl ?_
      refine wk_skip ?_
      refine ek_next ?_
      refine wk_seq ?_
      refine wk_seq ?_
      refine wk_region [0] rfl (by kernel_rfl) ?_
      simp only [List.zip_cons_cons, List.zip_nil_right]
      refine rg_assign ?_
      simp only [Act.put, Act.eval, List.setIfInBounds_toArray, List.set_cons_zero, List.set_cons_succ, Array.getD_eq_getD_getElem?, List.getElem?_toArray, List.getElem?_cons_zero, List.getElem?_cons_succ, Option.getD_some]
      refine rg_nil ?_
      refine ek_next ?_
      refine wk_block ?_
      refine wk_loopS [4, 15, 97, 98, 99, 100, 101, 102, 103, 104, 105, 106, 107, 108] (fun n vs s => ∃ (k : Nat) (j97 j98 j99 j100 j101 j102 j103 j104 j105 j106 j107 j108 : Value), vs = [.bool false, .int .i64 k, j97, j98, j99, j100, j101, j102, j103, j104, j105, j106, j107, j108] ∧ s = ((g, .cells (ints (compL (invL xs) xs) ++ rest).toArray 3) :: (u3 ++ (u2 ++ (u1 ++ [])))) ∧ n = xs.length - k ∧ k ≤ xs.length) ((fun (k : Nat) => xs.length - k) (0)) ?_ (by kernel_rfl) ?_
      · dsimp only [Act.vals, List.map, Array.getD, List.size_toArray, List.length_cons, List.length_nil, Nat.reduceAdd, Nat.reduceLT, ↓reduceDIte, Array.getInternal, List.getElem_toArray, List.getElem_cons_zero, List.getElem_cons_succ]
        exact ⟨0, _, _, _, _, _, _, _, _, _, _, _, _, rfl, rfl, rfl, by omega⟩
      rintro n vs s ⟨k, j97, j98, j99, j100, j101, j102, j103, j104, j105, j106, j107, j108, rfl, rfl, hn, hc1⟩
      simp only [Act.puts, Act.vals, List.zip_cons_cons, List.zip_nil_right, List.foldl_cons, List.foldl_nil, List.map_cons, List.map_nil, Act.put, Act.eval, List.setIfInBounds_toArray, List.set_cons_zero, List.set_cons_succ, Array.getD_eq_getD_getElem?, List.getElem?_toArray, List.getElem?_cons_zero, List.getElem?_cons_succ, Option.getD_some]
      refine wk_seq ?_
      refine wk_seq ?_
      refine wk_region [0, 0, 0, 0] rfl (by kernel_rfl) ?_
      simp only [List.zip_cons_cons, List.zip_nil_right]
      refine rg_move ?_
      simp only [Act.put, Act.eval, List.setIfInBounds_toArray, List.set_cons_zero, List.set_cons_succ, Array.getD_eq_getD_getElem?, List.getElem?_toArray, List.getElem?_cons_zero, List.getElem?_cons_succ, Option.getD_some]
      refine rg_move ?_
      simp only [Act.put, Act.eval, List.setIfInBounds_toArray, List.set_cons_zero, List.set_cons_succ, Array.getD_eq_getD_getElem?, List.getElem?_toArray, List.getElem?_cons_zero, List.getElem?_cons_succ, Option.getD_some]
      apply rg_soft
      case hy => (intro w hw; go_simp; (try go_bits); exact Yld.mk _ _)
      simp only [Act.put, Act.eval, List.setIfInBounds_toArray, List.set_cons_zero, List.set_cons_succ, Array.getD_eq_getD_getElem?, List.getElem?_toArray, List.getElem?_cons_zero, List.getElem?_cons_succ, Option.getD_some]
      apply rg_softb
      case hy => (intro w hw; go_simp; (try go_bits); exact Yld.mk _ _)
      intro x h10
      cases x
      · (try simp only [decide_eq_true_eq, decide_eq_false_iff_not, Int.not_lt, Int.not_le, beq_iff_eq, beq_eq_false_iff_ne, bne_iff_ne, bne_eq_false_iff_eq, ne_eq, Bool.not_eq_true', Bool.not_eq_false'] at h10)
        simp only [Act.put, Act.eval, List.setIfInBounds_toArray, List.set_cons_zero, List.set_cons_succ, Array.getD_eq_getD_getElem?, List.getElem?_toArray, List.getElem?_cons_zero, List.getElem?_cons_succ, Option.getD_some]
        refine rg_nil ?_
        refine ek_next ?_
        refine wk_cond_f rfl ?_
        refine wk_exit ?_
        refine ek_then_exit ?_
        refine ek_then_exit ?_
        refine ek_block_exit ?_
        refine ek_next ?_
        refine wk_seq ?_
        refine wk_region [1, 0] rfl (by kernel_rfl) ?_
        simp only [List.zip_cons_cons, List.zip_nil_right]
        apply rg_pure (by rfl) (by kernel_rfl)
        case hargs => (simp only [List.map_toArray, List.map_cons, List.map_nil, Act.eval, Array.getD_eq_getD_getElem?, List.getElem?_toArray, List.getElem?_cons_zero, List.getElem?_cons_succ, Option.getD_some]; exact rfl)
        case h => exact fun w hw => sane_any w
        case hz => exact (fun _ h => by cases h)
        simp only [Act.put, Act.eval, List.setIfInBounds_toArray, List.set_cons_zero, List.set_cons_succ, Array.getD_eq_getD_getElem?, List.getElem?_toArray, List.getElem?_cons_zero, List.getElem?_cons_succ, Option.getD_some]
        refine rg_assign ?_
        simp only [Act.put, Act.eval, List.setIfInBounds_toArray, List.set_cons_zero, List.set_cons_succ, Array.getD_eq_getD_getElem?, List.getElem?_toArray, List.getElem?_cons_zero, List.getElem?_cons_succ, Option.getD_some]
        refine rg_nil ?_
        refine ek_next ?_
        refine wk_ret ?_
        refine ek_ret (fun w hw => ⟨rfl, _, res_t _ rfl, ?_⟩)
        (try simp only [Act.put, Act.eval, List.setIfInBounds_toArray, List.set_cons_zero, List.set_cons_succ, Array.getD_eq_getD_getElem?, List.getElem?_toArray, List.getElem?_cons_zero, List.getElem?_cons_succ, Option.getD_some])
        first | exact ⟨rfl, hw.below⟩ | exact ⟨trivial, hw.below⟩ | exact hw.below
      · (try simp only [decide_eq_true_eq, decide_eq_false_iff_not, Int.not_lt, Int.not_le, beq_iff_eq, beq_eq_false_iff_ne, bne_iff_ne, bne_eq_false_iff_eq, ne_eq, Bool.not_eq_true', Bool.not_eq_false'] at h10)
        simp only [Act.put, Act.eval, List.setIfInBounds_toArray, List.set_cons_zero, List.set_cons_succ, Array.getD_eq_getD_getElem?, List.getElem?_toArray, List.getElem?_cons_zero, List.getElem?_cons_succ, Option.getD_some]
        have hkl0 : k < xs.length := by omega
        have hkl : k < (compL (invL xs) xs).length := by (rw [compL_len]; omega)
        refine rg_nil ?_
        refine ek_next ?_
        refine wk_cond_t rfl ?_
        refine wk_skip ?_
        refine ek_next ?_
        refine wk_seq ?_
        refine wk_block ?_
        refine wk_seq ?_
        refine wk_region [0, 0, 0, 0, 0, 0] rfl (by kernel_rfl) ?_
        simp only [List.zip_cons_cons, List.zip_nil_right]
        refine rg_move ?_
        simp only [Act.put, Act.eval, List.setIfInBounds_toArray, List.set_cons_zero, List.set_cons_succ, Array.getD_eq_getD_getElem?, List.getElem?_toArray, List.getElem?_cons_zero, List.getElem?_cons_succ, Option.getD_some]
        refine rg_move ?_
        simp only [Act.put, Act.eval, List.setIfInBounds_toArray, List.set_cons_zero, List.set_cons_succ, Array.getD_eq_getD_getElem?, List.getElem?_toArray, List.getElem?_cons_zero, List.getElem?_cons_succ, Option.getD_some]
        apply rg_soft
        case hy => (intro w hw; go_simp; (try go_bits); exact Yld.mk _ _)
        simp only [Act.put, Act.eval, List.setIfInBounds_toArray, List.set_cons_zero, List.set_cons_succ, Array.getD_eq_getD_getElem?, List.getElem?_toArray, List.getElem?_cons_zero, List.getElem?_cons_succ, Option.getD_some]
        apply rg_soft
        case hy => (intro w hw; skip; skip; skip; have hcg := row_cell (Kn.hd0 hw) hkl; go_simp; (try go_bits); exact Yld.mk _ _)
        simp only [Act.put, Act.eval, List.setIfInBounds_toArray, List.set_cons_zero, List.set_cons_succ, Array.getD_eq_getD_getElem?, List.getElem?_toArray, List.getElem?_cons_zero, List.getElem?_cons_succ, Option.getD_some]
        refine rg_move ?_
        simp only [Act.put, Act.eval, List.setIfInBounds_toArray, List.set_cons_zero, List.set_cons_succ, Array.getD_eq_getD_getElem?, List.getElem?_toArray, List.getElem?_cons_zero, List.getElem?_cons_succ, Option.getD_some]
        apply rg_softb
        case hy => (intro w hw; go_simp; (try go_bits); exact Yld.mk _ _)
        intro x h11
        cases x
        · (try simp only [decide_eq_true_eq, decide_eq_false_iff_not, Int.not_lt, Int.not_le, beq_iff_eq, beq_eq_false_iff_ne, bne_iff_ne, bne_eq_false_iff_eq, ne_eq, Bool.not_eq_true', Bool.not_eq_false'] at h11)
          simp only [Act.put, Act.eval, List.setIfInBounds_toArray, List.set_cons_zero, List.set_cons_succ, Array.getD_eq_getD_getElem?, List.getElem?_toArray, List.getElem?_cons_zero, List.getElem?_cons_succ, Option.getD_some]
          refine rg_nil ?_
          refine ek_next ?_
          refine wk_cond_f rfl ?_
          refine wk_skip ?_
          refine ek_block ?_
          refine ek_next ?_
          refine wk_region [0, 0, 0] rfl (by kernel_rfl) ?_
          simp only [List.zip_cons_cons, List.zip_nil_right]
          refine rg_move ?_
          simp only [Act.put, Act.eval, List.setIfInBounds_toArray, List.set_cons_zero, List.set_cons_succ, Array.getD_eq_getD_getElem?, List.getElem?_toArray, List.getElem?_cons_zero, List.getElem?_cons_succ, Option.getD_some]
          apply rg_soft
          case hy => (intro w hw; go_simp; (try go_bits); exact Yld.mk _ _)
          simp only [Act.put, Act.eval, List.setIfInBounds_toArray, List.set_cons_zero, List.set_cons_succ, Array.getD_eq_getD_getElem?, List.getElem?_toArray, List.getElem?_cons_zero, List.getElem?_cons_succ, Option.getD_some]
          refine rg_assign ?_
          simp only [Act.put, Act.eval, List.setIfInBounds_toArray, List.set_cons_zero, List.set_cons_succ, Array.getD_eq_getD_getElem?, List.getElem?_toArray, List.getElem?_cons_zero, List.getElem?_cons_succ, Option.getD_some]
          refine rg_nil ?_
          refine ek_roundS (xs.length - (k + 1)) (by omega) (by kernel_rfl) ?_
          dsimp only [Act.vals, List.map, Array.getD, List.size_toArray, List.length_cons, List.length_nil, Nat.reduceAdd, Nat.reduceLT, ↓reduceDIte, Array.getInternal, List.getElem_toArray, List.getElem_cons_zero, List.getElem_cons_succ]
          exact ⟨k + 1, _, _, _, _, _, _, _, _, _, _, _, _, by rfl, by rfl, by rfl, by omega⟩
        · (try simp only [decide_eq_true_eq, decide_eq_false_iff_not, Int.not_lt, Int.not_le, beq_iff_eq, beq_eq_false_iff_ne, bne_iff_ne, bne_eq_false_iff_eq, ne_eq, Bool.not_eq_true', Bool.not_eq_false'] at h11)
          simp only [Act.put, Act.eval, List.setIfInBounds_toArray, List.set_cons_zero, List.set_cons_succ, Array.getD_eq_getD_getElem?, List.getElem?_toArray, List.getElem?_cons_zero, List.getElem?_cons_succ, Option.getD_some]
          exact absurd (comp_inv hp hkl0) h11
    · (try simp only [decide_eq_true_eq, decide_eq_false_iff_not, Int.not_lt, Int.not_le, beq_iff_eq, beq_eq_false_iff_ne, bne_iff_ne, bne_eq_false_iff_eq, ne_eq, Bool.not_eq_true', Bool.not_eq_false'] at h2)
      simp only [Act.put, Act.eval, List.setIfInBounds_toArray, List.set_cons_zero, List.set_cons_succ, Array.getD_eq_getD_getElem?, List.getElem?_toArray, List.getElem?_cons_zero, List.getElem?_cons_succ, Option.getD_some]
      apply rg_soft
      case hy => (intro w hw; go_simp; (try go_bits); exact Yld.mk _ _)
      simp only [Act.put, Act.eval, List.setIfInBounds_toArray, List.set_cons_zero, List.set_cons_succ, Array.getD_eq_getD_getElem?, List.getElem?_toArray, List.getElem?_cons_zero, List.getElem?_cons_succ, Option.getD_some]
      refine rg_nil ?_
      refine ek_next ?_
      refine wk_cond_t rfl ?_
      refine wk_seq ?_
      refine wk_region [1, 0] rfl (by kernel_rfl) ?_
      simp only [List.zip_cons_cons, List.zip_nil_right]
      apply rg_pure (by rfl) (by kernel_rfl)
      case hargs => (simp only [List.map_toArray, List.map_cons, List.map_nil, Act.eval, Array.getD_eq_getD_getElem?, List.getElem?_toArray, List.getElem?_cons_zero, List.getElem?_cons_succ, Option.getD_some]; exact rfl)
      case h => exact fun w hw => sane_any w
      case hz => exact (fun _ h => by cases h)
      simp only [Act.put, Act.eval, List.setIfInBounds_toArray, List.set_cons_zero, List.set_cons_succ, Array.getD_eq_getD_getElem?, List.getElem?_toArray, List.getElem?_cons_zero, List.getElem?_cons_succ, Option.getD_some]
      refine rg_assign ?_
      simp only [Act.put, Act.eval, List.setIfInBounds_toArray, List.set_cons_zero, List.set_cons_succ, Array.getD_eq_getD_getElem?, List.getElem?_toArray, List.getElem?_cons_zero, List.getElem?_cons_succ, Option.getD_some]
      refine rg_nil ?_
      refine ek_next ?_
      refine wk_ret ?_
      refine ek_then_ret ?_
      refine ek_ret (fun w hw => ⟨rfl, _, res_t _ rfl, ?_⟩)
      (try simp only [Act.put, Act.eval, List.setIfInBounds_toArray, List.set_cons_zero, List.set_cons_succ, Array.getD_eq_getD_getElem?, List.getElem?_toArray, List.getElem?_cons_zero, List.getElem?_cons_succ, Option.getD_some])
      first | exact ⟨rfl, hw.below⟩ | exact ⟨trivial, hw.below⟩ | exact hw.below
  · (try simp only [decide_eq_true_eq, decide_eq_false_iff_not, Int.not_lt, Int.not_le, beq_iff_eq, beq_eq_false_iff_ne, bne_iff_ne, bne_eq_false_iff_eq, ne_eq, Bool.not_eq_true', Bool.not_eq_false'] at h1)
    simp only [Act.put, Act.eval, List.setIfInBounds_toArray, List.set_cons_zero, List.set_cons_succ, Array.getD_eq_getD_getElem?, List.getElem?_toArray, List.getElem?_cons_zero, List.getElem?_cons_succ, Option.getD_some]
    refine rg_move ?_
    simp only [Act.put, Act.eval, List.setIfInBounds_toArray, List.set_cons_zero, List.set_cons_succ, Array.getD_eq_getD_getElem?, List.getElem?_toArray, List.getElem?_cons_zero, List.getElem?_cons_succ, Option.getD_some]
    refine rg_skip (by rfl) ?_
    simp only [Act.put, Act.eval, List.setIfInBounds_toArray, List.set_cons_zero, List.set_cons_succ, Array.getD_eq_getD_getElem?, List.getElem?_toArray, List.getElem?_cons_zero, List.getElem?_cons_succ, Option.getD_some]
    refine rg_skip (by rfl) ?_
    simp only [Act.put, Act.eval, List.setIfInBounds_toArray, List.set_cons_zero, List.set_cons_succ, Array.getD_eq_getD_getElem?, List.getElem?_toArray, List.getElem?_cons_zero, List.getElem?_cons_succ, Option.getD_some]
    refine rg_skip (by rfl) ?_
    simp only [Act.put, Act.eval, List.setIfInBounds_toArray, List.set_cons_zero, List.set_cons_succ, Array.getD_eq_getD_getElem?, List.getElem?_toArray, List.getElem?_cons_zero, List.getElem?_cons_succ, Option.getD_some]
    apply rg_soft
    case hy => (intro w hw; go_simp; (try go_bits); exact Yld.mk _ _)
    simp only [Act.put, Act.eval, List.setIfInBounds_toArray, List.set_cons_zero, List.set_cons_succ, Array.getD_eq_getD_getElem?, List.getElem?_toArray, List.getElem?_cons_zero, List.getElem?_cons_succ, Option.getD_some]
    refine rg_nil ?_
    refine ek_next ?_
    refine wk_cond_t rfl ?_
    refine wk_seq ?_
    refine wk_region [1, 0] rfl (by kernel_rfl) ?_
    simp only [List.zip_cons_cons, List.zip_nil_right]
    apply rg_pure (by rfl) (by kernel_rfl)
    case hargs => (simp only [List.map_toArray, List.map_cons, List.map_nil, Act.eval, Array.getD_eq_getD_getElem?, List.getElem?_toArray, List.getElem?_cons_zero, List.getElem?_cons_succ, Option.getD_some]; exact rfl)
    case h => exact fun w hw => sane_any w
    case hz => exact (fun _ h => by cases h)
    simp only [Act.put, Act.eval, List.setIfInBounds_toArray, List.set_cons_zero, List.set_cons_succ, Array.getD_eq_getD_getElem?, List.getElem?_toArray, List.getElem?_cons_zero, List.getElem?_cons_succ, Option.getD_some]
    refine rg_assign ?_
    simp only [Act.put, Act.eval, List.setIfInBounds_toArray, List.set_cons_zero, List.set_cons_succ, Array.getD_eq_getD_getElem?, List.getElem?_toArray, List.getElem?_cons_zero, List.getElem?_cons_succ, Option.getD_some]
    refine rg_nil ?_
    refine ek_next ?_
    refine wk_ret ?_
    refine ek_then_ret ?_
    refine ek_ret (fun w hw => ⟨rfl, _, res_t _ rfl, ?_⟩)
    (try simp only [Act.put, Act.eval, List.setIfInBounds_toArray, List.set_cons_zero, List.set_cons_succ, Array.getD_eq_getD_getElem?, List.getElem?_toArray, List.getElem?_cons_zero, List.getElem?_cons_succ, Option.getD_some])
    first | exact ⟨rfl, hw.below⟩ | exact ⟨trivial, hw.below⟩ | exact hw.below

set_option maxRecDepth 100000 in
set_option maxHeartbeats 2000000 in
theorem synthComposes_no (xs ys : List Int) (a : Option Addr) (c : Nat) (a' : Option Addr) (c' : Nat) (hp : ¬ Perm xs) (w : World) (hA : AS w a (ints xs)) (hA' : AS w a' (ints ys)) : Calls Try.prog 3 #[slV a xs.length c, slV a' ys.length c'] w fun e w' => e = .returned (.bool true) ∧ Below w.heap.size w w' := by
  go_enter Try.func3, Try.ntmps3
  refine wk_start ?_
  refine wk_seq ?_
  refine wk_region [0] rfl (by kernel_rfl) ?_
  simp only [List.zip_cons_cons, List.zip_nil_right]
  refine rg_assign ?_
  simp only [Act.put, Act.eval, List.setIfInBounds_toArray, List.set_cons_zero, List.set_cons_succ, Array.getD_eq_getD_getElem?, List.getElem?_toArray, List.getElem?_cons_zero, List.getElem?_cons_succ, Option.getD_some]
  refine rg_nil ?_
  refine ek_next ?_
  refine wk_seq ?_
  refine wk_seq ?_
  refine wk_region [0, 0, 0, 0, 0, 0, 0, 0] rfl (by kernel_rfl) ?_
  simp only [List.zip_cons_cons, List.zip_nil_right]
  refine rg_move ?_
  simp only [Act.put, Act.eval, List.setIfInBounds_toArray, List.set_cons_zero, List.set_cons_succ, Array.getD_eq_getD_getElem?, List.getElem?_toArray, List.getElem?_cons_zero, List.getElem?_cons_succ, Option.getD_some]
  apply rg_soft
  case hy => (intro w hw; go_simp; (try go_bits); exact Yld.mk _ _)
  simp only [Act.put, Act.eval, List.setIfInBounds_toArray, List.set_cons_zero, List.set_cons_succ, Array.getD_eq_getD_getElem?, List.getElem?_toArray, List.getElem?_cons_zero, List.getElem?_cons_succ, Option.getD_some]
  apply rg_softb
  case hy => (intro w hw; go_simp; (try go_bits); exact Yld.mk _ _)
  intro x h1
  cases x
  · (try simp only [decide_eq_true_eq, decide_eq_false_iff_not, Int.not_lt, Int.not_le, beq_iff_eq, beq_eq_false_iff_ne, bne_iff_ne, bne_eq_false_iff_eq, ne_eq, Bool.not_eq_true', Bool.not_eq_false'] at h1)
    simp only [Act.put, Act.eval, List.setIfInBounds_toArray, List.set_cons_zero, List.set_cons_succ, Array.getD_eq_getD_getElem?, List.getElem?_toArray, List.getElem?_cons_zero, List.getElem?_cons_succ, Option.getD_some]
    refine rg_move ?_
    simp only [Act.put, Act.eval, List.setIfInBounds_toArray, List.set_cons_zero, List.set_cons_succ, Array.getD_eq_getD_getElem?, List.getElem?_toArray, List.getElem?_cons_zero, List.getElem?_cons_succ, Option.getD_some]
    apply rg_soft_g
    case hg => rfl
    case hy => (intro w hw; go_simp; (try go_bits); exact Yld.mk _ _)
    simp only [Act.put, Act.eval, List.setIfInBounds_toArray, List.set_cons_zero, List.set_cons_succ, Array.getD_eq_getD_getElem?, List.getElem?_toArray, List.getElem?_cons_zero, List.getElem?_cons_succ, Option.getD_some]
    apply rg_soft_g
    case hg => rfl
    case hy => (intro w hw; go_simp; (try go_bits); exact Yld.mk _ _)
    simp only [Act.put, Act.eval, List.setIfInBounds_toArray, List.set_cons_zero, List.set_cons_succ, Array.getD_eq_getD_getElem?, List.getElem?_toArray, List.getElem?_cons_zero, List.getElem?_cons_succ, Option.getD_some]
    apply rg_softb_g
    case hg => rfl
    case hy => (intro w hw; go_simp; (try go_bits); exact Yld.mk _ _)
    intro x h2
    cases x
    · (try simp only [decide_eq_true_eq, decide_eq_false_iff_not, Int.not_lt, Int.not_le, beq_iff_eq, beq_eq_false_iff_ne, bne_iff_ne, bne_eq_false_iff_eq, ne_eq, Bool.not_eq_true', Bool.not_eq_false'] at h2)
      simp only [Act.put, Act.eval, List.setIfInBounds_toArray, List.set_cons_zero, List.set_cons_succ, Array.getD_eq_getD_getElem?, List.getElem?_toArray, List.getElem?_cons_zero, List.getElem?_cons_succ, Option.getD_some]
      apply rg_soft
      case hy => (intro w hw; go_simp; (try go_bits); exact Yld.mk _ _)
      simp only [Act.put, Act.eval, List.setIfInBounds_toArray, List.set_cons_zero, List.set_cons_succ, Array.getD_eq_getD_getElem?, List.getElem?_toArray, List.getElem?_cons_zero, List.getElem?_cons_succ, Option.getD_some]
      refine rg_nil ?_
      refine ek_next ?_
      refine wk_cond_f rfl ?_
      refine wk_skip ?_
      refine ek_next ?_
      refine wk_seq ?_
      refine wk_region [0, 0, 1, 0, 0, 0, 0, 0] rfl (by kernel_rfl) ?_
      simp only [List.zip_cons_cons, List.zip_nil_right]
      refine rg_move ?_
      simp only [Act.put, Act.eval, List.setIfInBounds_toArray, List.set_cons_zero, List.set_cons_succ, Array.getD_eq_getD_getElem?, List.getElem?_toArray, List.getElem?_cons_zero, List.getElem?_cons_succ, Option.getD_some]
      refine rg_move ?_
      simp only [Act.put, Act.eval, List.setIfInBounds_toArray, List.set_cons_zero, List.set_cons_succ, Array.getD_eq_getD_getElem?, List.getElem?_toArray, List.getElem?_cons_zero, List.getElem?_cons_succ, Option.getD_some]
      apply rg_retI (by rfl) (by kernel_rfl)
      case hargs => (simp only [List.map_toArray, List.map_cons, List.map_nil, Act.eval, Array.getD_eq_getD_getElem?, List.getElem?_toArray, List.getElem?_cons_zero, List.getElem?_cons_succ, Option.getD_some]; exact rfl)
      case h => exact fun w hw => composeS_any xs ys a c a' c' (by omega) (by omega) w (hA.kn0 hw) (hA'.kn0 hw)
      case hz => exact (fun _ h => by cases h)
      intro v1 u1 z1 hO1 hT1
      simp only [Act.put, Act.eval, List.setIfInBounds_toArray, List.set_cons_zero, List.set_cons_succ, Array.getD_eq_getD_getElem?, List.getElem?_toArray, List.getElem?_cons_zero, List.getElem?_cons_succ, Option.getD_some]
      subst hT1
      obtain ⟨a1, c1, rfl⟩ := hO1.val
      refine rg_move ?_
      simp only [Act.put, Act.eval, List.setIfInBounds_toArray, List.set_cons_zero, List.set_cons_succ, Array.getD_eq_getD_getElem?, List.getElem?_toArray, List.getElem?_cons_zero, List.getElem?_cons_succ, Option.getD_some]
      apply rg_soft
      case hy => (intro w hw; go_simp; (try go_bits); exact Yld.mk _ _)
      simp only [Act.put, Act.eval, List.setIfInBounds_toArray, List.set_cons_zero, List.set_cons_succ, Array.getD_eq_getD_getElem?, List.getElem?_toArray, List.getElem?_cons_zero, List.getElem?_cons_succ, Option.getD_some]
      apply rg_soft
      case hy => (intro w hw; go_simp; (try go_bits); exact Yld.mk _ _)
      simp only [Act.put, Act.eval, List.setIfInBounds_toArray, List.set_cons_zero, List.set_cons_succ, Array.getD_eq_getD_getElem?, List.getElem?_toArray, List.getElem?_cons_zero, List.getElem?_cons_succ, Option.getD_some]
      refine rg_assign ?_
      simp only [Act.put, Act.eval, List.setIfInBounds_toArray, List.set_cons_zero, List.set_cons_succ, Array.getD_eq_getD_getElem?, List.getElem?_toArray, List.getElem?_cons_zero, List.getElem?_cons_succ, Option.getD_some]
      refine rg_assign ?_
      simp only [Act.put, Act.eval, List.setIfInBounds_toArray, List.set_cons_zero, List.set_cons_succ, Array.getD_eq_getD_getElem?, List.getElem?_toArray, List.getElem?_cons_zero, List.getElem?_cons_succ, Option.getD_some]
      refine rg_nil ?_
      refine ek_next ?_
      refine wk_seq ?_
      refine wk_region [0, 0, 1, 0, 0, 0, 0, 0] rfl (by kernel_rfl) ?_
      simp only [List.zip_cons_cons, List.zip_nil_right]
      refine rg_move ?_
      simp only [Act.put, Act.eval, List.setIfInBounds_toArray, List.set_cons_zero, List.set_cons_succ, Array.getD_eq_getD_getElem?, List.getElem?_toArray, List.getElem?_cons_zero, List.getElem?_cons_succ, Option.getD_some]
      refine rg_move ?_
      simp only [Act.put, Act.eval, List.setIfInBounds_toArray, List.set_cons_zero, List.set_cons_succ, Array.getD_eq_getD_getElem?, List.getElem?_toArray, List.getElem?_cons_zero, List.getElem?_cons_succ, Option.getD_some]
      apply rg_retI (by rfl) (by kernel_rfl)
      case hargs => (simp only [List.map_toArray, List.map_cons, List.map_nil, Act.eval, Array.getD_eq_getD_getElem?, List.getElem?_toArray, List.getElem?_cons_zero, List.getElem?_cons_succ, Option.getD_some]; exact rfl)
      case h => exact fun w hw => rCompose_any xs ys a c a' c' (by omega) (by omega) w (hA.kn0 hw) (hA'.kn0 hw)
      case hz => exact (fun _ h => by cases h)
      intro v2 u2 z2 hO2 hT2
      simp only [Act.put, Act.eval, List.setIfInBounds_toArray, List.set_cons_zero, List.set_cons_succ, Array.getD_eq_getD_getElem?, List.getElem?_toArray, List.getElem?_cons_zero, List.getElem?_cons_succ, Option.getD_some]
      subst hT2
      obtain ⟨a2, c2, rfl⟩ := hO2.val
      refine rg_move ?_
      simp only [Act.put, Act.eval, List.setIfInBounds_toArray, List.set_cons_zero, List.set_cons_succ, Array.getD_eq_getD_getElem?, List.getElem?_toArray, List.getElem?_cons_zero, List.getElem?_cons_succ, Option.getD_some]
      apply rg_soft
      case hy => (intro w hw; go_simp; (try go_bits); exact Yld.mk _ _)
      simp only [Act.put, Act.eval, List.setIfInBounds_toArray, List.set_cons_zero, List.set_cons_succ, Array.getD_eq_getD_getElem?, List.getElem?_toArray, List.getElem?_cons_zero, List.getElem?_cons_succ, Option.getD_some]
      apply rg_soft
      case hy => (intro w hw; go_simp; (try go_bits); exact Yld.mk _ _)
      simp only [Act.put, Act.eval, List.setIfInBounds_toArray, List.set_cons_zero, List.set_cons_succ, Array.getD_eq_getD_getElem?, List.getElem?_toArray, List.getElem?_cons_zero, List.getElem?_cons_succ, Option.getD_some]
      refine rg_assign ?_
      simp only [Act.put, Act.eval, List.setIfInBounds_toArray, List.set_cons_zero, List.set_cons_succ, Array.getD_eq_getD_getElem?, List.getElem?_toArray, List.getElem?_cons_zero, List.getElem?_cons_succ, Option.getD_some]
      refine rg_assign ?_
      simp only [Act.put, Act.eval, List.setIfInBounds_toArray, List.set_cons_zero, List.set_cons_succ, Array.getD_eq_getD_getElem?, List.getElem?_toArray, List.getElem?_cons_zero, List.getElem?_cons_succ, Option.getD_some]
      refine rg_nil ?_
      refine ek_next ?_
      refine wk_seq ?_
      refine wk_seq ?_
      refine wk_region [0, 0, 1, 0, 0, 0, 0, 0, 0] rfl (by kernel_rfl) ?_
      simp only [List.zip_cons_cons, List.zip_nil_right]
      refine rg_move ?_
      simp only [Act.put, Act.eval, List.setIfInBounds_toArray, List.set_cons_zero, List.set_cons_succ, Array.getD_eq_getD_getElem?, List.getElem?_toArray, List.getElem?_cons_zero, List.getElem?_cons_succ, Option.getD_some]
      refine rg_move ?_
      simp only [Act.put, Act.eval, List.setIfInBounds_toArray, List.set_cons_zero, List.set_cons_succ, Array.getD_eq_getD_getElem?, List.getElem?_toArray, List.getElem?_cons_zero, List.getElem?_cons_succ, Option.getD_some]
      apply rg_pure (by rfl) (by kernel_rfl)
      case hargs => (simp only [List.map_toArray, List.map_cons, List.map_nil, Act.eval, Array.getD_eq_getD_getElem?, List.getElem?_toArray, List.getElem?_cons_zero, List.getElem?_cons_succ, Option.getD_some]; exact rfl)
      case h => exact fun w hw => (by have h := same_any (compZ xs ys) (compZ xs ys) a1 c1 a2 c2 (Nat.le_trans (compZ_len xs ys) (by omega)) (Nat.le_trans (compZ_len xs ys) (by omega)) w (hO1.as (Kn.tlU hw)) (hO2.as hw); rw [sameB_self] at h; exact h)
      case hz => exact (fun _ h => by cases h)
      simp only [Act.put, Act.eval, List.setIfInBounds_toArray, List.set_cons_zero, List.set_cons_succ, Array.getD_eq_getD_getElem?, List.getElem?_toArray, List.getElem?_cons_zero, List.getElem?_cons_succ, Option.getD_some]
      apply rg_soft
      case hy => (intro w hw; go_simp; (try go_bits); exact Yld.mk _ _)
      simp only [Act.put, Act.eval, List.setIfInBounds_toArray, List.set_cons_zero, List.set_cons_succ, Array.getD_eq_getD_getElem?, List.getElem?_toArray, List.getElem?_cons_zero, List.getElem?_cons_succ, Option.getD_some]
      refine rg_move ?_
      simp only [Act.put, Act.eval, List.setIfInBounds_toArray, List.set_cons_zero, List.set_cons_succ, Array.getD_eq_getD_getElem?, List.getElem?_toArray, List.getElem?_cons_zero, List.getElem?_cons_succ, Option.getD_some]
      apply rg_soft_g
      case hg => rfl
      case hy => (intro w hw; go_simp; (try go_bits); exact Yld.mk _ _)
      simp only [Act.put, Act.eval, List.setIfInBounds_toArray, List.set_cons_zero, List.set_cons_succ, Array.getD_eq_getD_getElem?, List.getElem?_toArray, List.getElem?_cons_zero, List.getElem?_cons_succ, Option.getD_some]
      apply rg_soft_g
      case hg => rfl
      case hy => (intro w hw; go_simp; (try go_bits); exact Yld.mk _ _)
      simp only [Act.put, Act.eval, List.setIfInBounds_toArray, List.set_cons_zero, List.set_cons_succ, Array.getD_eq_getD_getElem?, List.getElem?_toArray, List.getElem?_cons_zero, List.getElem?_cons_succ, Option.getD_some]
      apply rg_softb_g
      case hg => rfl
      case hy => (intro w hw; go_simp; (try go_bits); exact Yld.mk _ _)
      intro x h3
      obtain rfl : x = false := by (refine h3.symm.trans ?_; first | rfl | exact decide_eq_false (by omega) | exact beq_eq_false_iff_ne.2 (by omega) | exact bne_eq_false_iff_eq.2 (by omega) | (simp; omega))
      clear h3
      simp only [Act.put, Act.eval, List.setIfInBounds_toArray, List.set_cons_zero, List.set_cons_succ, Array.getD_eq_getD_getElem?, List.getElem?_toArray, List.getElem?_cons_zero, List.getElem?_cons_succ, Option.getD_some]
      apply rg_soft
      case hy => (intro w hw; go_simp; (try go_bits); exact Yld.mk _ _)
      simp only [Act.put, Act.eval, List.setIfInBounds_toArray, List.set_cons_zero, List.set_cons_succ, Array.getD_eq_getD_getElem?, List.getElem?_toArray, List.getElem?_cons_zero, List.getElem?_cons_succ, Option.getD_some]
      refine rg_nil ?_
      refine ek_next ?_
      refine wk_cond_f rfl ?_
      refine wk_skip ?_
      refine ek_next ?_
      refine wk_seq ?_
      refine wk_region [0, 1, 0, 0, 0, 0, 0] rfl (by kernel_rfl) ?_
      simp only [List.zip_cons_cons, List.zip_nil_right]
      refine rg_move ?_
      simp only [Act.put, Act.eval, List.setIfInBounds_toArray, List.set_cons_zero, List.set_cons_succ, Array.getD_eq_getD_getElem?, List.getElem?_toArray, List.getElem?_cons_zero, List.getElem?_cons_succ, Option.getD_some]
      apply rg_pure (by rfl) (by kernel_rfl)
      case hargs => (simp only [List.map_toArray, List.map_cons, List.map_nil, Act.eval, Array.getD_eq_getD_getElem?, List.getElem?_toArray, List.getElem?_cons_zero, List.getElem?_cons_succ, Option.getD_some]; exact rfl)
      case h => exact fun w hw => invertS_no xs a c (by omega) hp w (hA.kn0 hw)
      case hz => exact (fun _ h => by cases h)
      simp only [Act.put, Act.eval, List.setIfInBounds_toArray, List.set_cons_zero, List.set_cons_succ, Array.getD_eq_getD_getElem?, List.getElem?_toArray, List.getElem?_cons_zero, List.getElem?_cons_succ, Option.getD_some]
      refine rg_move ?_
      simp only [Act.put, Act.eval, List.setIfInBounds_toArray, List.set_cons_zero, List.set_cons_succ, Array.getD_eq_getD_getElem?, List.getElem?_toArray, List.getElem?_cons_zero, List.getElem?_cons_succ, Option.getD_some]
      apply rg_soft
      case hy => (intro w hw; go_simp; (try go_bits); exact Yld.mk _ _)
      simp only [Act.put, Act.eval, List.setIfInBounds_toArray, List.set_cons_zero, List.set_cons_succ, Array.getD_eq_getD_getElem?, List.getElem?_toArray, List.getElem?_cons_zero, List.getElem?_cons_succ, Option.getD_some]
      apply rg_soft
      case hy => (intro w hw; go_simp; (try go_bits); exact Yld.mk _ _)
      simp only [Act.put, Act.eval, List.setIfInBounds_toArray, List.set_cons_zero, List.set_cons_succ, Array.getD_eq_getD_getElem?, List.getElem?_toArray, List.getElem?_cons_zero, List.getElem?_cons_succ, Option.getD_some]
      refine rg_assign ?_
      simp only [Act.put, Act.eval, List.setIfInBounds_toArray, List.set_cons_zero, List.set_cons_succ, Array.getD_eq_getD_getElem?, List.getElem?_toArray, List.getElem?_cons_zero, List.getElem?_cons_succ, Option.getD_some]
      refine rg_assign ?_
      simp only [Act.put, Act.eval, List.setIfInBounds_toArray, List.set_cons_zero, List.set_cons_succ, Array.getD_eq_getD_getElem?, List.getElem?_toArray, List.getElem?_cons_zero, List.getElem?_cons_succ, Option.getD_some]
      refine rg_nil ?_
      refine ek_next ?_
      refine wk_seq ?_
      refine wk_seq ?_
      refine wk_region [0, 0] rfl (by kernel_rfl) ?_
      simp only [List.zip_cons_cons, List.zip_nil_right]
      refine rg_move ?_
      simp only [Act.put, Act.eval, List.setIfInBounds_toArray, List.set_cons_zero, List.set_cons_succ, Array.getD_eq_getD_getElem?, List.getElem?_toArray, List.getElem?_cons_zero, List.getElem?_cons_succ, Option.getD_some]
      apply rg_softb
      case hy => (intro w hw; go_simp; (try go_bits); exact Yld.mk _ _)
      intro x h4
      obtain rfl : x = true := by (refine h4.symm.trans ?_; first | rfl | exact decide_eq_true (by omega) | exact beq_iff_eq.2 (by omega) | exact bne_iff_ne.2 (by omega) | (simp; omega))
      clear h4
      simp only [Act.put, Act.eval, List.setIfInBounds_toArray, List.set_cons_zero, List.set_cons_succ, Array.getD_eq_getD_getElem?, List.getElem?_toArray, List.getElem?_cons_zero, List.getElem?_cons_succ, Option.getD_some]
      refine rg_nil ?_
      refine ek_next ?_
      refine wk_cond_t rfl ?_
      refine wk_seq ?_
      refine wk_region [0, 1, 0, 0, 1, 0, 0] rfl (by kernel_rfl) ?_
      simp only [List.zip_cons_cons, List.zip_nil_right]
      refine rg_move ?_
      simp only [Act.put, Act.eval, List.setIfInBounds_toArray, List.set_cons_zero, List.set_cons_succ, Array.getD_eq_getD_getElem?, List.getElem?_toArray, List.getElem?_cons_zero, List.getElem?_cons_succ, Option.getD_some]
      apply rg_pure (by rfl) (by kernel_rfl)
      case hargs => (simp only [List.map_toArray, List.map_cons, List.map_nil, Act.eval, Array.getD_eq_getD_getElem?, List.getElem?_toArray, List.getElem?_cons_zero, List.getElem?_cons_succ, Option.getD_some]; exact rfl)
      case h => exact fun w hw => rvalid_no xs a c (by omega) hp w (hA.kn0 hw)
      case hz => exact (fun _ h => by cases h)
      simp only [Act.put, Act.eval, List.setIfInBounds_toArray, List.set_cons_zero, List.set_cons_succ, Array.getD_eq_getD_getElem?, List.getElem?_toArray, List.getElem?_cons_zero, List.getElem?_cons_succ, Option.getD_some]
      apply rg_soft
      case hy => (intro w hw; go_simp; (try go_bits); exact Yld.mk _ _)
      simp only [Act.put, Act.eval, List.setIfInBounds_toArray, List.set_cons_zero, List.set_cons_succ, Array.getD_eq_getD_getElem?, List.getElem?_toArray, List.getElem?_cons_zero, List.getElem?_cons_succ, Option.getD_some]
      refine rg_move ?_
      simp only [Act.put, Act.eval, List.setIfInBounds_toArray, List.set_cons_zero, List.set_cons_succ, Array.getD_eq_getD_getElem?, List.getElem?_toArray, List.getElem?_cons_zero, List.getElem?_cons_succ, Option.getD_some]
      apply rg_pure (by rfl) (by kernel_rfl)
      case hargs => (simp only [List.map_toArray, List.map_cons, List.map_nil, Act.eval, Array.getD_eq_getD_getElem?, List.getElem?_toArray, List.getElem?_cons_zero, List.getElem?_cons_succ, Option.getD_some]; exact rfl)
      case h => exact fun w hw => sane_any w
      case hz => exact (fun _ h => by cases h)
      simp only [Act.put, Act.eval, List.setIfInBounds_toArray, List.set_cons_zero, List.set_cons_succ, Array.getD_eq_getD_getElem?, List.getElem?_toArray, List.getElem?_cons_zero, List.getElem?_cons_succ, Option.getD_some]
      apply rg_soft
      case hy => (intro w hw; go_simp; (try go_bits); exact Yld.mk _ _)
      simp only [Act.put, Act.eval, List.setIfInBounds_toArray, List.set_cons_zero, List.set_cons_succ, Array.getD_eq_getD_getElem?, List.getElem?_toArray, List.getElem?_cons_zero, List.getElem?_cons_succ, Option.getD_some]
      refine rg_assign ?_
      simp only [Act.put, Act.eval, List.setIfInBounds_toArray, List.set_cons_zero, List.set_cons_succ, Array.getD_eq_getD_getElem?, List.getElem?_toArray, List.getElem?_cons_zero, List.getElem?_cons_succ, Option.getD_some]
      refine rg_nil ?_
      refine ek_next ?_
      refine wk_ret ?_
      refine ek_then_ret ?_
      refine ek_ret (fun w hw => ⟨rfl, _, res_t _ rfl, ?_⟩)
      (try simp only [Act.put, Act.eval, List.setIfInBounds_toArray, List.set_cons_zero, List.set_cons_succ, Array.getD_eq_getD_getElem?, List.getElem?_toArray, List.getElem?_cons_zero, List.getElem?_cons_succ, Option.getD_some])
      first | exact ⟨rfl, hw.below⟩ | exact ⟨trivial, hw.below⟩ | exact hw.below
    · (try simp only [decide_eq_true_eq, decide_eq_false_iff_not, Int.not_lt, Int.not_le, beq_iff_eq, beq_eq_false_iff_ne, bne_iff_ne, bne_eq_false_iff_eq, ne_eq, Bool.not_eq_true', Bool.not_eq_false'] at h2)
      simp only [Act.put, Act.eval, List.setIfInBounds_toArray, List.set_cons_zero, List.set_cons_succ, Array.getD_eq_getD_getElem?, List.getElem?_toArray, List.getElem?_cons_zero, List.getElem?_cons_succ, Option.getD_some]
      apply rg_soft
      case hy => (intro w hw; go_simp; (try go_bits); exact Yld.mk _ _)
      simp only [Act.put, Act.eval, List.setIfInBounds_toArray, List.set_cons_zero, List.set_cons_succ, Array.getD_eq_getD_getElem?, List.getElem?_toArray, List.getElem?_cons_zero, List.getElem?_cons_succ, Option.getD_some]
      refine rg_nil ?_
      refine ek_next ?_
      refine wk_cond_t rfl ?_
      refine wk_seq ?_
      refine wk_region [1, 0] rfl (by kernel_rfl) ?_
      simp only [List.zip_cons_cons, List.zip_nil_right]
      apply rg_pure (by rfl) (by kernel_rfl)
      case hargs => (simp only [List.map_toArray, List.map_cons, List.map_nil, Act.eval, Array.getD_eq_getD_getElem?, List.getElem?_toArray, List.getElem?_cons_zero, List.getElem?_cons_succ, Option.getD_some]; exact rfl)
      case h => exact fun w hw => sane_any w
      case hz => exact (fun _ h => by cases h)
      simp only [Act.put, Act.eval, List.setIfInBounds_toArray, List.set_cons_zero, List.set_cons_succ, Array.getD_eq_getD_getElem?, List.getElem?_toArray, List.getElem?_cons_zero, List.getElem?_cons_succ, Option.getD_some]
      refine rg_assign ?_
      simp only [Act.put, Act.eval, List.setIfInBounds_toArray, List.set_cons_zero, List.set_cons_succ, Array.getD_eq_getD_getElem?, List.getElem?_toArray, List.getElem?_cons_zero, List.getElem?_cons_succ, Option.getD_some]
      refine rg_nil ?_
      refine ek_next ?_
      refine wk_ret ?_
      refine ek_then_ret ?_
      refine ek_ret (fun w hw => ⟨rfl, _, res_t _ rfl, ?_⟩)
      (try simp only [Act.put, Act.eval, List.setIfInBounds_toArray, List.set_cons_zero, List.set_cons_succ, Array.getD_eq_getD_getElem?, List.getElem?_toArray, List.getElem?_cons_zero, List.getElem?_cons_succ, Option.getD_some])
      first | exact ⟨rfl, hw.below⟩ | exact ⟨trivial, hw.below⟩ | exact hw.below
  · (try simp only [decide_eq_true_eq, decide_eq_false_iff_not, Int.not_lt, Int.not_le, beq_iff_eq, beq_eq_false_iff_ne, bne_iff_ne, bne_eq_false_iff_eq, ne_eq, Bool.not_eq_true', Bool.not_eq_false'] at h1)
    simp only [Act.put, Act.eval, List.setIfInBounds_toArray, List.set_cons_zero, List.set_cons_succ, Array.getD_eq_getD_getElem?, List.getElem?_toArray, List.getElem?_cons_zero, List.getElem?_cons_succ, Option.getD_some]
    refine rg_move ?_
    simp only [Act.put, Act.eval, List.setIfInBounds_toArray, List.set_cons_zero, List.set_cons_succ, Array.getD_eq_getD_getElem?, List.getElem?_toArray, List.getElem?_cons_zero, List.getElem?_cons_succ, Option.getD_some]
    refine rg_skip (by rfl) ?_
    simp only [Act.put, Act.eval, List.setIfInBounds_toArray, List.set_cons_zero, List.set_cons_succ, Array.getD_eq_getD_getElem?, List.getElem?_toArray, List.getElem?_cons_zero, List.getElem?_cons_succ, Option.getD_some]
    refine rg_skip (by rfl) ?_
    simp only [Act.put, Act.eval, List.setIfInBounds_toArray, List.set_cons_zero, List.set_cons_succ, Array.getD_eq_getD_getElem?, List.getElem?_toArray, List.getElem?_cons_zero, List.getElem?_cons_succ, Option.getD_some]
    refine rg_skip (by rfl) ?_
    simp only [Act.put, Act.eval, List.setIfInBounds_toArray, List.set_cons_zero, List.set_cons_succ, Array.getD_eq_getD_getElem?, List.getElem?_toArray, List.getElem?_cons_zero, List.getElem?_cons_succ, Option.getD_some]
    apply rg_soft
    case hy => (intro w hw; go_simp; (try go_bits); exact Yld.mk _ _)
    simp only [Act.put, Act.eval, List.setIfInBounds_toArray, List.set_cons_zero, List.set_cons_succ, Array.getD_eq_getD_getElem?, List.getElem?_toArray, List.getElem?_cons_zero, List.getElem?_cons_succ, Option.getD_some]
    refine rg_nil ?_
    refine ek_next ?_
    refine wk_cond_t rfl ?_
    refine wk_seq ?_
    refine wk_region [1, 0] rfl (by kernel_rfl) ?_
    simp only [List.zip_cons_cons, List.zip_nil_right]
    apply rg_pure (by rfl) (by kernel_rfl)
    case hargs => (simp only [List.map_toArray, List.map_cons, List.map_nil, Act.eval, Array.getD_eq_getD_getElem?, List.getElem?_toArray, List.getElem?_cons_zero, List.getElem?_cons_succ, Option.getD_some]; exact rfl)
    case h => exact fun w hw => sane_any w
    case hz => exact (fun _ h => by cases h)
    simp only [Act.put, Act.eval, List.setIfInBounds_toArray, List.set_cons_zero, List.set_cons_succ, Array.getD_eq_getD_getElem?, List.getElem?_toArray, List.getElem?_cons_zero, List.getElem?_cons_succ, Option.getD_some]
    refine rg_assign ?_
    simp only [Act.put, Act.eval, List.setIfInBounds_toArray, List.set_cons_zero, List.set_cons_succ, Array.getD_eq_getD_getElem?, List.getElem?_toArray, List.getElem?_cons_zero, List.getElem?_cons_succ, Option.getD_some]
    refine rg_nil ?_
    refine ek_next ?_
    refine wk_ret ?_
    refine ek_then_ret ?_
    refine ek_ret (fun w hw => ⟨rfl, _, res_t _ rfl, ?_⟩)
    (try simp only [Act.put, Act.eval, List.setIfInBounds_toArray, List.set_cons_zero, List.set_cons_succ, Array.getD_eq_getD_getElem?, List.getElem?_toArray, List.getElem?_cons_zero, List.getElem?_cons_succ, Option.getD_some])
    first | exact ⟨rfl, hw.below⟩ | exact ⟨trivial, hw.below⟩ | exact hw.below

end Go.Proofs.Ytccbinnlnkpplaa
