/- The permutation that items make: the document. -/
import Derived.Test.YtccbinnlnkpplaaSy15
namespace Go.Proofs.Ytccbinnlnkpplaa
set_option linter.all false
open Go.RowKit

theorem pos_hit {xs : List It} {g : Int} {j : Nat} (h : pos xs g j = (it xs j).at_) : (it xs j).at_ + 1 = pos xs g (j + 1) := by rw [pos, if_pos h]
theorem pos_hit2 {xs : List It} {g : Int} {j : Nat} (h1 : ¬ pos xs g j = (it xs j).at_) (h2 : pos xs g j = (it xs j).at_ + 1) : (it xs j).at_ = pos xs g (j + 1) := by rw [pos, if_neg h1, if_pos h2]
theorem pos_miss {xs : List It} {g : Int} {j : Nat} (h1 : ¬ pos xs g j = (it xs j).at_) (h2 : ¬ pos xs g j = (it xs j).at_ + 1) : pos xs g j = pos xs g (j + 1) := by rw [pos, if_neg h1, if_neg h2]

set_option maxRecDepth 100000 in
set_option maxHeartbeats 2000000 in
theorem permOfR (xs : List It) (a : Option Addr) (c : Nat) (n : Int) (w : World) (hA : AS w a (its xs)) : Calls Try.prog 22 #[.int .i64 n, slV a xs.length c] w fun e w' => RetI w (fun v => .tuple #[v, .bool (isP n xs), .int .i64 (itemE n xs)]) (fun zs => zs = permZ n xs) e w' := by
  go_enter Try.func22, Try.ntmps22
  refine wk_start ?_
  refine wk_seq ?_
  refine wk_region [0, 0, 0] rfl (by kernel_rfl) ?_
  simp only [List.zip_cons_cons, List.zip_nil_right]
  refine rg_assign ?_
  simp only [Act.put, Act.eval, List.setIfInBounds_toArray, List.set_cons_zero, List.set_cons_succ, Array.getD_eq_getD_getElem?, List.getElem?_toArray, List.getElem?_cons_zero, List.getElem?_cons_succ, Option.getD_some]
  refine rg_assign ?_
  simp only [Act.put, Act.eval, List.setIfInBounds_toArray, List.set_cons_zero, List.set_cons_succ, Array.getD_eq_getD_getElem?, List.getElem?_toArray, List.getElem?_cons_zero, List.getElem?_cons_succ, Option.getD_some]
  refine rg_assign ?_
  simp only [Act.put, Act.eval, List.setIfInBounds_toArray, List.set_cons_zero, List.set_cons_succ, Array.getD_eq_getD_getElem?, List.getElem?_toArray, List.getElem?_cons_zero, List.getElem?_cons_succ, Option.getD_some]
  refine rg_nil ?_
  refine ek_next ?_
  refine wk_seq ?_
  refine wk_region [0, 0, 1, 0] rfl (by kernel_rfl) ?_
  simp only [List.zip_cons_cons, List.zip_nil_right]
  refine rg_move ?_
  simp only [Act.put, Act.eval, List.setIfInBounds_toArray, List.set_cons_zero, List.set_cons_succ, Array.getD_eq_getD_getElem?, List.getElem?_toArray, List.getElem?_cons_zero, List.getElem?_cons_succ, Option.getD_some]
  refine rg_move ?_
  simp only [Act.put, Act.eval, List.setIfInBounds_toArray, List.set_cons_zero, List.set_cons_succ, Array.getD_eq_getD_getElem?, List.getElem?_toArray, List.getElem?_cons_zero, List.getElem?_cons_succ, Option.getD_some]
  apply rg_pure (by rfl) (by kernel_rfl)
  case hargs => (simp only [List.map_toArray, List.map_cons, List.map_nil, Act.eval, Array.getD_eq_getD_getElem?, List.getElem?_toArray, List.getElem?_cons_zero, List.getElem?_cons_succ, Option.getD_some]; exact rfl)
  case h => exact fun w hw => items_any xs a c n w (hA.kn0 hw)
  case hz => exact (fun _ h => by cases h)
  simp only [Act.put, Act.eval, List.setIfInBounds_toArray, List.set_cons_zero, List.set_cons_succ, Array.getD_eq_getD_getElem?, List.getElem?_toArray, List.getElem?_cons_zero, List.getElem?_cons_succ, Option.getD_some]
  refine rg_assign ?_
  simp only [Act.put, Act.eval, List.setIfInBounds_toArray, List.set_cons_zero, List.set_cons_succ, Array.getD_eq_getD_getElem?, List.getElem?_toArray, List.getElem?_cons_zero, List.getElem?_cons_succ, Option.getD_some]
  refine rg_nil ?_
  refine ek_next ?_
  refine wk_seq ?_
  refine wk_seq ?_
  refine wk_region [0, 0] rfl (by kernel_rfl) ?_
  simp only [List.zip_cons_cons, List.zip_nil_right]
  refine rg_move ?_
  simp only [Act.put, Act.eval, List.setIfInBounds_toArray, List.set_cons_zero, List.set_cons_succ, Array.getD_eq_getD_getElem?, List.getElem?_toArray, List.getElem?_cons_zero, List.getElem?_cons_succ, Option.getD_some]
  apply rg_softb
  case hy => (intro w hw; go_simp; (try go_bits); exact Yld.mk _ _)
  intro x h1
  cases x
  · (try simp only [decide_eq_true_eq, decide_eq_false_iff_not, Int.not_lt, Int.not_le, beq_iff_eq, beq_eq_false_iff_ne, bne_iff_ne, bne_eq_false_iff_eq, ne_eq, Bool.not_eq_true', Bool.not_eq_false'] at h1)
    simp only [Act.put, Act.eval, List.setIfInBounds_toArray, List.set_cons_zero, List.set_cons_succ, Array.getD_eq_getD_getElem?, List.getElem?_toArray, List.getElem?_cons_zero, List.getElem?_cons_succ, Option.getD_some]
    have hv := Lib.hid (itemE_valid h1)
    have hE := Lib.hid h1
    clear h1
    obtain ⟨hn1, hn2, hlen5, hfit⟩ := validB_all hv.out
    obtain ⟨m, rfl⟩ : ∃ m : Nat, n = m := ⟨n.toNat, by omega⟩
    refine rg_nil ?_
    refine ek_next ?_
    refine wk_cond_f rfl ?_
    refine wk_skip ?_
    refine ek_next ?_
    refine wk_seq ?_
    refine wk_region [0] rfl (by kernel_rfl) ?_
    simp only [List.zip_cons_cons, List.zip_nil_right]
    refine rg_assign ?_
    simp only [Act.put, Act.eval, List.setIfInBounds_toArray, List.set_cons_zero, List.set_cons_succ, Array.getD_eq_getD_getElem?, List.getElem?_toArray, List.getElem?_cons_zero, List.getElem?_cons_succ, Option.getD_some]
    refine rg_nil ?_
    refine ek_next ?_
    refine wk_seq ?_
    refine wk_seq ?_
    refine wk_region [0] rfl (by kernel_rfl) ?_
    simp only [List.zip_cons_cons, List.zip_nil_right]
    refine rg_assign ?_
    simp only [Act.put, Act.eval, List.setIfInBounds_toArray, List.set_cons_zero, List.set_cons_succ, Array.getD_eq_getD_getElem?, List.getElem?_toArray, List.getElem?_cons_zero, List.getElem?_cons_succ, Option.getD_some]
    refine rg_nil ?_
    refine ek_next ?_
    refine wk_block ?_
    refine wk_loopS [4, 5, 6, 8, 9, 10, 11, 18, 19, 20, 21, 22, 23, 24, 25, 26, 27, 28, 29, 30, 31, 32, 33, 34, 35, 36, 37, 38, 39, 40, 41, 42, 43, 44, 45, 46, 47, 48, 49, 50, 51, 52, 53, 54, 55, 56, 57, 58, 59, 60, 61, 62, 63, 64, 65, 66, 67] (fun mz vs s => ∃ (k : Nat) (v : Value) (u : List Blk) (j4 j5 j6 j10 j11 j18 j19 j20 j21 j22 j23 j24 j25 j26 j27 j28 j29 j30 j31 j32 j33 j34 j35 j36 j37 j38 j39 j40 j41 j42 j43 j44 j45 j46 j47 j48 j49 j50 j51 j52 j53 j54 j55 j56 j57 j58 j59 j60 j61 j62 j63 j64 j65 j66 j67 : Value), vs = [j4, j5, j6, v, .int .i64 ((k : Int) + 1), j10, j11, j18, j19, j20, j21, j22, j23, j24, j25, j26, j27, j28, j29, j30, j31, j32, j33, j34, j35, j36, j37, j38, j39, j40, j41, j42, j43, j44, j45, j46, j47, j48, j49, j50, j51, j52, j53, j54, j55, j56, j57, j58, j59, j60, j61, j62, j63, j64, j65, j66, j67] ∧ s = (u ++ []) ∧ mz = m - k ∧ k ≤ m ∧ OwnI u v (outTo xs k) ∧ (0 < k → ∀ j, j < xs.length → (it xs j).kind = 3)) ((fun (k : Nat) (v : Value) (u : List Blk) => m - k) (0) (.slice none 0 0) ([])) ?_ (by kernel_rfl) ?_
    · dsimp only [Act.vals, List.map, Array.getD, List.size_toArray, List.length_cons, List.length_nil, Nat.reduceAdd, Nat.reduceLT, ↓reduceDIte, Array.getInternal, List.getElem_toArray, List.getElem_cons_zero, List.getElem_cons_succ]
      exact ⟨0, .slice none 0 0, [], _, _, _, _, _, _, _, _, _, _, _, _, _, _, _, _, _, _, _, _, _, _, _, _, _, _, _, _, _, _, _, _, _, _, _, _, _, _, _, _, _, _, _, _, _, _, _, _, _, _, _, _, _, _, _, rfl, rfl, rfl, by omega, OwnI.nil, fun h => by omega⟩
    rintro mz vs s ⟨k, v, u, j4, j5, j6, j10, j11, j18, j19, j20, j21, j22, j23, j24, j25, j26, j27, j28, j29, j30, j31, j32, j33, j34, j35, j36, j37, j38, j39, j40, j41, j42, j43, j44, j45, j46, j47, j48, j49, j50, j51, j52, j53, j54, j55, j56, j57, j58, j59, j60, j61, j62, j63, j64, j65, j66, j67, rfl, rfl, hn, hc1, hc2, hc3⟩
    simp only [Act.puts, Act.vals, List.zip_cons_cons, List.zip_nil_right, List.foldl_cons, List.foldl_nil, List.map_cons, List.map_nil, Act.put, Act.eval, List.setIfInBounds_toArray, List.set_cons_zero, List.set_cons_succ, Array.getD_eq_getD_getElem?, List.getElem?_toArray, List.getElem?_cons_zero, List.getElem?_cons_succ, Option.getD_some]
    refine wk_seq ?_
    refine wk_seq ?_
    refine wk_region [0, 0, 0] rfl (by kernel_rfl) ?_
    simp only [List.zip_cons_cons, List.zip_nil_right]
    refine rg_move ?_
    simp only [Act.put, Act.eval, List.setIfInBounds_toArray, List.set_cons_zero, List.set_cons_succ, Array.getD_eq_getD_getElem?, List.getElem?_toArray, List.getElem?_cons_zero, List.getElem?_cons_succ, Option.getD_some]
    refine rg_move ?_
    simp only [Act.put, Act.eval, List.setIfInBounds_toArray, List.set_cons_zero, List.set_cons_succ, Array.getD_eq_getD_getElem?, List.getElem?_toArray, List.getElem?_cons_zero, List.getElem?_cons_succ, Option.getD_some]
    apply rg_softb
    case hy => (intro w hw; go_simp; (try go_bits); exact Yld.mk _ _)
    intro x h2
    cases x
    · (try simp only [decide_eq_true_eq, decide_eq_false_iff_not, Int.not_lt, Int.not_le, beq_iff_eq, beq_eq_false_iff_ne, bne_iff_ne, bne_eq_false_iff_eq, ne_eq, Bool.not_eq_true', Bool.not_eq_false'] at h2)
      simp only [Act.put, Act.eval, List.setIfInBounds_toArray, List.set_cons_zero, List.set_cons_succ, Array.getD_eq_getD_getElem?, List.getElem?_toArray, List.getElem?_cons_zero, List.getElem?_cons_succ, Option.getD_some]
      obtain rfl : m = k := by omega
      have hall := hc3 (by omega)
      refine rg_nil ?_
      refine ek_next ?_
      refine wk_cond_f rfl ?_
      refine wk_exit ?_
      refine ek_then_exit ?_
      refine ek_then_exit ?_
      refine ek_block_exit ?_
      refine ek_next ?_
      refine wk_seq ?_
      refine wk_region [0, 0, 0, 0] rfl (by kernel_rfl) ?_
      simp only [List.zip_cons_cons, List.zip_nil_right]
      refine rg_move ?_
      simp only [Act.put, Act.eval, List.setIfInBounds_toArray, List.set_cons_zero, List.set_cons_succ, Array.getD_eq_getD_getElem?, List.getElem?_toArray, List.getElem?_cons_zero, List.getElem?_cons_succ, Option.getD_some]
      refine rg_assign ?_
      simp only [Act.put, Act.eval, List.setIfInBounds_toArray, List.set_cons_zero, List.set_cons_succ, Array.getD_eq_getD_getElem?, List.getElem?_toArray, List.getElem?_cons_zero, List.getElem?_cons_succ, Option.getD_some]
      refine rg_assign ?_
      simp only [Act.put, Act.eval, List.setIfInBounds_toArray, List.set_cons_zero, List.set_cons_succ, Array.getD_eq_getD_getElem?, List.getElem?_toArray, List.getElem?_cons_zero, List.getElem?_cons_succ, Option.getD_some]
      refine rg_assign ?_
      simp only [Act.put, Act.eval, List.setIfInBounds_toArray, List.set_cons_zero, List.set_cons_succ, Array.getD_eq_getD_getElem?, List.getElem?_toArray, List.getElem?_cons_zero, List.getElem?_cons_succ, Option.getD_some]
      refine rg_nil ?_
      refine ek_next ?_
      refine wk_ret ?_
      refine ek_ret (fun w hw => ⟨rfl, _, res_ttt _ _ _ rfl, ?_⟩)
      (try simp only [Act.put, Act.eval, List.setIfInBounds_toArray, List.set_cons_zero, List.set_cons_succ, Array.getD_eq_getD_getElem?, List.getElem?_toArray, List.getElem?_cons_zero, List.getElem?_cons_succ, Option.getD_some])
      exact ⟨v, u, _, (by simp only [isP_ok hv.out hall, hE.out]), hc2, (by rw [permZ_ok rfl (isP_ok hv.out hall)]; exact out_inv (by omega) (by omega) (fun j hj => crs_of (hfit j hj) (hall j hj))), hw.made (by simp)⟩
    · (try simp only [decide_eq_true_eq, decide_eq_false_iff_not, Int.not_lt, Int.not_le, beq_iff_eq, beq_eq_false_iff_ne, bne_iff_ne, bne_eq_false_iff_eq, ne_eq, Bool.not_eq_true', Bool.not_eq_false'] at h2)
      simp only [Act.put, Act.eval, List.setIfInBounds_toArray, List.set_cons_zero, List.set_cons_succ, Array.getD_eq_getD_getElem?, List.getElem?_toArray, List.getElem?_cons_zero, List.getElem?_cons_succ, Option.getD_some]
      refine rg_nil ?_
      refine ek_next ?_
      refine wk_cond_t rfl ?_
      refine wk_skip ?_
      refine ek_next ?_
      refine wk_seq ?_
      refine wk_block ?_
      refine wk_seq ?_
      refine wk_region [0, 0] rfl (by kernel_rfl) ?_
      simp only [List.zip_cons_cons, List.zip_nil_right]
      refine rg_move ?_
      simp only [Act.put, Act.eval, List.setIfInBounds_toArray, List.set_cons_zero, List.set_cons_succ, Array.getD_eq_getD_getElem?, List.getElem?_toArray, List.getElem?_cons_zero, List.getElem?_cons_succ, Option.getD_some]
      refine rg_assign ?_
      simp only [Act.put, Act.eval, List.setIfInBounds_toArray, List.set_cons_zero, List.set_cons_succ, Array.getD_eq_getD_getElem?, List.getElem?_toArray, List.getElem?_cons_zero, List.getElem?_cons_succ, Option.getD_some]
      refine rg_nil ?_
      refine ek_next ?_
      refine wk_seq ?_
      refine wk_seq ?_
      refine wk_region [0] rfl (by kernel_rfl) ?_
      simp only [List.zip_cons_cons, List.zip_nil_right]
      refine rg_assign ?_
      simp only [Act.put, Act.eval, List.setIfInBounds_toArray, List.set_cons_zero, List.set_cons_succ, Array.getD_eq_getD_getElem?, List.getElem?_toArray, List.getElem?_cons_zero, List.getElem?_cons_succ, Option.getD_some]
      refine rg_nil ?_
      refine ek_next ?_
      refine wk_block ?_
      refine wk_loopS [4, 5, 6, 10, 11, 24, 25, 26, 27, 28, 29, 30, 31, 32, 33, 34, 35, 36, 37, 38, 39, 40, 41, 42, 43, 44, 45, 46, 47, 48, 49, 50, 51, 52, 53, 54, 55, 56, 57, 58, 59, 60, 61, 62] (fun mz vs s => ∃ (j : Nat) (j4 j5 j6 j24 j25 j26 j27 j28 j29 j30 j31 j32 j33 j34 j35 j36 j37 j38 j39 j40 j41 j42 j43 j44 j45 j46 j47 j48 j49 j50 j51 j52 j53 j54 j55 j56 j57 j58 j59 j60 j61 j62 : Value), vs = [j4, j5, j6, .int .i64 (pos xs ((k : Int) + 1) j), .int .i64 j, j24, j25, j26, j27, j28, j29, j30, j31, j32, j33, j34, j35, j36, j37, j38, j39, j40, j41, j42, j43, j44, j45, j46, j47, j48, j49, j50, j51, j52, j53, j54, j55, j56, j57, j58, j59, j60, j61, j62] ∧ s = (u ++ []) ∧ mz = xs.length - j ∧ j ≤ xs.length ∧ ∀ i, i < j → (it xs i).kind = 3) ((fun (j : Nat) => xs.length - j) (0)) ?_ (by kernel_rfl) ?_
      · dsimp only [Act.vals, List.map, Array.getD, List.size_toArray, List.length_cons, List.length_nil, Nat.reduceAdd, Nat.reduceLT, ↓reduceDIte, Array.getInternal, List.getElem_toArray, List.getElem_cons_zero, List.getElem_cons_succ]
        exact ⟨0, _, _, _, _, _, _, _, _, _, _, _, _, _, _, _, _, _, _, _, _, _, _, _, _, _, _, _, _, _, _, _, _, _, _, _, _, _, _, _, _, _, _, rfl, rfl, rfl, by omega, fun i hi => by omega⟩
      rintro mz vs s ⟨j, j4, j5, j6, j24, j25, j26, j27, j28, j29, j30, j31, j32, j33, j34, j35, j36, j37, j38, j39, j40, j41, j42, j43, j44, j45, j46, j47, j48, j49, j50, j51, j52, j53, j54, j55, j56, j57, j58, j59, j60, j61, j62, rfl, rfl, hn, hd1, hd2⟩
      simp only [Act.puts, Act.vals, List.zip_cons_cons, List.zip_nil_right, List.foldl_cons, List.foldl_nil, List.map_cons, List.map_nil, Act.put, Act.eval, List.setIfInBounds_toArray, List.set_cons_zero, List.set_cons_succ, Array.getD_eq_getD_getElem?, List.getElem?_toArray, List.getElem?_cons_zero, List.getElem?_cons_succ, Option.getD_some]
      refine wk_seq ?_
      refine wk_seq ?_
      refine wk_region [0, 0, 0, 0] rfl (by kernel_rfl) ?_
      simp only [List.zip_cons_cons, List.zip_nil_right]
      refine rg_move ?_
      simp only [Act.put, Act.eval, List.setIfInBounds_toArray, List.set_cons_zero, List.set_cons_succ, Array.getD_eq_getD_getElem?, List.getElem?_toArray, List.getElem?_cons_zero, List.getElem?_cons_succ, Option.getD_some]
      refine rg_move ?_
      simp only [Act.put, Act.eval, List.setIfInBounds_toArray, List.set_cons_zero, List.set_cons_succ, Array.getD_eq_getD_getElem?, List.getElem?_toArray, List.getElem?_cons_zero, List.getElem?_cons_succ, Option.getD_some]
      apply rg_soft
      case hy => (intro w hw; go_simp; (try go_bits); exact Yld.mk _ _)
      simp only [Act.put, Act.eval, List.setIfInBounds_toArray, List.set_cons_zero, List.set_cons_succ, Array.getD_eq_getD_getElem?, List.getElem?_toArray, List.getElem?_cons_zero, List.getElem?_cons_succ, Option.getD_some]
      apply rg_softb
      case hy => (intro w hw; go_simp; (try go_bits); exact Yld.mk _ _)
      intro x h3
      cases x
      · (try simp only [decide_eq_true_eq, decide_eq_false_iff_not, Int.not_lt, Int.not_le, beq_iff_eq, beq_eq_false_iff_ne, bne_iff_ne, bne_eq_false_iff_eq, ne_eq, Bool.not_eq_true', Bool.not_eq_false'] at h3)
        simp only [Act.put, Act.eval, List.setIfInBounds_toArray, List.set_cons_zero, List.set_cons_succ, Array.getD_eq_getD_getElem?, List.getElem?_toArray, List.getElem?_cons_zero, List.getElem?_cons_succ, Option.getD_some]
        obtain rfl : j = xs.length := by omega
        have hall := hd2
        have hps := pos_range (m := m) (xs := xs) (g := (k : Int) + 1) ⟨by omega, by omega⟩ xs.length (fun j hj => crs_of (hfit j hj) (hall j hj))
        refine rg_nil ?_
        refine ek_next ?_
        refine wk_cond_f rfl ?_
        refine wk_exit ?_
        refine ek_then_exit ?_
        refine ek_then_exit ?_
        refine ek_block_exit ?_
        refine ek_next ?_
        refine wk_region [0, 0, 0, 1, 1, 0] rfl (by kernel_rfl) ?_
        simp only [List.zip_cons_cons, List.zip_nil_right]
        refine rg_move ?_
        simp only [Act.put, Act.eval, List.setIfInBounds_toArray, List.set_cons_zero, List.set_cons_succ, Array.getD_eq_getD_getElem?, List.getElem?_toArray, List.getElem?_cons_zero, List.getElem?_cons_succ, Option.getD_some]
        refine rg_move ?_
        simp only [Act.put, Act.eval, List.setIfInBounds_toArray, List.set_cons_zero, List.set_cons_succ, Array.getD_eq_getD_getElem?, List.getElem?_toArray, List.getElem?_cons_zero, List.getElem?_cons_succ, Option.getD_some]
        apply rg_soft
        case hy => (intro w hw; go_simp; (try go_bits); exact Yld.mk _ _)
        simp only [Act.put, Act.eval, List.setIfInBounds_toArray, List.set_cons_zero, List.set_cons_succ, Array.getD_eq_getD_getElem?, List.getElem?_toArray, List.getElem?_cons_zero, List.getElem?_cons_succ, Option.getD_some]
        refine rg_newS (cs := ?_) (ty := ?_) (n := 1) (c := 1) (by rfl) (fun w => ?_) (fun _ h => by cases h) (fun g1 => ?_); rotate_left 2
        focus (go_simp; rfl)
        simp only [Act.put, Act.eval, List.setIfInBounds_toArray, List.set_cons_zero, List.set_cons_succ, Array.getD_eq_getD_getElem?, List.getElem?_toArray, List.getElem?_cons_zero, List.getElem?_cons_succ, Option.getD_some]
        refine rg_appendI (by rfl) rfl hc2 rfl (by (try simp only [outTo_len]); omega) (fun _ h => by cases h) (fun u2 v2 hO2 => ?_)
        simp only [Act.put, Act.eval, List.setIfInBounds_toArray, List.set_cons_zero, List.set_cons_succ, Array.getD_eq_getD_getElem?, List.getElem?_toArray, List.getElem?_cons_zero, List.getElem?_cons_succ, Option.getD_some]
        refine rg_assign ?_
        simp only [Act.put, Act.eval, List.setIfInBounds_toArray, List.set_cons_zero, List.set_cons_succ, Array.getD_eq_getD_getElem?, List.getElem?_toArray, List.getElem?_cons_zero, List.getElem?_cons_succ, Option.getD_some]
        refine rg_nil ?_
        refine ek_block ?_
        refine ek_next ?_
        refine wk_region [0, 0, 0] rfl (by kernel_rfl) ?_
        simp only [List.zip_cons_cons, List.zip_nil_right]
        refine rg_move ?_
        simp only [Act.put, Act.eval, List.setIfInBounds_toArray, List.set_cons_zero, List.set_cons_succ, Array.getD_eq_getD_getElem?, List.getElem?_toArray, List.getElem?_cons_zero, List.getElem?_cons_succ, Option.getD_some]
        apply rg_soft
        case hy => (intro w hw; go_simp; (try go_bits); exact Yld.mk _ _)
        simp only [Act.put, Act.eval, List.setIfInBounds_toArray, List.set_cons_zero, List.set_cons_succ, Array.getD_eq_getD_getElem?, List.getElem?_toArray, List.getElem?_cons_zero, List.getElem?_cons_succ, Option.getD_some]
        refine rg_assign ?_
        simp only [Act.put, Act.eval, List.setIfInBounds_toArray, List.set_cons_zero, List.set_cons_succ, Array.getD_eq_getD_getElem?, List.getElem?_toArray, List.getElem?_cons_zero, List.getElem?_cons_succ, Option.getD_some]
        refine rg_nil ?_
        refine ek_roundS (m - (k + 1)) (by omega) (by kernel_rfl) ?_
        dsimp only [Act.vals, List.map, Array.getD, List.size_toArray, List.length_cons, List.length_nil, Nat.reduceAdd, Nat.reduceLT, ↓reduceDIte, Array.getInternal, List.getElem_toArray, List.getElem_cons_zero, List.getElem_cons_succ]
        exact ⟨k + 1, v2, u2, _, _, _, _, _, _, _, _, _, _, _, _, _, _, _, _, _, _, _, _, _, _, _, _, _, _, _, _, _, _, _, _, _, _, _, _, _, _, _, _, _, _, _, _, _, _, _, _, _, _, _, _, _, _, _, by rfl, by rfl, by rfl, by omega, hO2, fun _ => hall⟩
      · (try simp only [decide_eq_true_eq, decide_eq_false_iff_not, Int.not_lt, Int.not_le, beq_iff_eq, beq_eq_false_iff_ne, bne_iff_ne, bne_eq_false_iff_eq, ne_eq, Bool.not_eq_true', Bool.not_eq_false'] at h3)
        simp only [Act.put, Act.eval, List.setIfInBounds_toArray, List.set_cons_zero, List.set_cons_succ, Array.getD_eq_getD_getElem?, List.getElem?_toArray, List.getElem?_cons_zero, List.getElem?_cons_succ, Option.getD_some]
        obtain ⟨b, off, rfl, hlt, hcell⟩ := AS.openT hA (by omega)
        have hck := hcell j (by omega)
        refine rg_nil ?_
        refine ek_next ?_
        refine wk_cond_t rfl ?_
        refine wk_skip ?_
        refine ek_next ?_
        refine wk_seq ?_
        refine wk_block ?_
        refine wk_seq ?_
        refine wk_seq ?_
        refine wk_region [0, 0, 0, 0, 0, 0] rfl (by kernel_rfl) ?_
        simp only [List.zip_cons_cons, List.zip_nil_right]
        refine rg_move ?_
        simp only [Act.put, Act.eval, List.setIfInBounds_toArray, List.set_cons_zero, List.set_cons_succ, Array.getD_eq_getD_getElem?, List.getElem?_toArray, List.getElem?_cons_zero, List.getElem?_cons_succ, Option.getD_some]
        refine rg_move ?_
        simp only [Act.put, Act.eval, List.setIfInBounds_toArray, List.set_cons_zero, List.set_cons_succ, Array.getD_eq_getD_getElem?, List.getElem?_toArray, List.getElem?_cons_zero, List.getElem?_cons_succ, Option.getD_some]
        apply rg_soft
        case hy => (intro w hw; go_simp; (try go_bits); exact Yld.mk _ _)
        simp only [Act.put, Act.eval, List.setIfInBounds_toArray, List.set_cons_zero, List.set_cons_succ, Array.getD_eq_getD_getElem?, List.getElem?_toArray, List.getElem?_cons_zero, List.getElem?_cons_succ, Option.getD_some]
        apply rg_soft
        case hy => (intro w hw; go_simp; (try go_bits); exact Yld.mk _ _)
        simp only [Act.put, Act.eval, List.setIfInBounds_toArray, List.set_cons_zero, List.set_cons_succ, Array.getD_eq_getD_getElem?, List.getElem?_toArray, List.getElem?_cons_zero, List.getElem?_cons_succ, Option.getD_some]
        apply rg_soft
        case hy => (intro w hw; obtain ⟨hi0, hi1, hi2, hi3⟩ := hck.kn hw hlt (by simp); go_simp; (try go_bits); exact Yld.mk _ _)
        simp only [Act.put, Act.eval, List.setIfInBounds_toArray, List.set_cons_zero, List.set_cons_succ, Array.getD_eq_getD_getElem?, List.getElem?_toArray, List.getElem?_cons_zero, List.getElem?_cons_succ, Option.getD_some]
        apply rg_softb
        case hy => (intro w hw; go_simp; (try go_bits); exact Yld.mk _ _)
        intro x h4
        cases x
        · (try simp only [decide_eq_true_eq, decide_eq_false_iff_not, Int.not_lt, Int.not_le, beq_iff_eq, beq_eq_false_iff_ne, bne_iff_ne, bne_eq_false_iff_eq, ne_eq, Bool.not_eq_true', Bool.not_eq_false'] at h4)
          simp only [Act.put, Act.eval, List.setIfInBounds_toArray, List.set_cons_zero, List.set_cons_succ, Array.getD_eq_getD_getElem?, List.getElem?_toArray, List.getElem?_cons_zero, List.getElem?_cons_succ, Option.getD_some]
          have hk3 := Lib.hid (show (it xs j).kind = 3 by omega)
          have hcr := crs_of (hfit j (by omega)) hk3.out
          unfold Crs at hcr
          clear h4
          refine rg_nil ?_
          refine ek_next ?_
          refine wk_cond_f rfl ?_
          refine wk_skip ?_
          refine ek_next ?_
          refine wk_seq ?_
          refine wk_region [0] rfl (by kernel_rfl) ?_
          simp only [List.zip_cons_cons, List.zip_nil_right]
          refine rg_move ?_
          simp only [Act.put, Act.eval, List.setIfInBounds_toArray, List.set_cons_zero, List.set_cons_succ, Array.getD_eq_getD_getElem?, List.getElem?_toArray, List.getElem?_cons_zero, List.getElem?_cons_succ, Option.getD_some]
          refine rg_nil ?_
          refine ek_next ?_
          refine wk_block ?_
          refine wk_seq ?_
          refine wk_region [0, 0, 0, 0, 0, 0, 0] rfl (by kernel_rfl) ?_
          simp only [List.zip_cons_cons, List.zip_nil_right]
          refine rg_move ?_
          simp only [Act.put, Act.eval, List.setIfInBounds_toArray, List.set_cons_zero, List.set_cons_succ, Array.getD_eq_getD_getElem?, List.getElem?_toArray, List.getElem?_cons_zero, List.getElem?_cons_succ, Option.getD_some]
          refine rg_move ?_
          simp only [Act.put, Act.eval, List.setIfInBounds_toArray, List.set_cons_zero, List.set_cons_succ, Array.getD_eq_getD_getElem?, List.getElem?_toArray, List.getElem?_cons_zero, List.getElem?_cons_succ, Option.getD_some]
          apply rg_soft
          case hy => (intro w hw; go_simp; (try go_bits); exact Yld.mk _ _)
          simp only [Act.put, Act.eval, List.setIfInBounds_toArray, List.set_cons_zero, List.set_cons_succ, Array.getD_eq_getD_getElem?, List.getElem?_toArray, List.getElem?_cons_zero, List.getElem?_cons_succ, Option.getD_some]
          apply rg_soft
          case hy => (intro w hw; go_simp; (try go_bits); exact Yld.mk _ _)
          simp only [Act.put, Act.eval, List.setIfInBounds_toArray, List.set_cons_zero, List.set_cons_succ, Array.getD_eq_getD_getElem?, List.getElem?_toArray, List.getElem?_cons_zero, List.getElem?_cons_succ, Option.getD_some]
          apply rg_soft
          case hy => (intro w hw; obtain ⟨hi0, hi1, hi2, hi3⟩ := hck.kn hw hlt (by simp); go_simp; (try go_bits); exact Yld.mk _ _)
          simp only [Act.put, Act.eval, List.setIfInBounds_toArray, List.set_cons_zero, List.set_cons_succ, Array.getD_eq_getD_getElem?, List.getElem?_toArray, List.getElem?_cons_zero, List.getElem?_cons_succ, Option.getD_some]
          apply rg_softb
          case hy => (intro w hw; go_simp; (try go_bits); exact Yld.mk _ _)
          intro x h5
          cases x
          · (try simp only [decide_eq_true_eq, decide_eq_false_iff_not, Int.not_lt, Int.not_le, beq_iff_eq, beq_eq_false_iff_ne, bne_iff_ne, bne_eq_false_iff_eq, ne_eq, Bool.not_eq_true', Bool.not_eq_false'] at h5)
            simp only [Act.put, Act.eval, List.setIfInBounds_toArray, List.set_cons_zero, List.set_cons_succ, Array.getD_eq_getD_getElem?, List.getElem?_toArray, List.getElem?_cons_zero, List.getElem?_cons_succ, Option.getD_some]
            replace h5 := Lib.hid h5
            refine rg_assign ?_
            simp only [Act.put, Act.eval, List.setIfInBounds_toArray, List.set_cons_zero, List.set_cons_succ, Array.getD_eq_getD_getElem?, List.getElem?_toArray, List.getElem?_cons_zero, List.getElem?_cons_succ, Option.getD_some]
            refine rg_nil ?_
            refine ek_next ?_
            refine wk_cond_f rfl ?_
            refine wk_seq ?_
            refine wk_region [0, 0, 0, 0, 0, 0, 0, 0] rfl (by kernel_rfl) ?_
            simp only [List.zip_cons_cons, List.zip_nil_right]
            refine rg_move ?_
            simp only [Act.put, Act.eval, List.setIfInBounds_toArray, List.set_cons_zero, List.set_cons_succ, Array.getD_eq_getD_getElem?, List.getElem?_toArray, List.getElem?_cons_zero, List.getElem?_cons_succ, Option.getD_some]
            refine rg_move ?_
            simp only [Act.put, Act.eval, List.setIfInBounds_toArray, List.set_cons_zero, List.set_cons_succ, Array.getD_eq_getD_getElem?, List.getElem?_toArray, List.getElem?_cons_zero, List.getElem?_cons_succ, Option.getD_some]
            apply rg_soft
            case hy => (intro w hw; go_simp; (try go_bits); exact Yld.mk _ _)
            simp only [Act.put, Act.eval, List.setIfInBounds_toArray, List.set_cons_zero, List.set_cons_succ, Array.getD_eq_getD_getElem?, List.getElem?_toArray, List.getElem?_cons_zero, List.getElem?_cons_succ, Option.getD_some]
            apply rg_soft
            case hy => (intro w hw; go_simp; (try go_bits); exact Yld.mk _ _)
            simp only [Act.put, Act.eval, List.setIfInBounds_toArray, List.set_cons_zero, List.set_cons_succ, Array.getD_eq_getD_getElem?, List.getElem?_toArray, List.getElem?_cons_zero, List.getElem?_cons_succ, Option.getD_some]
            apply rg_soft
            case hy => (intro w hw; obtain ⟨hi0, hi1, hi2, hi3⟩ := hck.kn hw hlt (by simp); go_simp; (try go_bits); exact Yld.mk _ _)
            simp only [Act.put, Act.eval, List.setIfInBounds_toArray, List.set_cons_zero, List.set_cons_succ, Array.getD_eq_getD_getElem?, List.getElem?_toArray, List.getElem?_cons_zero, List.getElem?_cons_succ, Option.getD_some]
            apply rg_soft
            case hy => (intro w hw; go_simp; (try go_bits); exact Yld.mk _ _)
            simp only [Act.put, Act.eval, List.setIfInBounds_toArray, List.set_cons_zero, List.set_cons_succ, Array.getD_eq_getD_getElem?, List.getElem?_toArray, List.getElem?_cons_zero, List.getElem?_cons_succ, Option.getD_some]
            apply rg_softb
            case hy => (intro w hw; go_simp; (try go_bits); exact Yld.mk _ _)
            intro x h6
            cases x
            · (try simp only [decide_eq_true_eq, decide_eq_false_iff_not, Int.not_lt, Int.not_le, beq_iff_eq, beq_eq_false_iff_ne, bne_iff_ne, bne_eq_false_iff_eq, ne_eq, Bool.not_eq_true', Bool.not_eq_false'] at h6)
              simp only [Act.put, Act.eval, List.setIfInBounds_toArray, List.set_cons_zero, List.set_cons_succ, Array.getD_eq_getD_getElem?, List.getElem?_toArray, List.getElem?_cons_zero, List.getElem?_cons_succ, Option.getD_some]
              replace h6 := Lib.hid h6
              refine rg_assign ?_
              simp only [Act.put, Act.eval, List.setIfInBounds_toArray, List.set_cons_zero, List.set_cons_succ, Array.getD_eq_getD_getElem?, List.getElem?_toArray, List.getElem?_cons_zero, List.getElem?_cons_succ, Option.getD_some]
              refine rg_nil ?_
              refine ek_next ?_
              refine wk_cond_f rfl ?_
              refine wk_skip ?_
              refine ek_block ?_
              refine ek_block ?_
              refine ek_next ?_
              refine wk_region [0, 0, 0] rfl (by kernel_rfl) ?_
              simp only [List.zip_cons_cons, List.zip_nil_right]
              refine rg_move ?_
              simp only [Act.put, Act.eval, List.setIfInBounds_toArray, List.set_cons_zero, List.set_cons_succ, Array.getD_eq_getD_getElem?, List.getElem?_toArray, List.getElem?_cons_zero, List.getElem?_cons_succ, Option.getD_some]
              apply rg_soft
              case hy => (intro w hw; go_simp; (try go_bits); exact Yld.mk _ _)
              simp only [Act.put, Act.eval, List.setIfInBounds_toArray, List.set_cons_zero, List.set_cons_succ, Array.getD_eq_getD_getElem?, List.getElem?_toArray, List.getElem?_cons_zero, List.getElem?_cons_succ, Option.getD_some]
              refine rg_assign ?_
              simp only [Act.put, Act.eval, List.setIfInBounds_toArray, List.set_cons_zero, List.set_cons_succ, Array.getD_eq_getD_getElem?, List.getElem?_toArray, List.getElem?_cons_zero, List.getElem?_cons_succ, Option.getD_some]
              refine rg_nil ?_
              try rw [pos_miss h5.out h6.out]
              refine ek_roundS (xs.length - (j + 1)) (by omega) (by kernel_rfl) ?_
              dsimp only [Act.vals, List.map, Array.getD, List.size_toArray, List.length_cons, List.length_nil, Nat.reduceAdd, Nat.reduceLT, ↓reduceDIte, Array.getInternal, List.getElem_toArray, List.getElem_cons_zero, List.getElem_cons_succ]
              exact ⟨j + 1, _, _, _, _, _, _, _, _, _, _, _, _, _, _, _, _, _, _, _, _, _, _, _, _, _, _, _, _, _, _, _, _, _, _, _, _, _, _, _, _, _, _, by rfl, by rfl, by rfl, by omega, fun i hi => if e : i = j then e ▸ hk3.out else hd2 i (by omega)⟩
            · (try simp only [decide_eq_true_eq, decide_eq_false_iff_not, Int.not_lt, Int.not_le, beq_iff_eq, beq_eq_false_iff_ne, bne_iff_ne, bne_eq_false_iff_eq, ne_eq, Bool.not_eq_true', Bool.not_eq_false'] at h6)
              simp only [Act.put, Act.eval, List.setIfInBounds_toArray, List.set_cons_zero, List.set_cons_succ, Array.getD_eq_getD_getElem?, List.getElem?_toArray, List.getElem?_cons_zero, List.getElem?_cons_succ, Option.getD_some]
              replace h6 := Lib.hid h6
              refine rg_assign ?_
              simp only [Act.put, Act.eval, List.setIfInBounds_toArray, List.set_cons_zero, List.set_cons_succ, Array.getD_eq_getD_getElem?, List.getElem?_toArray, List.getElem?_cons_zero, List.getElem?_cons_succ, Option.getD_some]
              refine rg_nil ?_
              refine ek_next ?_
              refine wk_cond_t rfl ?_
              refine wk_region [0, 0, 0, 0, 0, 0] rfl (by kernel_rfl) ?_
              simp only [List.zip_cons_cons, List.zip_nil_right]
              refine rg_move ?_
              simp only [Act.put, Act.eval, List.setIfInBounds_toArray, List.set_cons_zero, List.set_cons_succ, Array.getD_eq_getD_getElem?, List.getElem?_toArray, List.getElem?_cons_zero, List.getElem?_cons_succ, Option.getD_some]
              refine rg_move ?_
              simp only [Act.put, Act.eval, List.setIfInBounds_toArray, List.set_cons_zero, List.set_cons_succ, Array.getD_eq_getD_getElem?, List.getElem?_toArray, List.getElem?_cons_zero, List.getElem?_cons_succ, Option.getD_some]
              apply rg_soft
              case hy => (intro w hw; go_simp; (try go_bits); exact Yld.mk _ _)
              simp only [Act.put, Act.eval, List.setIfInBounds_toArray, List.set_cons_zero, List.set_cons_succ, Array.getD_eq_getD_getElem?, List.getElem?_toArray, List.getElem?_cons_zero, List.getElem?_cons_succ, Option.getD_some]
              apply rg_soft
              case hy => (intro w hw; go_simp; (try go_bits); exact Yld.mk _ _)
              simp only [Act.put, Act.eval, List.setIfInBounds_toArray, List.set_cons_zero, List.set_cons_succ, Array.getD_eq_getD_getElem?, List.getElem?_toArray, List.getElem?_cons_zero, List.getElem?_cons_succ, Option.getD_some]
              apply rg_soft
              case hy => (intro w hw; obtain ⟨hi0, hi1, hi2, hi3⟩ := hck.kn hw hlt (by simp); go_simp; (try go_bits); exact Yld.mk _ _)
              simp only [Act.put, Act.eval, List.setIfInBounds_toArray, List.set_cons_zero, List.set_cons_succ, Array.getD_eq_getD_getElem?, List.getElem?_toArray, List.getElem?_cons_zero, List.getElem?_cons_succ, Option.getD_some]
              refine rg_assign ?_
              simp only [Act.put, Act.eval, List.setIfInBounds_toArray, List.set_cons_zero, List.set_cons_succ, Array.getD_eq_getD_getElem?, List.getElem?_toArray, List.getElem?_cons_zero, List.getElem?_cons_succ, Option.getD_some]
              refine rg_nil ?_
              refine ek_block ?_
              refine ek_block ?_
              refine ek_next ?_
              refine wk_region [0, 0, 0] rfl (by kernel_rfl) ?_
              simp only [List.zip_cons_cons, List.zip_nil_right]
              refine rg_move ?_
              simp only [Act.put, Act.eval, List.setIfInBounds_toArray, List.set_cons_zero, List.set_cons_succ, Array.getD_eq_getD_getElem?, List.getElem?_toArray, List.getElem?_cons_zero, List.getElem?_cons_succ, Option.getD_some]
              apply rg_soft
              case hy => (intro w hw; go_simp; (try go_bits); exact Yld.mk _ _)
              simp only [Act.put, Act.eval, List.setIfInBounds_toArray, List.set_cons_zero, List.set_cons_succ, Array.getD_eq_getD_getElem?, List.getElem?_toArray, List.getElem?_cons_zero, List.getElem?_cons_succ, Option.getD_some]
              refine rg_assign ?_
              simp only [Act.put, Act.eval, List.setIfInBounds_toArray, List.set_cons_zero, List.set_cons_succ, Array.getD_eq_getD_getElem?, List.getElem?_toArray, List.getElem?_cons_zero, List.getElem?_cons_succ, Option.getD_some]
              refine rg_nil ?_
              try rw [pos_hit2 h5.out h6.out]
              refine ek_roundS (xs.length - (j + 1)) (by omega) (by kernel_rfl) ?_
              dsimp only [Act.vals, List.map, Array.getD, List.size_toArray, List.length_cons, List.length_nil, Nat.reduceAdd, Nat.reduceLT, ↓reduceDIte, Array.getInternal, List.getElem_toArray, List.getElem_cons_zero, List.getElem_cons_succ]
              exact ⟨j + 1, _, _, _, _, _, _, _, _, _, _, _, _, _, _, _, _, _, _, _, _, _, _, _, _, _, _, _, _, _, _, _, _, _, _, _, _, _, _, _, _, _, _, by rfl, by rfl, by rfl, by omega, fun i hi => if e : i = j then e ▸ hk3.out else hd2 i (by omega)⟩
          · (try simp only [decide_eq_true_eq, decide_eq_false_iff_not, Int.not_lt, Int.not_le, beq_iff_eq, beq_eq_false_iff_ne, bne_iff_ne, bne_eq_false_iff_eq, ne_eq, Bool.not_eq_true', Bool.not_eq_false'] at h5)
            simp only [Act.put, Act.eval, List.setIfInBounds_toArray, List.set_cons_zero, List.set_cons_succ, Array.getD_eq_getD_getElem?, List.getElem?_toArray, List.getElem?_cons_zero, List.getElem?_cons_succ, Option.getD_some]
            replace h5 := Lib.hid h5
            refine rg_assign ?_
            simp only [Act.put, Act.eval, List.setIfInBounds_toArray, List.set_cons_zero, List.set_cons_succ, Array.getD_eq_getD_getElem?, List.getElem?_toArray, List.getElem?_cons_zero, List.getElem?_cons_succ, Option.getD_some]
            refine rg_nil ?_
            refine ek_next ?_
            refine wk_cond_t rfl ?_
            refine wk_region [0, 0, 0, 0, 0, 0, 0] rfl (by kernel_rfl) ?_
            simp only [List.zip_cons_cons, List.zip_nil_right]
            refine rg_move ?_
            simp only [Act.put, Act.eval, List.setIfInBounds_toArray, List.set_cons_zero, List.set_cons_succ, Array.getD_eq_getD_getElem?, List.getElem?_toArray, List.getElem?_cons_zero, List.getElem?_cons_succ, Option.getD_some]
            refine rg_move ?_
            simp only [Act.put, Act.eval, List.setIfInBounds_toArray, List.set_cons_zero, List.set_cons_succ, Array.getD_eq_getD_getElem?, List.getElem?_toArray, List.getElem?_cons_zero, List.getElem?_cons_succ, Option.getD_some]
            apply rg_soft
            case hy => (intro w hw; go_simp; (try go_bits); exact Yld.mk _ _)
            simp only [Act.put, Act.eval, List.setIfInBounds_toArray, List.set_cons_zero, List.set_cons_succ, Array.getD_eq_getD_getElem?, List.getElem?_toArray, List.getElem?_cons_zero, List.getElem?_cons_succ, Option.getD_some]
            apply rg_soft
            case hy => (intro w hw; go_simp; (try go_bits); exact Yld.mk _ _)
            simp only [Act.put, Act.eval, List.setIfInBounds_toArray, List.set_cons_zero, List.set_cons_succ, Array.getD_eq_getD_getElem?, List.getElem?_toArray, List.getElem?_cons_zero, List.getElem?_cons_succ, Option.getD_some]
            apply rg_soft
            case hy => (intro w hw; obtain ⟨hi0, hi1, hi2, hi3⟩ := hck.kn hw hlt (by simp); go_simp; (try go_bits); exact Yld.mk _ _)
            simp only [Act.put, Act.eval, List.setIfInBounds_toArray, List.set_cons_zero, List.set_cons_succ, Array.getD_eq_getD_getElem?, List.getElem?_toArray, List.getElem?_cons_zero, List.getElem?_cons_succ, Option.getD_some]
            apply rg_soft
            case hy => (intro w hw; go_simp; (try go_bits); exact Yld.mk _ _)
            simp only [Act.put, Act.eval, List.setIfInBounds_toArray, List.set_cons_zero, List.set_cons_succ, Array.getD_eq_getD_getElem?, List.getElem?_toArray, List.getElem?_cons_zero, List.getElem?_cons_succ, Option.getD_some]
            refine rg_assign ?_
            simp only [Act.put, Act.eval, List.setIfInBounds_toArray, List.set_cons_zero, List.set_cons_succ, Array.getD_eq_getD_getElem?, List.getElem?_toArray, List.getElem?_cons_zero, List.getElem?_cons_succ, Option.getD_some]
            refine rg_nil ?_
            refine ek_block ?_
            refine ek_block ?_
            refine ek_next ?_
            refine wk_region [0, 0, 0] rfl (by kernel_rfl) ?_
            simp only [List.zip_cons_cons, List.zip_nil_right]
            refine rg_move ?_
            simp only [Act.put, Act.eval, List.setIfInBounds_toArray, List.set_cons_zero, List.set_cons_succ, Array.getD_eq_getD_getElem?, List.getElem?_toArray, List.getElem?_cons_zero, List.getElem?_cons_succ, Option.getD_some]
            apply rg_soft
            case hy => (intro w hw; go_simp; (try go_bits); exact Yld.mk _ _)
            simp only [Act.put, Act.eval, List.setIfInBounds_toArray, List.set_cons_zero, List.set_cons_succ, Array.getD_eq_getD_getElem?, List.getElem?_toArray, List.getElem?_cons_zero, List.getElem?_cons_succ, Option.getD_some]
            refine rg_assign ?_
            simp only [Act.put, Act.eval, List.setIfInBounds_toArray, List.set_cons_zero, List.set_cons_succ, Array.getD_eq_getD_getElem?, List.getElem?_toArray, List.getElem?_cons_zero, List.getElem?_cons_succ, Option.getD_some]
            refine rg_nil ?_
            try rw [pos_hit h5.out]
            refine ek_roundS (xs.length - (j + 1)) (by omega) (by kernel_rfl) ?_
            dsimp only [Act.vals, List.map, Array.getD, List.size_toArray, List.length_cons, List.length_nil, Nat.reduceAdd, Nat.reduceLT, ↓reduceDIte, Array.getInternal, List.getElem_toArray, List.getElem_cons_zero, List.getElem_cons_succ]
            exact ⟨j + 1, _, _, _, _, _, _, _, _, _, _, _, _, _, _, _, _, _, _, _, _, _, _, _, _, _, _, _, _, _, _, _, _, _, _, _, _, _, _, _, _, _, _, by rfl, by rfl, by rfl, by omega, fun i hi => if e : i = j then e ▸ hk3.out else hd2 i (by omega)⟩
        · (try simp only [decide_eq_true_eq, decide_eq_false_iff_not, Int.not_lt, Int.not_le, beq_iff_eq, beq_eq_false_iff_ne, bne_iff_ne, bne_eq_false_iff_eq, ne_eq, Bool.not_eq_true', Bool.not_eq_false'] at h4)
          simp only [Act.put, Act.eval, List.setIfInBounds_toArray, List.set_cons_zero, List.set_cons_succ, Array.getD_eq_getD_getElem?, List.getElem?_toArray, List.getElem?_cons_zero, List.getElem?_cons_succ, Option.getD_some]
          refine rg_nil ?_
          refine ek_next ?_
          refine wk_cond_t rfl ?_
          refine wk_seq ?_
          refine wk_region [0, 0, 0] rfl (by kernel_rfl) ?_
          simp only [List.zip_cons_cons, List.zip_nil_right]
          refine rg_assign ?_
          simp only [Act.put, Act.eval, List.setIfInBounds_toArray, List.set_cons_zero, List.set_cons_succ, Array.getD_eq_getD_getElem?, List.getElem?_toArray, List.getElem?_cons_zero, List.getElem?_cons_succ, Option.getD_some]
          refine rg_assign ?_
          simp only [Act.put, Act.eval, List.setIfInBounds_toArray, List.set_cons_zero, List.set_cons_succ, Array.getD_eq_getD_getElem?, List.getElem?_toArray, List.getElem?_cons_zero, List.getElem?_cons_succ, Option.getD_some]
          refine rg_assign ?_
          simp only [Act.put, Act.eval, List.setIfInBounds_toArray, List.set_cons_zero, List.set_cons_succ, Array.getD_eq_getD_getElem?, List.getElem?_toArray, List.getElem?_cons_zero, List.getElem?_cons_succ, Option.getD_some]
          refine rg_nil ?_
          refine ek_next ?_
          refine wk_ret ?_
          refine ek_then_ret ?_
          refine ek_block_ret ?_
          refine ek_then_ret ?_
          refine ek_then_ret ?_
          refine ek_block_ret ?_
          refine ek_then_ret ?_
          refine ek_block_ret ?_
          refine ek_then_ret ?_
          refine ek_then_ret ?_
          refine ek_block_ret ?_
          refine ek_then_ret ?_
          refine ek_ret (fun w hw => ⟨rfl, _, res_ttt _ _ _ rfl, ?_⟩)
          (try simp only [Act.put, Act.eval, List.setIfInBounds_toArray, List.set_cons_zero, List.set_cons_succ, Array.getD_eq_getD_getElem?, List.getElem?_toArray, List.getElem?_cons_zero, List.getElem?_cons_succ, Option.getD_some])
          exact ⟨.slice none 0 0, [], [], (by simp only [isP_no (by omega : j < xs.length) h4, hE.out]), .nil, (by rw [permZ_bad (isP_no (by omega : j < xs.length) h4)]), hw.made (by simp)⟩
  · (try simp only [decide_eq_true_eq, decide_eq_false_iff_not, Int.not_lt, Int.not_le, beq_iff_eq, beq_eq_false_iff_ne, bne_iff_ne, bne_eq_false_iff_eq, ne_eq, Bool.not_eq_true', Bool.not_eq_false'] at h1)
    simp only [Act.put, Act.eval, List.setIfInBounds_toArray, List.set_cons_zero, List.set_cons_succ, Array.getD_eq_getD_getElem?, List.getElem?_toArray, List.getElem?_cons_zero, List.getElem?_cons_succ, Option.getD_some]
    refine rg_nil ?_
    refine ek_next ?_
    refine wk_cond_t rfl ?_
    refine wk_seq ?_
    refine wk_region [0, 0, 0, 0] rfl (by kernel_rfl) ?_
    simp only [List.zip_cons_cons, List.zip_nil_right]
    refine rg_move ?_
    simp only [Act.put, Act.eval, List.setIfInBounds_toArray, List.set_cons_zero, List.set_cons_succ, Array.getD_eq_getD_getElem?, List.getElem?_toArray, List.getElem?_cons_zero, List.getElem?_cons_succ, Option.getD_some]
    refine rg_assign ?_
    simp only [Act.put, Act.eval, List.setIfInBounds_toArray, List.set_cons_zero, List.set_cons_succ, Array.getD_eq_getD_getElem?, List.getElem?_toArray, List.getElem?_cons_zero, List.getElem?_cons_succ, Option.getD_some]
    refine rg_assign ?_
    simp only [Act.put, Act.eval, List.setIfInBounds_toArray, List.set_cons_zero, List.set_cons_succ, Array.getD_eq_getD_getElem?, List.getElem?_toArray, List.getElem?_cons_zero, List.getElem?_cons_succ, Option.getD_some]
    refine rg_assign ?_
    simp only [Act.put, Act.eval, List.setIfInBounds_toArray, List.set_cons_zero, List.set_cons_succ, Array.getD_eq_getD_getElem?, List.getElem?_toArray, List.getElem?_cons_zero, List.getElem?_cons_succ, Option.getD_some]
    refine rg_nil ?_
    refine ek_next ?_
    refine wk_ret ?_
    refine ek_then_ret ?_
    refine ek_ret (fun w hw => ⟨rfl, _, res_ttt _ _ _ rfl, ?_⟩)
    (try simp only [Act.put, Act.eval, List.setIfInBounds_toArray, List.set_cons_zero, List.set_cons_succ, Array.getD_eq_getD_getElem?, List.getElem?_toArray, List.getElem?_cons_zero, List.getElem?_cons_succ, Option.getD_some])
    exact ⟨.slice none 0 0, [], [], (by simp only [itemE_bad h1]), .nil, (by rw [permZ_bad (itemE_bad h1)]), hw.made (by simp)⟩

end Go.Proofs.Ytccbinnlnkpplaa
