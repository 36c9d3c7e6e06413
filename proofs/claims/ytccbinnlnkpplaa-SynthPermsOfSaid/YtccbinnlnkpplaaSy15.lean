/- The permutation that items make: synth. -/
import Derived.Test.YtccbinnlnkpplaaSyPf
namespace Go.Proofs.Ytccbinnlnkpplaa
set_option linter.all false
open Go.RowKit

def crossB (xs : List It) : Bool := xs.all fun i => decide (i.kind = 3)
def isP (n : Int) (xs : List It) : Bool := validB n xs && crossB xs
def permZ (n : Int) (xs : List It) : List Int := if isP n xs = true then invL (atTo n.toNat xs xs.length) else []
theorem itemE_valid {n : Int} {xs : List It} (h : itemE n xs = 0) : validB n xs = true := by
  unfold itemE at h
  split at h
  · split at h
    · assumption
    · cases h
  · cases h
theorem itemE_bad {n : Int} {xs : List It} (h : ¬ itemE n xs = 0) : isP n xs = false := by
  unfold isP
  cases hv : validB n xs
  · rfl
  · refine absurd ?_ h
    obtain ⟨h1, h2, _⟩ := validB_all hv
    unfold itemE
    rw [if_pos ⟨h1, h2⟩, if_pos hv]
theorem permZ_bad {n : Int} {xs : List It} (h : isP n xs = false) : permZ n xs = [] := by unfold permZ; rw [h]; rfl
theorem isP_no {n : Int} {xs : List It} {k : Nat} (hk : k < xs.length) (h : (it xs k).kind ≠ 3) : isP n xs = false := by
  unfold isP crossB; rw [not_all_it hk (decide_eq_false h)]; exact Bool.and_false _
theorem isP_ok {n : Int} {xs : List It} (hv : validB n xs = true) (h : ∀ j, j < xs.length → (it xs j).kind = 3) : isP n xs = true := by
  unfold isP crossB; rw [hv, all_it (fun j hj => decide_eq_true (h j hj))]; rfl
theorem permZ_ok {n : Int} {m : Nat} {xs : List It} (hn : n = m) (h : isP n xs = true) : permZ n xs = invL (atTo m xs xs.length) := by
  unfold permZ; rw [if_pos h]; subst hn; rfl
theorem as_row {w : World} {g e : Nat} {zs : List Int} {rest : List Value} (h : Hd w g e (ints zs ++ rest).toArray) : AS w (some ⟨g, 0, none⟩) (ints zs) := fun _ => ⟨g, 0, rfl, h.lt, fun j hj => by
  rw [Nat.zero_add, h.cell, List.getElem?_toArray, List.getElem?_append_left hj]⟩
theorem row_nil (zs : List Int) : (ints zs).toArray = (ints zs ++ []).toArray := by rw [List.append_nil]

set_option maxRecDepth 100000 in
set_option maxHeartbeats 2000000 in
theorem permOfS (xs : List It) (a : Option Addr) (c : Nat) (n : Int) (w : World) (hA : AS w a (its xs)) : Calls Try.prog 21 #[.int .i64 n, slV a xs.length c] w fun e w' => RetI w (fun v => .tuple #[v, .bool (isP n xs), .int .i64 (itemE n xs)]) (fun zs => zs = permZ n xs) e w' := by
  go_enter Try.func21, Try.ntmps21
  refine wk_start ?_
  refine wk_seq ?_
  refine wk_region [0, 0, 0] rfl (by kernel_rfl) ?_
  simp only [List.zip_cons_cons, List.zip_nil_right]
  refine rg_assign ?_
  simp only [Act.put, Act.eval, List.setIfInBounds_toArray, List.set_cons_zero, List.set_cons_succ, Array.getD_eq_getD_getElem?, List.getElem?_toArray, List.getElem?_cons_zero, List.getElem?_cons_succ, Option.getD_some]
  refine rg_assign ?_
  simp only [Act.put, Act.eval, List.setIfInBounds_toArray, List.set_cons_zero, List.set_cons_succ, Array.getD_eq_getD_getElem?, List.getElem?_toArray, List.getElem?_cons_zero, List.getElem?_cons_succ, Option.getD_some]
  refine rg_assign ?_
  simp only [Act.put, Act.eval, List.setIfInBounds_toArray, List.set_cons_zero, List.set_cons_succ, Array.getD_eq_getD_getElem?, List.getElem?_toArray, List.getElem?_cons_zero, List.getElem?_cons_succ, Option.getD_some]
  refine rg_nil ?_
  refine ek_next ?_
  refine wk_seq ?_
  refine wk_seq ?_
  refine wk_region [0, 0, 1, 0] rfl (by kernel_rfl) ?_
  simp only [List.zip_cons_cons, List.zip_nil_right]
  refine rg_move ?_
  simp only [Act.put, Act.eval, List.setIfInBounds_toArray, List.set_cons_zero, List.set_cons_succ, Array.getD_eq_getD_getElem?, List.getElem?_toArray, List.getElem?_cons_zero, List.getElem?_cons_succ, Option.getD_some]
  refine rg_move ?_
  simp only [Act.put, Act.eval, List.setIfInBounds_toArray, List.set_cons_zero, List.set_cons_succ, Array.getD_eq_getD_getElem?, List.getElem?_toArray, List.getElem?_cons_zero, List.getElem?_cons_succ, Option.getD_some]
  apply rg_pure (by rfl) (by kernel_rfl)
  case hargs => (simp only [List.map_toArray, List.map_cons, List.map_nil, Act.eval, Array.getD_eq_getD_getElem?, List.getElem?_toArray, List.getElem?_cons_zero, List.getElem?_cons_succ, Option.getD_some]; exact rfl)
  case h => exact fun w hw => check_any xs a c n w (hA.kn0 hw)
  case hz => exact (fun _ h => by cases h)
  simp only [Act.put, Act.eval, List.setIfInBounds_toArray, List.set_cons_zero, List.set_cons_succ, Array.getD_eq_getD_getElem?, List.getElem?_toArray, List.getElem?_cons_zero, List.getElem?_cons_succ, Option.getD_some]
  refine rg_assign ?_
  simp only [Act.put, Act.eval, List.setIfInBounds_toArray, List.set_cons_zero, List.set_cons_succ, Array.getD_eq_getD_getElem?, List.getElem?_toArray, List.getElem?_cons_zero, List.getElem?_cons_succ, Option.getD_some]
  refine rg_nil ?_
  refine ek_next ?_
  refine wk_seq ?_
  refine wk_region [0, 0] rfl (by kernel_rfl) ?_
  simp only [List.zip_cons_cons, List.zip_nil_right]
  refine rg_move ?_
  simp only [Act.put, Act.eval, List.setIfInBounds_toArray, List.set_cons_zero, List.set_cons_succ, Array.getD_eq_getD_getElem?, List.getElem?_toArray, List.getElem?_cons_zero, List.getElem?_cons_succ, Option.getD_some]
  apply rg_softb
  case hy => (intro w hw; go_simp; (try go_bits); exact Yld.mk _ _)
  intro x h1
  cases x
  · (try simp only [decide_eq_true_eq, decide_eq_false_iff_not, Int.not_lt, Int.not_le, beq_iff_eq, beq_eq_false_iff_ne, bne_iff_ne, bne_eq_false_iff_eq, ne_eq, Bool.not_eq_true', Bool.not_eq_false'] at h1)
    simp only [Act.put, Act.eval, List.setIfInBounds_toArray, List.set_cons_zero, List.set_cons_succ, Array.getD_eq_getD_getElem?, List.getElem?_toArray, List.getElem?_cons_zero, List.getElem?_cons_succ, Option.getD_some]
    have hv := Lib.hid (itemE_valid h1)
    have hE := Lib.hid h1
    clear h1
    obtain ⟨hn1, hn2, hlen5, hfit⟩ := validB_all hv.out
    obtain ⟨m, rfl⟩ : ∃ m : Nat, n = m := ⟨n.toNat, by omega⟩
    refine rg_nil ?_
    refine ek_next ?_
    refine wk_cond_f rfl ?_
    refine wk_skip ?_
    refine ek_next ?_
    refine wk_seq ?_
    refine wk_region [0, 1, 0] rfl (by kernel_rfl) ?_
    simp only [List.zip_cons_cons, List.zip_nil_right]
    refine rg_move ?_
    simp only [Act.put, Act.eval, List.setIfInBounds_toArray, List.set_cons_zero, List.set_cons_succ, Array.getD_eq_getD_getElem?, List.getElem?_toArray, List.getElem?_cons_zero, List.getElem?_cons_succ, Option.getD_some]
    refine rg_makeI (n := m) (by rfl) rfl rfl (by omega) (fun _ h => by cases h) (fun g1 => ?_)
    simp only [Act.put, Act.eval, List.setIfInBounds_toArray, List.set_cons_zero, List.set_cons_succ, Array.getD_eq_getD_getElem?, List.getElem?_toArray, List.getElem?_cons_zero, List.getElem?_cons_succ, Option.getD_some]
    refine rg_assign ?_
    simp only [Act.put, Act.eval, List.setIfInBounds_toArray, List.set_cons_zero, List.set_cons_succ, Array.getD_eq_getD_getElem?, List.getElem?_toArray, List.getElem?_cons_zero, List.getElem?_cons_succ, Option.getD_some]
    refine rg_nil ?_
    refine ek_next ?_
    refine wk_seq ?_
    refine wk_seq ?_
    refine wk_region [0, 0, 0] rfl (by kernel_rfl) ?_
    simp only [List.zip_cons_cons, List.zip_nil_right]
    refine rg_move ?_
    simp only [Act.put, Act.eval, List.setIfInBounds_toArray, List.set_cons_zero, List.set_cons_succ, Array.getD_eq_getD_getElem?, List.getElem?_toArray, List.getElem?_cons_zero, List.getElem?_cons_succ, Option.getD_some]
    apply rg_soft
    case hy => (intro w hw; go_simp; (try go_bits); exact Yld.mk _ _)
    simp only [Act.put, Act.eval, List.setIfInBounds_toArray, List.set_cons_zero, List.set_cons_succ, Array.getD_eq_getD_getElem?, List.getElem?_toArray, List.getElem?_cons_zero, List.getElem?_cons_succ, Option.getD_some]
    refine rg_move ?_
    simp only [Act.put, Act.eval, List.setIfInBounds_toArray, List.set_cons_zero, List.set_cons_succ, Array.getD_eq_getD_getElem?, List.getElem?_toArray, List.getElem?_cons_zero, List.getElem?_cons_succ, Option.getD_some]
    refine rg_nil ?_
    refine ek_next ?_
    refine wk_block ?_
    refine wk_loopS [9, 22, 23, 24, 25, 26, 27, 28, 29] (fun mz vs s => ∃ (k : Nat) (j9 j23 j24 j25 j26 j27 j28 j29 : Value), vs = [j9, .int .i64 k, j23, j24, j25, j26, j27, j28, j29] ∧ s = ((g1, .cells (ints (idTo m k)).toArray 3) :: []) ∧ mz = m - k ∧ k ≤ m) ((fun (k : Nat) => m - k) (0)) ?_ (by kernel_rfl) ?_
    · dsimp only [Act.vals, List.map, Array.getD, List.size_toArray, List.length_cons, List.length_nil, Nat.reduceAdd, Nat.reduceLT, ↓reduceDIte, Array.getInternal, List.getElem_toArray, List.getElem_cons_zero, List.getElem_cons_succ]
      exact ⟨0, _, _, _, _, _, _, _, _, rfl, rfl, rfl, by omega⟩
    rintro mz vs s ⟨k, j9, j23, j24, j25, j26, j27, j28, j29, rfl, rfl, hn, hb1⟩
    simp only [Act.puts, Act.vals, List.zip_cons_cons, List.zip_nil_right, List.foldl_cons, List.foldl_nil, List.map_cons, List.map_nil, Act.put, Act.eval, List.setIfInBounds_toArray, List.set_cons_zero, List.set_cons_succ, Array.getD_eq_getD_getElem?, List.getElem?_toArray, List.getElem?_cons_zero, List.getElem?_cons_succ, Option.getD_some]
    refine wk_seq ?_
    refine wk_region [0] rfl (by kernel_rfl) ?_
    simp only [List.zip_cons_cons, List.zip_nil_right]
    apply rg_softb
    case hy => (intro w hw; go_simp; (try go_bits); exact Yld.mk _ _)
    intro x h2
    cases x
    · (try simp only [decide_eq_true_eq, decide_eq_false_iff_not, Int.not_lt, Int.not_le, beq_iff_eq, beq_eq_false_iff_ne, bne_iff_ne, bne_eq_false_iff_eq, ne_eq, Bool.not_eq_true', Bool.not_eq_false'] at h2)
      simp only [Act.put, Act.eval, List.setIfInBounds_toArray, List.set_cons_zero, List.set_cons_succ, Array.getD_eq_getD_getElem?, List.getElem?_toArray, List.getElem?_cons_zero, List.getElem?_cons_succ, Option.getD_some]
      obtain rfl : m = k := by omega
      rw [row_nil]
      refine rg_nil ?_
      refine ek_next ?_
      refine wk_seq ?_
      refine wk_cond_f rfl ?_
      refine wk_exit ?_
      refine ek_then_exit ?_
      refine ek_then_exit ?_
      refine ek_block_exit ?_
      refine ek_next ?_
      refine wk_seq ?_
      refine wk_seq ?_
      refine wk_region [0, 0, 0] rfl (by kernel_rfl) ?_
      simp only [List.zip_cons_cons, List.zip_nil_right]
      refine rg_move ?_
      simp only [Act.put, Act.eval, List.setIfInBounds_toArray, List.set_cons_zero, List.set_cons_succ, Array.getD_eq_getD_getElem?, List.getElem?_toArray, List.getElem?_cons_zero, List.getElem?_cons_succ, Option.getD_some]
      apply rg_soft
      case hy => (intro w hw; go_simp; (try go_bits); exact Yld.mk _ _)
      simp only [Act.put, Act.eval, List.setIfInBounds_toArray, List.set_cons_zero, List.set_cons_succ, Array.getD_eq_getD_getElem?, List.getElem?_toArray, List.getElem?_cons_zero, List.getElem?_cons_succ, Option.getD_some]
      refine rg_move ?_
      simp only [Act.put, Act.eval, List.setIfInBounds_toArray, List.set_cons_zero, List.set_cons_succ, Array.getD_eq_getD_getElem?, List.getElem?_toArray, List.getElem?_cons_zero, List.getElem?_cons_succ, Option.getD_some]
      refine rg_nil ?_
      refine ek_next ?_
      refine wk_block ?_
      refine wk_loopS [4, 5, 6, 11, 32, 33, 34, 35, 36, 37, 38, 39, 40, 41, 42, 43, 44, 45, 46, 47, 48, 49, 50, 51, 52, 53, 54, 55, 56, 57, 58, 59] (fun mz vs s => ∃ (k : Nat) (j4 j5 j6 j11 j33 j34 j35 j36 j37 j38 j39 j40 j41 j42 j43 j44 j45 j46 j47 j48 j49 j50 j51 j52 j53 j54 j55 j56 j57 j58 j59 : Value), vs = [j4, j5, j6, j11, .int .i64 k, j33, j34, j35, j36, j37, j38, j39, j40, j41, j42, j43, j44, j45, j46, j47, j48, j49, j50, j51, j52, j53, j54, j55, j56, j57, j58, j59] ∧ s = ((g1, .cells (ints (atTo m xs k) ++ []).toArray 3) :: []) ∧ mz = xs.length - k ∧ k ≤ xs.length ∧ ∀ j, j < k → (it xs j).kind = 3) ((fun (k : Nat) => xs.length - k) (0)) ?_ (by kernel_rfl) ?_
      · dsimp only [Act.vals, List.map, Array.getD, List.size_toArray, List.length_cons, List.length_nil, Nat.reduceAdd, Nat.reduceLT, ↓reduceDIte, Array.getInternal, List.getElem_toArray, List.getElem_cons_zero, List.getElem_cons_succ]
        exact ⟨0, _, _, _, _, _, _, _, _, _, _, _, _, _, _, _, _, _, _, _, _, _, _, _, _, _, _, _, _, _, _, _, rfl, rfl, rfl, by omega, fun i hi => by omega⟩
      rintro mz vs s ⟨k, j4, j5, j6, j11, j33, j34, j35, j36, j37, j38, j39, j40, j41, j42, j43, j44, j45, j46, j47, j48, j49, j50, j51, j52, j53, j54, j55, j56, j57, j58, j59, rfl, rfl, hn, hc1, hc2⟩
      simp only [Act.puts, Act.vals, List.zip_cons_cons, List.zip_nil_right, List.foldl_cons, List.foldl_nil, List.map_cons, List.map_nil, Act.put, Act.eval, List.setIfInBounds_toArray, List.set_cons_zero, List.set_cons_succ, Array.getD_eq_getD_getElem?, List.getElem?_toArray, List.getElem?_cons_zero, List.getElem?_cons_succ, Option.getD_some]
      refine wk_seq ?_
      refine wk_region [0] rfl (by kernel_rfl) ?_
      simp only [List.zip_cons_cons, List.zip_nil_right]
      apply rg_softb
      case hy => (intro w hw; go_simp; (try go_bits); exact Yld.mk _ _)
      intro x h3
      cases x
      · (try simp only [decide_eq_true_eq, decide_eq_false_iff_not, Int.not_lt, Int.not_le, beq_iff_eq, beq_eq_false_iff_ne, bne_iff_ne, bne_eq_false_iff_eq, ne_eq, Bool.not_eq_true', Bool.not_eq_false'] at h3)
        simp only [Act.put, Act.eval, List.setIfInBounds_toArray, List.set_cons_zero, List.set_cons_succ, Array.getD_eq_getD_getElem?, List.getElem?_toArray, List.getElem?_cons_zero, List.getElem?_cons_succ, Option.getD_some]
        have hkl : k = xs.length := by omega
        refine rg_nil ?_
        refine ek_next ?_
        refine wk_seq ?_
        refine wk_cond_f rfl ?_
        refine wk_exit ?_
        refine ek_then_exit ?_
        refine ek_then_exit ?_
        refine ek_block_exit ?_
        refine ek_next ?_
        refine wk_seq ?_
        refine wk_region [0, 1, 0, 0, 0] rfl (by kernel_rfl) ?_
        simp only [List.zip_cons_cons, List.zip_nil_right]
        refine rg_move ?_
        simp only [Act.put, Act.eval, List.setIfInBounds_toArray, List.set_cons_zero, List.set_cons_succ, Array.getD_eq_getD_getElem?, List.getElem?_toArray, List.getElem?_cons_zero, List.getElem?_cons_succ, Option.getD_some]
        apply rg_retI (by rfl) (by kernel_rfl)
        case hargs => (simp only [List.map_toArray, List.map_cons, List.map_nil, Act.eval, Array.getD_eq_getD_getElem?, List.getElem?_toArray, List.getElem?_cons_zero, List.getElem?_cons_succ, Option.getD_some]; exact rfl)
        case h => exact fun w hw => (by have h := invert_any (atTo m xs k) (some ⟨g1, 0, none⟩) m (by rw [atTo_len]; omega) (by subst hkl; exact atTo_perm (by omega) (by omega) _ (fun j hj => crs_of (hfit j hj) (hc2 j hj))) w (as_row (Kn.hd0 hw)); rw [atTo_len] at h; exact h)
        case hz => exact (fun _ h => by cases h)
        intro v2 u2 z2 hO2 hT2
        simp only [Act.put, Act.eval, List.setIfInBounds_toArray, List.set_cons_zero, List.set_cons_succ, Array.getD_eq_getD_getElem?, List.getElem?_toArray, List.getElem?_cons_zero, List.getElem?_cons_succ, Option.getD_some]
        refine rg_assign ?_
        simp only [Act.put, Act.eval, List.setIfInBounds_toArray, List.set_cons_zero, List.set_cons_succ, Array.getD_eq_getD_getElem?, List.getElem?_toArray, List.getElem?_cons_zero, List.getElem?_cons_succ, Option.getD_some]
        refine rg_assign ?_
        simp only [Act.put, Act.eval, List.setIfInBounds_toArray, List.set_cons_zero, List.set_cons_succ, Array.getD_eq_getD_getElem?, List.getElem?_toArray, List.getElem?_cons_zero, List.getElem?_cons_succ, Option.getD_some]
        refine rg_assign ?_
        simp only [Act.put, Act.eval, List.setIfInBounds_toArray, List.set_cons_zero, List.set_cons_succ, Array.getD_eq_getD_getElem?, List.getElem?_toArray, List.getElem?_cons_zero, List.getElem?_cons_succ, Option.getD_some]
        refine rg_nil ?_
        refine ek_next ?_
        refine wk_ret ?_
        refine ek_ret (fun w hw => ⟨rfl, _, res_ttt _ _ _ rfl, ?_⟩)
        (try simp only [Act.put, Act.eval, List.setIfInBounds_toArray, List.set_cons_zero, List.set_cons_succ, Array.getD_eq_getD_getElem?, List.getElem?_toArray, List.getElem?_cons_zero, List.getElem?_cons_succ, Option.getD_some])
        exact ⟨v2, u2, _, (by simp only [isP_ok hv.out (fun j hj => hc2 j (by omega)), hE.out]), hO2, (by rw [hT2, permZ_ok rfl (isP_ok hv.out (fun j hj => hc2 j (by omega))), hkl]), hw.made (by simp)⟩
      · (try simp only [decide_eq_true_eq, decide_eq_false_iff_not, Int.not_lt, Int.not_le, beq_iff_eq, beq_eq_false_iff_ne, bne_iff_ne, bne_eq_false_iff_eq, ne_eq, Bool.not_eq_true', Bool.not_eq_false'] at h3)
        simp only [Act.put, Act.eval, List.setIfInBounds_toArray, List.set_cons_zero, List.set_cons_succ, Array.getD_eq_getD_getElem?, List.getElem?_toArray, List.getElem?_cons_zero, List.getElem?_cons_succ, Option.getD_some]
        obtain ⟨b, off, rfl, hlt, hcell⟩ := AS.openT hA (by omega)
        have hck := hcell k (by omega)
        refine rg_nil ?_
        refine ek_next ?_
        refine wk_seq ?_
        refine wk_cond_t rfl ?_
        refine wk_skip ?_
        refine ek_next ?_
        refine wk_seq ?_
        refine wk_block ?_
        refine wk_seq ?_
        refine wk_region [0, 0, 1, 1] rfl (by kernel_rfl) ?_
        simp only [List.zip_cons_cons, List.zip_nil_right]
        apply rg_soft
        case hy => (intro w hw; go_simp; (try go_bits); exact Yld.mk _ _)
        simp only [Act.put, Act.eval, List.setIfInBounds_toArray, List.set_cons_zero, List.set_cons_succ, Array.getD_eq_getD_getElem?, List.getElem?_toArray, List.getElem?_cons_zero, List.getElem?_cons_succ, Option.getD_some]
        apply rg_soft
        case hy => (intro w hw; obtain ⟨hi0, hi1, hi2, hi3⟩ := hck.kn hw hlt (by simp); go_simp; (try go_bits); exact Yld.mk _ _)
        simp only [Act.put, Act.eval, List.setIfInBounds_toArray, List.set_cons_zero, List.set_cons_succ, Array.getD_eq_getD_getElem?, List.getElem?_toArray, List.getElem?_cons_zero, List.getElem?_cons_succ, Option.getD_some]
        refine rg_new (cs := ?_) (ty := ?_) (by rfl) (fun w => ?_) (fun _ h => by cases h) (fun g3 => ?_); rotate_left 2
        focus (go_simp; rfl)
        simp only [Act.put, Act.eval, List.setIfInBounds_toArray, List.set_cons_zero, List.set_cons_succ, Array.getD_eq_getD_getElem?, List.getElem?_toArray, List.getElem?_cons_zero, List.getElem?_cons_succ, Option.getD_some]
        apply rg_store
        case hr => (intro w hw; obtain ⟨hcg3, hfg3⟩ := (Kn.hd0 hw).facts; refine ⟨_, by (go_simp; (try go_bits); exact Dne.mk _), ?_⟩; repeat (first | with_reducible exact hw | with_reducible apply Kn.put (Upd.here _ _ _)))
        case hz => (intro z hz; cases hz)
        simp only [Act.put, Act.eval, List.setIfInBounds_toArray, List.set_cons_zero, List.set_cons_succ, Array.getD_eq_getD_getElem?, List.getElem?_toArray, List.getElem?_cons_zero, List.getElem?_cons_succ, Option.getD_some]
        refine rg_nil ?_
        refine ek_next ?_
        refine wk_seq ?_
        refine wk_seq ?_
        refine wk_region [0, 0, 0] rfl (by kernel_rfl) ?_
        simp only [List.zip_cons_cons, List.zip_nil_right]
        apply rg_soft
        case hy => (intro w hw; go_simp; (try go_bits); exact Yld.mk _ _)
        simp only [Act.put, Act.eval, List.setIfInBounds_toArray, List.set_cons_zero, List.set_cons_succ, Array.getD_eq_getD_getElem?, List.getElem?_toArray, List.getElem?_cons_zero, List.getElem?_cons_succ, Option.getD_some]
        apply rg_soft
        case hy => (intro w hw; obtain ⟨hcg3, hfg3⟩ := (Kn.hd0 hw).facts; go_simp; (try go_bits); exact Yld.mk _ _)
        simp only [Act.put, Act.eval, List.setIfInBounds_toArray, List.set_cons_zero, List.set_cons_succ, Array.getD_eq_getD_getElem?, List.getElem?_toArray, List.getElem?_cons_zero, List.getElem?_cons_succ, Option.getD_some]
        apply rg_softb
        case hy => (intro w hw; go_simp; (try go_bits); exact Yld.mk _ _)
        intro x h4
        cases x
        · (try simp only [decide_eq_true_eq, decide_eq_false_iff_not, Int.not_lt, Int.not_le, beq_iff_eq, beq_eq_false_iff_ne, bne_iff_ne, bne_eq_false_iff_eq, ne_eq, Bool.not_eq_true', Bool.not_eq_false'] at h4)
          simp only [Act.put, Act.eval, List.setIfInBounds_toArray, List.set_cons_zero, List.set_cons_succ, Array.getD_eq_getD_getElem?, List.getElem?_toArray, List.getElem?_cons_zero, List.getElem?_cons_succ, Option.getD_some]
          have hk3 := Lib.hid (show (it xs k).kind = 3 by omega)
          have hcr := crs_of (hfit k (by omega)) hk3.out
          unfold Crs at hcr
          clear h4
          obtain ⟨q, hq⟩ : ∃ q : Nat, (it xs k).at_ = (q : Int) + 1 := ⟨((it xs k).at_ - 1).toNat, by omega⟩
          simp only [hq]
          replace hq := Lib.hid hq
          have hcr1 : q + 1 < m := by (have := hq.out; omega)
          have hcr0 : q < m := by omega
          have hcr2 : (0 : Int) ≤ (q : Int) + 1 ∧ (q : Int) + 1 < (m : Int) := by omega
          clear hcr hck
          have hk1 : q + 1 < (atTo m xs k).length := by (rw [atTo_len]; omega)
          refine rg_nil ?_
          refine ek_next ?_
          refine wk_cond_f rfl ?_
          refine wk_skip ?_
          refine ek_next ?_
          refine wk_draws_m (hz1 := (List.Sublist.cons₂ _ (List.Sublist.cons _ List.Sublist.slnil))) [(0, 0), (1, 0), (2, 0), (3, 0), (4, 3), (5, 3), (6, 3), (7, 0), (8, 0), (9, 0), (10, 0), (11, 0), (12, 3), (13, 3), (14, 3), (15, 3), (16, 3), (17, 0), (18, 0), (19, 2), (20, 0), (21, 1)] 19 (by kernel_rfl) (by kernel_rfl) (fun c d v a w h => by cases d <;> exact h) ?_
          simp only [List.map_cons, List.map_nil, List.getD_cons_zero, List.getD_cons_succ]
          refine rg_move ?_
          simp only [Act.put, Act.eval, List.setIfInBounds_toArray, List.set_cons_zero, List.set_cons_succ, Array.getD_eq_getD_getElem?, List.getElem?_toArray, List.getElem?_cons_zero, List.getElem?_cons_succ, Option.getD_some]
          apply rg_soft
          case hy => (intro w hw; go_simp; (try go_bits); exact Yld.mk _ _)
          simp only [Act.put, Act.eval, List.setIfInBounds_toArray, List.set_cons_zero, List.set_cons_succ, Array.getD_eq_getD_getElem?, List.getElem?_toArray, List.getElem?_cons_zero, List.getElem?_cons_succ, Option.getD_some]
          apply rg_soft
          case hy => (intro w hw; obtain ⟨hcg3, hfg3⟩ := (Kn.hd0 hw).facts; go_simp; (try go_bits); exact Yld.mk _ _)
          simp only [Act.put, Act.eval, List.setIfInBounds_toArray, List.set_cons_zero, List.set_cons_succ, Array.getD_eq_getD_getElem?, List.getElem?_toArray, List.getElem?_cons_zero, List.getElem?_cons_succ, Option.getD_some]
          apply rg_soft
          case hy => (intro w hw; go_simp; (try go_bits); exact Yld.mk _ _)
          simp only [Act.put, Act.eval, List.setIfInBounds_toArray, List.set_cons_zero, List.set_cons_succ, Array.getD_eq_getD_getElem?, List.getElem?_toArray, List.getElem?_cons_zero, List.getElem?_cons_succ, Option.getD_some]
          refine rg_moveP ?_
          simp only [Act.put, Act.eval, List.setIfInBounds_toArray, List.set_cons_zero, List.set_cons_succ, Array.getD_eq_getD_getElem?, List.getElem?_toArray, List.getElem?_cons_zero, List.getElem?_cons_succ, Option.getD_some]
          apply rg_softP
          case hy => (intro w hw; go_simp; (try go_bits); exact Yld.mk _ _)
          simp only [Act.put, Act.eval, List.setIfInBounds_toArray, List.set_cons_zero, List.set_cons_succ, Array.getD_eq_getD_getElem?, List.getElem?_toArray, List.getElem?_cons_zero, List.getElem?_cons_succ, Option.getD_some]
          apply rg_softP
          case hy => (intro w hw; obtain ⟨hcg3, hfg3⟩ := (Kn.hd0 hw).facts; go_simp; (try go_bits); exact Yld.mk _ _)
          simp only [Act.put, Act.eval, List.setIfInBounds_toArray, List.set_cons_zero, List.set_cons_succ, Array.getD_eq_getD_getElem?, List.getElem?_toArray, List.getElem?_cons_zero, List.getElem?_cons_succ, Option.getD_some]
          refine rg_move ?_
          simp only [Act.put, Act.eval, List.setIfInBounds_toArray, List.set_cons_zero, List.set_cons_succ, Array.getD_eq_getD_getElem?, List.getElem?_toArray, List.getElem?_cons_zero, List.getElem?_cons_succ, Option.getD_some]
          apply rg_soft
          case hy => (intro w hw; go_simp; (try go_bits); exact Yld.mk _ _)
          simp only [Act.put, Act.eval, List.setIfInBounds_toArray, List.set_cons_zero, List.set_cons_succ, Array.getD_eq_getD_getElem?, List.getElem?_toArray, List.getElem?_cons_zero, List.getElem?_cons_succ, Option.getD_some]
          apply rg_soft
          case hy => (intro w hw; obtain ⟨hcg3, hfg3⟩ := (Kn.hd0 hw).facts; go_simp; (try go_bits); exact Yld.mk _ _)
          simp only [Act.put, Act.eval, List.setIfInBounds_toArray, List.set_cons_zero, List.set_cons_succ, Array.getD_eq_getD_getElem?, List.getElem?_toArray, List.getElem?_cons_zero, List.getElem?_cons_succ, Option.getD_some]
          apply rg_soft
          case hy => (intro w hw; go_simp; (try go_bits); exact Yld.mk _ _)
          simp only [Act.put, Act.eval, List.setIfInBounds_toArray, List.set_cons_zero, List.set_cons_succ, Array.getD_eq_getD_getElem?, List.getElem?_toArray, List.getElem?_cons_zero, List.getElem?_cons_succ, Option.getD_some]
          apply rg_soft
          case hy => (intro w hw; (first | have hcg := fun i (hi : i < (atTo m xs k).length) => row_cell (Kn.hd0 (Kn.tl hw)) hi | have hcg := fun i (hi : i < (atTo m xs k).length) => row_cell2 (Kn.hd0 (Kn.tl hw)) hi); have hfg := (Kn.hd0 (Kn.tl hw)).free; (try have hcg0 := hcg q (by omega)); (try have hcg1 := hcg (q + 1) (by omega)); clear hcg; go_simp; (try go_bits); exact Yld.mk _ _)
          simp only [Act.put, Act.eval, List.setIfInBounds_toArray, List.set_cons_zero, List.set_cons_succ, Array.getD_eq_getD_getElem?, List.getElem?_toArray, List.getElem?_cons_zero, List.getElem?_cons_succ, Option.getD_some]
          refine rg_moveP ?_
          simp only [Act.put, Act.eval, List.setIfInBounds_toArray, List.set_cons_zero, List.set_cons_succ, Array.getD_eq_getD_getElem?, List.getElem?_toArray, List.getElem?_cons_zero, List.getElem?_cons_succ, Option.getD_some]
          apply rg_softP
          case hy => (intro w hw; go_simp; (try go_bits); exact Yld.mk _ _)
          simp only [Act.put, Act.eval, List.setIfInBounds_toArray, List.set_cons_zero, List.set_cons_succ, Array.getD_eq_getD_getElem?, List.getElem?_toArray, List.getElem?_cons_zero, List.getElem?_cons_succ, Option.getD_some]
          apply rg_softP
          case hy => (intro w hw; obtain ⟨hcg3, hfg3⟩ := (Kn.hd0 hw).facts; go_simp; (try go_bits); exact Yld.mk _ _)
          simp only [Act.put, Act.eval, List.setIfInBounds_toArray, List.set_cons_zero, List.set_cons_succ, Array.getD_eq_getD_getElem?, List.getElem?_toArray, List.getElem?_cons_zero, List.getElem?_cons_succ, Option.getD_some]
          apply rg_softP
          case hy => (intro w hw; go_simp; (try go_bits); exact Yld.mk _ _)
          simp only [Act.put, Act.eval, List.setIfInBounds_toArray, List.set_cons_zero, List.set_cons_succ, Array.getD_eq_getD_getElem?, List.getElem?_toArray, List.getElem?_cons_zero, List.getElem?_cons_succ, Option.getD_some]
          apply rg_softP
          case hy => (intro w hw; go_simp; (try go_bits); exact Yld.mk _ _)
          simp only [Act.put, Act.eval, List.setIfInBounds_toArray, List.set_cons_zero, List.set_cons_succ, Array.getD_eq_getD_getElem?, List.getElem?_toArray, List.getElem?_cons_zero, List.getElem?_cons_succ, Option.getD_some]
          apply rg_soft
          case hy => (intro w hw; (first | have hcg := fun i (hi : i < (atTo m xs k).length) => row_cell (Kn.hd0 (Kn.tl hw)) hi | have hcg := fun i (hi : i < (atTo m xs k).length) => row_cell2 (Kn.hd0 (Kn.tl hw)) hi); have hfg := (Kn.hd0 (Kn.tl hw)).free; (try have hcg0 := hcg q (by omega)); (try have hcg1 := hcg (q + 1) (by omega)); clear hcg; go_simp; (try go_bits); exact Yld.mk _ _)
          simp only [Act.put, Act.eval, List.setIfInBounds_toArray, List.set_cons_zero, List.set_cons_succ, Array.getD_eq_getD_getElem?, List.getElem?_toArray, List.getElem?_cons_zero, List.getElem?_cons_succ, Option.getD_some]
          apply rg_soft
          case hy => (intro w hw; go_simp; (try go_bits); exact Yld.mk _ _)
          simp only [Act.put, Act.eval, List.setIfInBounds_toArray, List.set_cons_zero, List.set_cons_succ, Array.getD_eq_getD_getElem?, List.getElem?_toArray, List.getElem?_cons_zero, List.getElem?_cons_succ, Option.getD_some]
          apply rg_storeM
          case hr => (intro w hw; (first | have hcg := fun i (hi : i < (atTo m xs k).length) => row_cell (Kn.hd0 (Kn.tl hw)) hi | have hcg := fun i (hi : i < (atTo m xs k).length) => row_cell2 (Kn.hd0 (Kn.tl hw)) hi); have hfg := (Kn.hd0 (Kn.tl hw)).free; (try have hcg0 := hcg q (by omega)); (try have hcg1 := hcg (q + 1) (by omega)); clear hcg; refine ⟨_, by (go_simp; (try go_bits); exact Dne.mk _), ?_⟩; repeat (first | with_reducible exact hw | with_reducible apply Kn.put (Upd.there _ (Upd.here _ _ _))))
          case hz => exact (List.Sublist.cons₂ _ (List.Sublist.cons _ List.Sublist.slnil))
          simp only [Act.put, Act.eval, List.setIfInBounds_toArray, List.set_cons_zero, List.set_cons_succ, Array.getD_eq_getD_getElem?, List.getElem?_toArray, List.getElem?_cons_zero, List.getElem?_cons_succ, Option.getD_some]
          apply rg_soft
          case hy => (intro w hw; go_simp; (try go_bits); exact Yld.mk _ _)
          simp only [Act.put, Act.eval, List.setIfInBounds_toArray, List.set_cons_zero, List.set_cons_succ, Array.getD_eq_getD_getElem?, List.getElem?_toArray, List.getElem?_cons_zero, List.getElem?_cons_succ, Option.getD_some]
          apply rg_store
          case hr => (intro w hw; (first | have hcg := fun i (hi : i < (atTo m xs k).length) => row_cell (Kn.hd0 (Kn.tl hw)) hi | have hcg := fun i (hi : i < (atTo m xs k).length) => row_cell2 (Kn.hd0 (Kn.tl hw)) hi); have hfg := (Kn.hd0 (Kn.tl hw)).free; (try have hcg0 := hcg q (by omega)); (try have hcg1 := hcg (q + 1) (by omega)); clear hcg; refine ⟨_, by (go_simp; (try go_bits); exact Dne.mk _), ?_⟩; repeat (first | with_reducible exact hw | with_reducible apply Kn.put (Upd.there _ (Upd.here _ _ _))))
          case hz => (intro z hz; cases hz; exact (List.Sublist.cons₂ _ (List.Sublist.cons _ List.Sublist.slnil)))
          simp only [Act.put, Act.eval, List.setIfInBounds_toArray, List.set_cons_zero, List.set_cons_succ, Array.getD_eq_getD_getElem?, List.getElem?_toArray, List.getElem?_cons_zero, List.getElem?_cons_succ, Option.getD_some]
          refine rg_nil ?_
          refine ek_block ?_
          refine ek_next ?_
          refine wk_region [0, 0] rfl (by kernel_rfl) ?_
          simp only [List.zip_cons_cons, List.zip_nil_right]
          apply rg_soft
          case hy => (intro w hw; go_simp; (try go_bits); exact Yld.mk _ _)
          simp only [Act.put, Act.eval, List.setIfInBounds_toArray, List.set_cons_zero, List.set_cons_succ, Array.getD_eq_getD_getElem?, List.getElem?_toArray, List.getElem?_cons_zero, List.getElem?_cons_succ, Option.getD_some]
          refine rg_move ?_
          simp only [Act.put, Act.eval, List.setIfInBounds_toArray, List.set_cons_zero, List.set_cons_succ, Array.getD_eq_getD_getElem?, List.getElem?_toArray, List.getElem?_cons_zero, List.getElem?_cons_succ, Option.getD_some]
          refine rg_nil ?_
          refine ek_sub (List.Sublist.cons _ (List.Sublist.cons₂ _ List.Sublist.slnil)) ?_
          refine ek_roundS (xs.length - (k + 1)) (by omega) (by kernel_rfl) ?_
          dsimp only [Act.vals, List.map, Array.getD, List.size_toArray, List.length_cons, List.length_nil, Nat.reduceAdd, Nat.reduceLT, ↓reduceDIte, Array.getInternal, List.getElem_toArray, List.getElem_cons_zero, List.getElem_cons_succ]
          exact ⟨k + 1, _, _, _, _, _, _, _, _, _, _, _, _, _, _, _, _, _, _, _, _, _, _, _, _, _, _, _, _, _, _, _, by rfl, by (rw [atTo, show ((it xs k).at_ - 1).toNat = q from (by have := hq.out; omega), ← swapAt_set _ q hk1, row_set _ _ (by omega), row_set _ _ (by simp; omega)]), by rfl, by omega, fun j hj => if e : j = k then e ▸ hk3.out else hc2 j (by omega)⟩
        · (try simp only [decide_eq_true_eq, decide_eq_false_iff_not, Int.not_lt, Int.not_le, beq_iff_eq, beq_eq_false_iff_ne, bne_iff_ne, bne_eq_false_iff_eq, ne_eq, Bool.not_eq_true', Bool.not_eq_false'] at h4)
          simp only [Act.put, Act.eval, List.setIfInBounds_toArray, List.set_cons_zero, List.set_cons_succ, Array.getD_eq_getD_getElem?, List.getElem?_toArray, List.getElem?_cons_zero, List.getElem?_cons_succ, Option.getD_some]
          refine rg_nil ?_
          refine ek_next ?_
          refine wk_cond_t rfl ?_
          refine wk_seq ?_
          refine wk_region [0, 0, 0] rfl (by kernel_rfl) ?_
          simp only [List.zip_cons_cons, List.zip_nil_right]
          refine rg_assign ?_
          simp only [Act.put, Act.eval, List.setIfInBounds_toArray, List.set_cons_zero, List.set_cons_succ, Array.getD_eq_getD_getElem?, List.getElem?_toArray, List.getElem?_cons_zero, List.getElem?_cons_succ, Option.getD_some]
          refine rg_assign ?_
          simp only [Act.put, Act.eval, List.setIfInBounds_toArray, List.set_cons_zero, List.set_cons_succ, Array.getD_eq_getD_getElem?, List.getElem?_toArray, List.getElem?_cons_zero, List.getElem?_cons_succ, Option.getD_some]
          refine rg_assign ?_
          simp only [Act.put, Act.eval, List.setIfInBounds_toArray, List.set_cons_zero, List.set_cons_succ, Array.getD_eq_getD_getElem?, List.getElem?_toArray, List.getElem?_cons_zero, List.getElem?_cons_succ, Option.getD_some]
          refine rg_nil ?_
          refine ek_next ?_
          refine wk_ret ?_
          refine ek_then_ret ?_
          refine ek_block_ret ?_
          refine ek_then_ret ?_
          refine ek_then_ret ?_
          refine ek_block_ret ?_
          refine ek_then_ret ?_
          refine ek_ret (fun w hw => ⟨rfl, _, res_ttt _ _ _ rfl, ?_⟩)
          (try simp only [Act.put, Act.eval, List.setIfInBounds_toArray, List.set_cons_zero, List.set_cons_succ, Array.getD_eq_getD_getElem?, List.getElem?_toArray, List.getElem?_cons_zero, List.getElem?_cons_succ, Option.getD_some])
          exact ⟨.slice none 0 0, [], [], (by simp only [isP_no (by omega : k < xs.length) h4, hE.out]), .nil, (by rw [permZ_bad (isP_no (by omega : k < xs.length) h4)]), hw.made (by simp)⟩
    · (try simp only [decide_eq_true_eq, decide_eq_false_iff_not, Int.not_lt, Int.not_le, beq_iff_eq, beq_eq_false_iff_ne, bne_iff_ne, bne_eq_false_iff_eq, ne_eq, Bool.not_eq_true', Bool.not_eq_false'] at h2)
      simp only [Act.put, Act.eval, List.setIfInBounds_toArray, List.set_cons_zero, List.set_cons_succ, Array.getD_eq_getD_getElem?, List.getElem?_toArray, List.getElem?_cons_zero, List.getElem?_cons_succ, Option.getD_some]
      have hpl : k < (idTo m k).length := by (rw [idTo_len]; omega)
      refine rg_nil ?_
      refine ek_next ?_
      refine wk_seq ?_
      refine wk_cond_t rfl ?_
      refine wk_skip ?_
      refine ek_next ?_
      refine wk_seq ?_
      refine wk_block ?_
      refine wk_seq ?_
      refine wk_region [0, 0] rfl (by kernel_rfl) ?_
      simp only [List.zip_cons_cons, List.zip_nil_right]
      refine rg_move ?_
      simp only [Act.put, Act.eval, List.setIfInBounds_toArray, List.set_cons_zero, List.set_cons_succ, Array.getD_eq_getD_getElem?, List.getElem?_toArray, List.getElem?_cons_zero, List.getElem?_cons_succ, Option.getD_some]
      refine rg_assign ?_
      simp only [Act.put, Act.eval, List.setIfInBounds_toArray, List.set_cons_zero, List.set_cons_succ, Array.getD_eq_getD_getElem?, List.getElem?_toArray, List.getElem?_cons_zero, List.getElem?_cons_succ, Option.getD_some]
      refine rg_nil ?_
      refine ek_next ?_
      refine wk_region [0, 0, 0, 0, 1] rfl (by kernel_rfl) ?_
      simp only [List.zip_cons_cons, List.zip_nil_right]
      refine rg_move ?_
      simp only [Act.put, Act.eval, List.setIfInBounds_toArray, List.set_cons_zero, List.set_cons_succ, Array.getD_eq_getD_getElem?, List.getElem?_toArray, List.getElem?_cons_zero, List.getElem?_cons_succ, Option.getD_some]
      refine rg_move ?_
      simp only [Act.put, Act.eval, List.setIfInBounds_toArray, List.set_cons_zero, List.set_cons_succ, Array.getD_eq_getD_getElem?, List.getElem?_toArray, List.getElem?_cons_zero, List.getElem?_cons_succ, Option.getD_some]
      refine rg_move ?_
      simp only [Act.put, Act.eval, List.setIfInBounds_toArray, List.set_cons_zero, List.set_cons_succ, Array.getD_eq_getD_getElem?, List.getElem?_toArray, List.getElem?_cons_zero, List.getElem?_cons_succ, Option.getD_some]
      apply rg_soft
      case hy => (intro w hw; go_simp; (try go_bits); exact Yld.mk _ _)
      simp only [Act.put, Act.eval, List.setIfInBounds_toArray, List.set_cons_zero, List.set_cons_succ, Array.getD_eq_getD_getElem?, List.getElem?_toArray, List.getElem?_cons_zero, List.getElem?_cons_succ, Option.getD_some]
      apply rg_store
      case hr => (intro w hw; have hcg1 := ints_cell (Kn.hd0 hw) hpl; have hfg1 := (Kn.hd0 hw).free; refine ⟨_, by (go_simp; (try go_bits); exact Dne.mk _), ?_⟩; repeat (first | with_reducible exact hw | with_reducible apply Kn.put (Upd.here _ _ _)))
      case hz => (intro z hz; cases hz)
      simp only [Act.put, Act.eval, List.setIfInBounds_toArray, List.set_cons_zero, List.set_cons_succ, Array.getD_eq_getD_getElem?, List.getElem?_toArray, List.getElem?_cons_zero, List.getElem?_cons_succ, Option.getD_some]
      refine rg_nil ?_
      refine ek_block ?_
      refine ek_next ?_
      refine wk_region [0, 0] rfl (by kernel_rfl) ?_
      simp only [List.zip_cons_cons, List.zip_nil_right]
      apply rg_soft
      case hy => (intro w hw; go_simp; (try go_bits); exact Yld.mk _ _)
      simp only [Act.put, Act.eval, List.setIfInBounds_toArray, List.set_cons_zero, List.set_cons_succ, Array.getD_eq_getD_getElem?, List.getElem?_toArray, List.getElem?_cons_zero, List.getElem?_cons_succ, Option.getD_some]
      refine rg_move ?_
      simp only [Act.put, Act.eval, List.setIfInBounds_toArray, List.set_cons_zero, List.set_cons_succ, Array.getD_eq_getD_getElem?, List.getElem?_toArray, List.getElem?_cons_zero, List.getElem?_cons_succ, Option.getD_some]
      refine rg_nil ?_
      refine ek_roundS (m - (k + 1)) (by omega) (by kernel_rfl) ?_
      dsimp only [Act.vals, List.map, Array.getD, List.size_toArray, List.length_cons, List.length_nil, Nat.reduceAdd, Nat.reduceLT, ↓reduceDIte, Array.getInternal, List.getElem_toArray, List.getElem_cons_zero, List.getElem_cons_succ]
      exact ⟨k + 1, _, _, _, _, _, _, _, _, by rfl, by (simp only [ints, idTo, List.map_set]), by rfl, by omega⟩
  · (try simp only [decide_eq_true_eq, decide_eq_false_iff_not, Int.not_lt, Int.not_le, beq_iff_eq, beq_eq_false_iff_ne, bne_iff_ne, bne_eq_false_iff_eq, ne_eq, Bool.not_eq_true', Bool.not_eq_false'] at h1)
    simp only [Act.put, Act.eval, List.setIfInBounds_toArray, List.set_cons_zero, List.set_cons_succ, Array.getD_eq_getD_getElem?, List.getElem?_toArray, List.getElem?_cons_zero, List.getElem?_cons_succ, Option.getD_some]
    refine rg_nil ?_
    refine ek_next ?_
    refine wk_cond_t rfl ?_
    refine wk_seq ?_
    refine wk_region [0, 0, 0, 0] rfl (by kernel_rfl) ?_
    simp only [List.zip_cons_cons, List.zip_nil_right]
    refine rg_move ?_
    simp only [Act.put, Act.eval, List.setIfInBounds_toArray, List.set_cons_zero, List.set_cons_succ, Array.getD_eq_getD_getElem?, List.getElem?_toArray, List.getElem?_cons_zero, List.getElem?_cons_succ, Option.getD_some]
    refine rg_assign ?_
    simp only [Act.put, Act.eval, List.setIfInBounds_toArray, List.set_cons_zero, List.set_cons_succ, Array.getD_eq_getD_getElem?, List.getElem?_toArray, List.getElem?_cons_zero, List.getElem?_cons_succ, Option.getD_some]
    refine rg_assign ?_
    simp only [Act.put, Act.eval, List.setIfInBounds_toArray, List.set_cons_zero, List.set_cons_succ, Array.getD_eq_getD_getElem?, List.getElem?_toArray, List.getElem?_cons_zero, List.getElem?_cons_succ, Option.getD_some]
    refine rg_assign ?_
    simp only [Act.put, Act.eval, List.setIfInBounds_toArray, List.set_cons_zero, List.set_cons_succ, Array.getD_eq_getD_getElem?, List.getElem?_toArray, List.getElem?_cons_zero, List.getElem?_cons_succ, Option.getD_some]
    refine rg_nil ?_
    refine ek_next ?_
    refine wk_ret ?_
    refine ek_then_ret ?_
    refine ek_ret (fun w hw => ⟨rfl, _, res_ttt _ _ _ rfl, ?_⟩)
    (try simp only [Act.put, Act.eval, List.setIfInBounds_toArray, List.set_cons_zero, List.set_cons_succ, Array.getD_eq_getD_getElem?, List.getElem?_toArray, List.getElem?_cons_zero, List.getElem?_cons_succ, Option.getD_some])
    exact ⟨.slice none 0 0, [], [], (by simp only [itemE_bad h1]), .nil, (by rw [permZ_bad (itemE_bad h1)]), hw.made (by simp)⟩

end Go.Proofs.Ytccbinnlnkpplaa
