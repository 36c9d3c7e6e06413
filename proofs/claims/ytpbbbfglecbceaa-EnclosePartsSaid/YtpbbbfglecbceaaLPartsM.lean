/- The least span for a fraction, and the rectangle of an exact number: for all of them. -/
import Derived.Test.YtpbbbfglecbceaaRows
import Derived.Test.YtpbbbfglecbceaaFlat
import Derived.Test.YtpbbbfglecbceaaEn17
import Derived.Test.YtpbbbfglecbceaaBoMb
import Derived.Test.YtpbbbfglecbceaaLFParts
import Derived.WalkKit
import Derived.ProofKit
import Derived.OpenShut
namespace Go.Proofs.Ytpbbbfglecbceaa
set_option linter.all false
open Go.ChangeShapes Go.WideShapes Go.ChangeAt Go.RowKit
namespace LawParts

set_option maxRecDepth 100000 in
set_option maxHeartbeats 4000000 in
theorem walk (n d : Int) (z : Nm) (w : World) : Calls Try.prog 15 #[.int .i64 n, .int .i64 d, nmV z] w fun e w' => e = .returned (.bool true) ∧ Below w.heap.size w w' := by
  have C1 := partE_any n d
  have C2 := rpartE_any n d
  have C3 := fromE_any z
  have C4 := rfromE_any z
  obtain ⟨a, ha⟩ : ∃ r, partR n d = r := ⟨_, rfl⟩
  obtain ⟨b, hb⟩ : ∃ r, fromR z = r := ⟨_, rfl⟩
  rw [ha] at C1 C2
  rw [hb] at C3 C4
  clear ha hb
  obtain ⟨a, ea⟩ := a
  obtain ⟨b, eb⟩ := b
  replace C1 := Lib.hid C1
  replace C2 := Lib.hid C2
  replace C3 := Lib.hid C3
  replace C4 := Lib.hid C4
  go_enter Try.func15, Try.ntmps15
  refine wk_start ?_
  refine wk_seq ?_
  refine wk_region [1, 0] rfl (by kernel_rfl) ?_
  simp only [List.zip_cons_cons, List.zip_nil_right]
  refine rg_new (cs := ?_) (ty := ?_) (by rfl) (fun w => ?_) (fun _ h => by cases h) (fun g1 => ?_); rotate_left 2
  focus (go_simp; rfl)
  simp only [Act.put, Act.eval, q1, q2, q3, q4, q5, q6, q7, q8, q9, q10, q11, q12, q13, q14, q15, q16, q17, q18, Nat.reduceAdd, Bool.not_true, Bool.not_false]
  refine rg_assign ?_
  simp only [Act.put, Act.eval, q1, q2, q3, q4, q5, q6, q7, q8, q9, q10, q11, q12, q13, q14, q15, q16, q17, q18, Nat.reduceAdd, Bool.not_true, Bool.not_false]
  refine rg_nil ?_
  refine ek_next ?_
  refine wk_seq ?_
  refine wk_region [0, 0, 1, 0, 0, 0, 1, 1, 0] rfl (by kernel_rfl) ?_
  simp only [List.zip_cons_cons, List.zip_nil_right]
  refine rg_move ?_
  simp only [Act.put, Act.eval, q1, q2, q3, q4, q5, q6, q7, q8, q9, q10, q11, q12, q13, q14, q15, q16, q17, q18, Nat.reduceAdd, Bool.not_true, Bool.not_false]
  refine rg_move ?_
  simp only [Act.put, Act.eval, q1, q2, q3, q4, q5, q6, q7, q8, q9, q10, q11, q12, q13, q14, q15, q16, q17, q18, Nat.reduceAdd, Bool.not_true, Bool.not_false]
  apply rg_pure (by rfl) (by kernel_rfl)
  case hargs => (simp only [List.map_toArray, List.map_cons, List.map_nil, Act.eval, Array.getD_eq_getD_getElem?, List.getElem?_toArray, List.getElem?_cons_zero, List.getElem?_cons_succ, Option.getD_some]; exact rfl)
  case h => exact fun w hw => C1.out w
  case hz => exact (fun _ h => by cases h)
  simp only [Act.put, Act.eval, q1, q2, q3, q4, q5, q6, q7, q8, q9, q10, q11, q12, q13, q14, q15, q16, q17, q18, Nat.reduceAdd, Bool.not_true, Bool.not_false]
  refine rg_move ?_
  simp only [Act.put, Act.eval, q1, q2, q3, q4, q5, q6, q7, q8, q9, q10, q11, q12, q13, q14, q15, q16, q17, q18, Nat.reduceAdd, Bool.not_true, Bool.not_false]
  refine rf_extract rfl rfl rfl rfl ?_
  simp only [Act.put, Act.eval, q1, q2, q3, q4, q5, q6, q7, q8, q9, q10, q11, q12, q13, q14, q15, q16, q17, q18, Nat.reduceAdd, Bool.not_true, Bool.not_false]
  refine rf_extract rfl rfl rfl rfl ?_
  simp only [Act.put, Act.eval, q1, q2, q3, q4, q5, q6, q7, q8, q9, q10, q11, q12, q13, q14, q15, q16, q17, q18, Nat.reduceAdd, Bool.not_true, Bool.not_false]
  refine rg_new (cs := ?_) (ty := ?_) (by rfl) (fun w => ?_) (fun _ h => by cases h) (fun g2 => ?_); rotate_left 2
  focus (go_simp; rfl)
  simp only [Act.put, Act.eval, q1, q2, q3, q4, q5, q6, q7, q8, q9, q10, q11, q12, q13, q14, q15, q16, q17, q18, Nat.reduceAdd, Bool.not_true, Bool.not_false]
  refine rf_storeR (n := 2) rfl rfl (by kernel_rfl) rfl rfl (UpdR.here _ _ _ (Nat.le_of_ble_eq_true rfl)) (fun _ h => by cases h) ?_
  simp only [Act.put, Act.eval, q1, q2, q3, q4, q5, q6, q7, q8, q9, q10, q11, q12, q13, q14, q15, q16, q17, q18, Nat.reduceAdd, Bool.not_true, Bool.not_false]
  refine rg_assign ?_
  simp only [Act.put, Act.eval, q1, q2, q3, q4, q5, q6, q7, q8, q9, q10, q11, q12, q13, q14, q15, q16, q17, q18, Nat.reduceAdd, Bool.not_true, Bool.not_false]
  refine rg_nil ?_
  refine ek_next ?_
  refine wk_seq ?_
  refine wk_region [0, 0, 1, 0, 0, 0, 1, 1, 0] rfl (by kernel_rfl) ?_
  simp only [List.zip_cons_cons, List.zip_nil_right]
  refine rg_move ?_
  simp only [Act.put, Act.eval, q1, q2, q3, q4, q5, q6, q7, q8, q9, q10, q11, q12, q13, q14, q15, q16, q17, q18, Nat.reduceAdd, Bool.not_true, Bool.not_false]
  refine rg_move ?_
  simp only [Act.put, Act.eval, q1, q2, q3, q4, q5, q6, q7, q8, q9, q10, q11, q12, q13, q14, q15, q16, q17, q18, Nat.reduceAdd, Bool.not_true, Bool.not_false]
  apply rg_pure (by rfl) (by kernel_rfl)
  case hargs => (simp only [List.map_toArray, List.map_cons, List.map_nil, Act.eval, Array.getD_eq_getD_getElem?, List.getElem?_toArray, List.getElem?_cons_zero, List.getElem?_cons_succ, Option.getD_some]; exact rfl)
  case h => exact fun w hw => C2.out w
  case hz => exact (fun _ h => by cases h)
  simp only [Act.put, Act.eval, q1, q2, q3, q4, q5, q6, q7, q8, q9, q10, q11, q12, q13, q14, q15, q16, q17, q18, Nat.reduceAdd, Bool.not_true, Bool.not_false]
  refine rg_move ?_
  simp only [Act.put, Act.eval, q1, q2, q3, q4, q5, q6, q7, q8, q9, q10, q11, q12, q13, q14, q15, q16, q17, q18, Nat.reduceAdd, Bool.not_true, Bool.not_false]
  refine rf_extract rfl rfl rfl rfl ?_
  simp only [Act.put, Act.eval, q1, q2, q3, q4, q5, q6, q7, q8, q9, q10, q11, q12, q13, q14, q15, q16, q17, q18, Nat.reduceAdd, Bool.not_true, Bool.not_false]
  refine rf_extract rfl rfl rfl rfl ?_
  simp only [Act.put, Act.eval, q1, q2, q3, q4, q5, q6, q7, q8, q9, q10, q11, q12, q13, q14, q15, q16, q17, q18, Nat.reduceAdd, Bool.not_true, Bool.not_false]
  refine rg_new (cs := ?_) (ty := ?_) (by rfl) (fun w => ?_) (fun _ h => by cases h) (fun g3 => ?_); rotate_left 2
  focus (go_simp; rfl)
  simp only [Act.put, Act.eval, q1, q2, q3, q4, q5, q6, q7, q8, q9, q10, q11, q12, q13, q14, q15, q16, q17, q18, Nat.reduceAdd, Bool.not_true, Bool.not_false]
  refine rf_storeR (n := 2) rfl rfl (by kernel_rfl) rfl rfl (UpdR.here _ _ _ (Nat.le_of_ble_eq_true rfl)) (fun _ h => by cases h) ?_
  simp only [Act.put, Act.eval, q1, q2, q3, q4, q5, q6, q7, q8, q9, q10, q11, q12, q13, q14, q15, q16, q17, q18, Nat.reduceAdd, Bool.not_true, Bool.not_false]
  refine rg_assign ?_
  simp only [Act.put, Act.eval, q1, q2, q3, q4, q5, q6, q7, q8, q9, q10, q11, q12, q13, q14, q15, q16, q17, q18, Nat.reduceAdd, Bool.not_true, Bool.not_false]
  refine rg_nil ?_
  refine ek_next ?_
  refine wk_seq ?_
  refine wk_region [0, 1, 0, 0, 0, 1, 1, 0] rfl (by kernel_rfl) ?_
  simp only [List.zip_cons_cons, List.zip_nil_right]
  refine rf_loadR (n := 5) rfl rfl rfl Try.underlying69 rfl (by kernel_rfl) (fun w hw => Kn.hd0 (Kn.tl (Kn.tl hw))) rfl rfl ?_
  simp only [Act.put, Act.eval, q1, q2, q3, q4, q5, q6, q7, q8, q9, q10, q11, q12, q13, q14, q15, q16, q17, q18, Nat.reduceAdd, Bool.not_true, Bool.not_false]
  apply rg_pure (by rfl) (by kernel_rfl)
  case hargs => (simp only [List.map_toArray, List.map_cons, List.map_nil, Act.eval, Array.getD_eq_getD_getElem?, List.getElem?_toArray, List.getElem?_cons_zero, List.getElem?_cons_succ, Option.getD_some]; exact rfl)
  case h => exact fun w hw => C3.out w
  case hz => exact (fun _ h => by cases h)
  simp only [Act.put, Act.eval, q1, q2, q3, q4, q5, q6, q7, q8, q9, q10, q11, q12, q13, q14, q15, q16, q17, q18, Nat.reduceAdd, Bool.not_true, Bool.not_false]
  refine rg_move ?_
  simp only [Act.put, Act.eval, q1, q2, q3, q4, q5, q6, q7, q8, q9, q10, q11, q12, q13, q14, q15, q16, q17, q18, Nat.reduceAdd, Bool.not_true, Bool.not_false]
  refine rf_extract rfl rfl rfl rfl ?_
  simp only [Act.put, Act.eval, q1, q2, q3, q4, q5, q6, q7, q8, q9, q10, q11, q12, q13, q14, q15, q16, q17, q18, Nat.reduceAdd, Bool.not_true, Bool.not_false]
  refine rf_extract rfl rfl rfl rfl ?_
  simp only [Act.put, Act.eval, q1, q2, q3, q4, q5, q6, q7, q8, q9, q10, q11, q12, q13, q14, q15, q16, q17, q18, Nat.reduceAdd, Bool.not_true, Bool.not_false]
  refine rg_new (cs := ?_) (ty := ?_) (by rfl) (fun w => ?_) (fun _ h => by cases h) (fun g4 => ?_); rotate_left 2
  focus (go_simp; rfl)
  simp only [Act.put, Act.eval, q1, q2, q3, q4, q5, q6, q7, q8, q9, q10, q11, q12, q13, q14, q15, q16, q17, q18, Nat.reduceAdd, Bool.not_true, Bool.not_false]
  refine rf_storeR (n := 4) rfl rfl (by kernel_rfl) rfl rfl (UpdR.here _ _ _ (Nat.le_of_ble_eq_true rfl)) (fun _ h => by cases h) ?_
  simp only [Act.put, Act.eval, q1, q2, q3, q4, q5, q6, q7, q8, q9, q10, q11, q12, q13, q14, q15, q16, q17, q18, Nat.reduceAdd, Bool.not_true, Bool.not_false]
  refine rg_assign ?_
  simp only [Act.put, Act.eval, q1, q2, q3, q4, q5, q6, q7, q8, q9, q10, q11, q12, q13, q14, q15, q16, q17, q18, Nat.reduceAdd, Bool.not_true, Bool.not_false]
  refine rg_nil ?_
  refine ek_next ?_
  refine wk_seq ?_
  refine wk_region [0, 1, 0, 0, 0, 1, 1, 0] rfl (by kernel_rfl) ?_
  simp only [List.zip_cons_cons, List.zip_nil_right]
  refine rf_loadR (n := 5) rfl rfl rfl Try.underlying69 rfl (by kernel_rfl) (fun w hw => Kn.hd0 (Kn.tl (Kn.tl (Kn.tl hw)))) rfl rfl ?_
  simp only [Act.put, Act.eval, q1, q2, q3, q4, q5, q6, q7, q8, q9, q10, q11, q12, q13, q14, q15, q16, q17, q18, Nat.reduceAdd, Bool.not_true, Bool.not_false]
  apply rg_pure (by rfl) (by kernel_rfl)
  case hargs => (simp only [List.map_toArray, List.map_cons, List.map_nil, Act.eval, Array.getD_eq_getD_getElem?, List.getElem?_toArray, List.getElem?_cons_zero, List.getElem?_cons_succ, Option.getD_some]; exact rfl)
  case h => exact fun w hw => C4.out w
  case hz => exact (fun _ h => by cases h)
  simp only [Act.put, Act.eval, q1, q2, q3, q4, q5, q6, q7, q8, q9, q10, q11, q12, q13, q14, q15, q16, q17, q18, Nat.reduceAdd, Bool.not_true, Bool.not_false]
  refine rg_move ?_
  simp only [Act.put, Act.eval, q1, q2, q3, q4, q5, q6, q7, q8, q9, q10, q11, q12, q13, q14, q15, q16, q17, q18, Nat.reduceAdd, Bool.not_true, Bool.not_false]
  refine rf_extract rfl rfl rfl rfl ?_
  simp only [Act.put, Act.eval, q1, q2, q3, q4, q5, q6, q7, q8, q9, q10, q11, q12, q13, q14, q15, q16, q17, q18, Nat.reduceAdd, Bool.not_true, Bool.not_false]
  refine rf_extract rfl rfl rfl rfl ?_
  simp only [Act.put, Act.eval, q1, q2, q3, q4, q5, q6, q7, q8, q9, q10, q11, q12, q13, q14, q15, q16, q17, q18, Nat.reduceAdd, Bool.not_true, Bool.not_false]
  refine rg_new (cs := ?_) (ty := ?_) (by rfl) (fun w => ?_) (fun _ h => by cases h) (fun g5 => ?_); rotate_left 2
  focus (go_simp; rfl)
  simp only [Act.put, Act.eval, q1, q2, q3, q4, q5, q6, q7, q8, q9, q10, q11, q12, q13, q14, q15, q16, q17, q18, Nat.reduceAdd, Bool.not_true, Bool.not_false]
  refine rf_storeR (n := 4) rfl rfl (by kernel_rfl) rfl rfl (UpdR.here _ _ _ (Nat.le_of_ble_eq_true rfl)) (fun _ h => by cases h) ?_
  simp only [Act.put, Act.eval, q1, q2, q3, q4, q5, q6, q7, q8, q9, q10, q11, q12, q13, q14, q15, q16, q17, q18, Nat.reduceAdd, Bool.not_true, Bool.not_false]
  refine rg_assign ?_
  simp only [Act.put, Act.eval, q1, q2, q3, q4, q5, q6, q7, q8, q9, q10, q11, q12, q13, q14, q15, q16, q17, q18, Nat.reduceAdd, Bool.not_true, Bool.not_false]
  refine rg_nil ?_
  refine ek_next ?_
  refine wk_seq ?_
  refine wk_region [0, 0, 0, 0, 0, 0, 0, 0, 0, 0, 0, 0, 0, 0, 0, 0, 0, 0, 0, 1, 0, 0] rfl (by kernel_rfl) ?_
  simp only [List.zip_cons_cons, List.zip_nil_right]
  refine rf_loadR (n := 2) rfl rfl rfl Try.underlying23 rfl (by kernel_rfl) (fun w hw => Kn.hd0 (Kn.tl (Kn.tl (Kn.tl hw)))) rfl rfl ?_
  simp only [Act.put, Act.eval, q1, q2, q3, q4, q5, q6, q7, q8, q9, q10, q11, q12, q13, q14, q15, q16, q17, q18, Nat.reduceAdd, Bool.not_true, Bool.not_false]
  refine rf_loadR (n := 2) rfl rfl rfl Try.underlying23 rfl (by kernel_rfl) (fun w hw => Kn.hd0 (Kn.tl (Kn.tl hw))) rfl rfl ?_
  simp only [Act.put, Act.eval, q1, q2, q3, q4, q5, q6, q7, q8, q9, q10, q11, q12, q13, q14, q15, q16, q17, q18, Nat.reduceAdd, Bool.not_true, Bool.not_false]
  apply rg_softb
  case hy => (intro w hw; go_simp; (try go_bits); exact Yld.mk _ _)
  intro x h1
  obtain rfl : x = true := by (refine h1.symm.trans ?_; first | rfl | exact decide_eq_true (by omega) | exact beq_iff_eq.2 (by omega) | exact bne_iff_ne.2 (by omega) | (simp; omega) | (simp; done))
  clear h1
  simp only [Act.put, Act.eval, q1, q2, q3, q4, q5, q6, q7, q8, q9, q10, q11, q12, q13, q14, q15, q16, q17, q18, Nat.reduceAdd, Bool.not_true, Bool.not_false]
  refine rg_move ?_
  simp only [Act.put, Act.eval, q1, q2, q3, q4, q5, q6, q7, q8, q9, q10, q11, q12, q13, q14, q15, q16, q17, q18, Nat.reduceAdd, Bool.not_true, Bool.not_false]
  apply rg_soft_g
  case hg => rfl
  case hy => (intro w hw; go_simp; (try go_bits); exact Yld.mk _ _)
  simp only [Act.put, Act.eval, q1, q2, q3, q4, q5, q6, q7, q8, q9, q10, q11, q12, q13, q14, q15, q16, q17, q18, Nat.reduceAdd, Bool.not_true, Bool.not_false]
  apply rg_soft_g
  case hg => rfl
  case hy => (intro w hw; go_simp; (try go_bits); exact Yld.mk _ _)
  simp only [Act.put, Act.eval, q1, q2, q3, q4, q5, q6, q7, q8, q9, q10, q11, q12, q13, q14, q15, q16, q17, q18, Nat.reduceAdd, Bool.not_true, Bool.not_false]
  refine rfb_eql rfl rfl rfl rfl ?_
  intro x h2
  obtain rfl : x = true := by (refine h2.symm.trans ?_; exact decide_eq_true (by omega))
  clear h2
  simp only [Act.put, Act.eval, q1, q2, q3, q4, q5, q6, q7, q8, q9, q10, q11, q12, q13, q14, q15, q16, q17, q18, Nat.reduceAdd, Bool.not_true, Bool.not_false]
  refine rf_pick rfl rfl rfl ?_
  simp only [Act.put, Act.eval, q1, q2, q3, q4, q5, q6, q7, q8, q9, q10, q11, q12, q13, q14, q15, q16, q17, q18, Nat.reduceAdd, Bool.not_true, Bool.not_false]
  refine rg_move ?_
  simp only [Act.put, Act.eval, q1, q2, q3, q4, q5, q6, q7, q8, q9, q10, q11, q12, q13, q14, q15, q16, q17, q18, Nat.reduceAdd, Bool.not_true, Bool.not_false]
  refine rf_loadR (n := 4) rfl rfl rfl Try.underlying25 rfl (by kernel_rfl) (fun w hw => Kn.hd0 (Kn.tl hw)) rfl rfl ?_
  simp only [Act.put, Act.eval, q1, q2, q3, q4, q5, q6, q7, q8, q9, q10, q11, q12, q13, q14, q15, q16, q17, q18, Nat.reduceAdd, Bool.not_true, Bool.not_false]
  refine rf_loadR (n := 4) rfl rfl rfl Try.underlying25 rfl (by kernel_rfl) (fun w hw => Kn.hd0 hw) rfl rfl ?_
  simp only [Act.put, Act.eval, q1, q2, q3, q4, q5, q6, q7, q8, q9, q10, q11, q12, q13, q14, q15, q16, q17, q18, Nat.reduceAdd, Bool.not_true, Bool.not_false]
  apply rg_softb_g
  case hg => rfl
  case hy => (intro w hw; go_simp; (try go_bits); exact Yld.mk _ _)
  intro x h3
  obtain rfl : x = true := by (refine h3.symm.trans ?_; first | rfl | exact decide_eq_true (by omega) | exact beq_iff_eq.2 (by omega) | exact bne_iff_ne.2 (by omega) | (simp; omega) | (simp; done))
  clear h3
  simp only [Act.put, Act.eval, q1, q2, q3, q4, q5, q6, q7, q8, q9, q10, q11, q12, q13, q14, q15, q16, q17, q18, Nat.reduceAdd, Bool.not_true, Bool.not_false]
  refine rf_pick rfl rfl rfl ?_
  simp only [Act.put, Act.eval, q1, q2, q3, q4, q5, q6, q7, q8, q9, q10, q11, q12, q13, q14, q15, q16, q17, q18, Nat.reduceAdd, Bool.not_true, Bool.not_false]
  refine rg_move ?_
  simp only [Act.put, Act.eval, q1, q2, q3, q4, q5, q6, q7, q8, q9, q10, q11, q12, q13, q14, q15, q16, q17, q18, Nat.reduceAdd, Bool.not_true, Bool.not_false]
  apply rg_soft_g
  case hg => rfl
  case hy => (intro w hw; go_simp; (try go_bits); exact Yld.mk _ _)
  simp only [Act.put, Act.eval, q1, q2, q3, q4, q5, q6, q7, q8, q9, q10, q11, q12, q13, q14, q15, q16, q17, q18, Nat.reduceAdd, Bool.not_true, Bool.not_false]
  apply rg_soft_g
  case hg => rfl
  case hy => (intro w hw; go_simp; (try go_bits); exact Yld.mk _ _)
  simp only [Act.put, Act.eval, q1, q2, q3, q4, q5, q6, q7, q8, q9, q10, q11, q12, q13, q14, q15, q16, q17, q18, Nat.reduceAdd, Bool.not_true, Bool.not_false]
  refine rfb_eql rfl rfl rfl rfl ?_
  intro x h4
  obtain rfl : x = true := by (refine h4.symm.trans ?_; exact decide_eq_true (by omega))
  clear h4
  simp only [Act.put, Act.eval, q1, q2, q3, q4, q5, q6, q7, q8, q9, q10, q11, q12, q13, q14, q15, q16, q17, q18, Nat.reduceAdd, Bool.not_true, Bool.not_false]
  refine rf_pick rfl rfl rfl ?_
  simp only [Act.put, Act.eval, q1, q2, q3, q4, q5, q6, q7, q8, q9, q10, q11, q12, q13, q14, q15, q16, q17, q18, Nat.reduceAdd, Bool.not_true, Bool.not_false]
  refine rg_move ?_
  simp only [Act.put, Act.eval, q1, q2, q3, q4, q5, q6, q7, q8, q9, q10, q11, q12, q13, q14, q15, q16, q17, q18, Nat.reduceAdd, Bool.not_true, Bool.not_false]
  apply rg_pure (by rfl) (by kernel_rfl)
  case hargs => (simp only [List.map_toArray, List.map_cons, List.map_nil, Act.eval, Array.getD_eq_getD_getElem?, List.getElem?_toArray, List.getElem?_cons_zero, List.getElem?_cons_succ, Option.getD_some]; exact rfl)
  case h => exact fun w hw => awake_any w
  case hz => exact (fun _ h => by cases h)
  simp only [Act.put, Act.eval, q1, q2, q3, q4, q5, q6, q7, q8, q9, q10, q11, q12, q13, q14, q15, q16, q17, q18, Nat.reduceAdd, Bool.not_true, Bool.not_false]
  refine rf_pick rfl rfl rfl ?_
  simp only [Act.put, Act.eval, q1, q2, q3, q4, q5, q6, q7, q8, q9, q10, q11, q12, q13, q14, q15, q16, q17, q18, Nat.reduceAdd, Bool.not_true, Bool.not_false]
  refine rg_assign ?_
  simp only [Act.put, Act.eval, q1, q2, q3, q4, q5, q6, q7, q8, q9, q10, q11, q12, q13, q14, q15, q16, q17, q18, Nat.reduceAdd, Bool.not_true, Bool.not_false]
  refine rg_nil ?_
  refine ek_next ?_
  refine wk_ret ?_
  refine ek_ret (fun w hw => ⟨rfl, _, res_t _ rfl, ?_⟩)
  (try simp only [Act.put, Act.eval, q1, q2, q3, q4, q5, q6, q7, q8, q9, q10, q11, q12, q13, q14, q15, q16, q17, q18, Nat.reduceAdd, Bool.not_true, Bool.not_false])
  first | exact ⟨rfl, hw.below⟩ | exact ⟨trivial, hw.below⟩ | exact hw.below

theorem own : ownKnob Try.prog.godebug = none := by kernel_rfl

set_option maxRecDepth 100000 in
theorem lifted (os : Os) (started : os.Started) (H : Type) (enc : TypeId × Value → H) :
    ReturnsInHanded {} Try.checked os 15 .any (Rows.enclosePartsSpec.pre6 enc Try.prog Try.f15 Rows.enclosePartsRow.domain false) (Rows.enclosePartsSpec.post enc Try.prog Try.f15 false true false false) := by
  refine returnsInHanded_of_change (C := Try.checked) own started (by kernel_rfl) Try.func15
    (ChangeSpec.witness6 (enc := enc) (C := Try.checked) false ⟨#[], #[.int .i64 0, .int .i64 0, .agg #[.int .i64 0, .int .i64 0, .int .i64 0, .int .i64 0, .int .i64 0]], []⟩ 8 (by kernel_rfl) (by kernel_rfl) (by kernel_rfl) (by kernel_rfl)) ?_
  intro W base args ds gs before hval0 hW hcnd _
  have hval : ∀ (j : Nat) t v, Try.f15.params[j]? = some t → args[j]? = some v → Value.okWide Try.prog W .any base t v := hval0
  have hW' := hW
  obtain ⟨p, q, hA0, hV, rfl, hfz, hnd⟩ := hW
  have hA : DataW.TrodAll enc Try.prog W 0 (fun _ => true) true Try.f15.params.toList args.toList ds p := hA0
  rw [Try.params15] at hA hval
  obtain ⟨rfl, hread⟩ := trodAll_flat (n := 8) (by kernel_rfl) hA
  obtain ⟨v0, vs0, d0, ds0, p0, q0, hargs, rfl, -, h0, r0⟩ := trodAll_cons hA
  obtain ⟨v1, vs1, d1, ds1, p1, q1, rfl, rfl, -, h1, r1⟩ := trodAll_cons r0
  obtain ⟨v2, vs2, d2, ds2, p2, q2, rfl, rfl, -, h2, r2⟩ := trodAll_cons r1
  obtain ⟨rfl, rfl, -⟩ := trodAll_nil r2
  obtain rfl : args = #[v0, v1, v2] := by cases args; simp_all
  obtain ⟨rfl, rfl⟩ := trodVars_none hV
  obtain ⟨x0, rfl⟩ := okWide_int Try.underlying3 (hval 0 3 v0 rfl rfl)
  obtain ⟨x1, rfl⟩ := okWide_int Try.underlying3 (hval 1 3 v1 rfl rfl)
  obtain ⟨x2, rfl⟩ := open_num (hval 2 69 v2 rfl rfl)
  clear hA0 hval0
  simp only [List.append_nil] at hW'
  refine (walk x0 x1 x2 W).mono fun e W' ⟨he, hg⟩ => ?_
  subst he
  exact ⟨_, rfl, post_flat hW' (fun _ _ _ => (trodAll_cons_mk (shut_bool Try.underlying4 _) trodAll_mk0)) (fun sp => hread _ _ _ _) (fun _ => rfl)
    hg (ok_one (by kernel_rfl) rfl (okWide_bool_mk Try.underlying4 _))⟩

theorem holds : Rows.EnclosePartsSaid :=
  OpenClaim.holds_of_wide 15 Try.f15 rfl rfl rfl rfl rfl rfl rfl ⟨rfl, rfl, rfl, rfl, rfl⟩ rfl rfl rfl rfl rfl (by kernel_rfl) Try.func15 closed
    (of_decide_eq_true (by kernel_rfl)) (by unfold Func.isWrapper; rw [if_neg (of_decide_eq_false (by kernel_rfl))]; exact ⟨rfl, rfl⟩)
    (fun os started H enc _ => lifted os started H enc)
#print axioms holds
end LawParts
end Go.Proofs.Ytpbbbfglecbceaa
