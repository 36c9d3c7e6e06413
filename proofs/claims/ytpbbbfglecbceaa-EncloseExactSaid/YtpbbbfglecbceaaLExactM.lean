/- The rectangles of exact sums, differences and products lie in those of the rectangles, and the power of the rectangle encloses the power: for all numbers. -/
import Derived.Test.YtpbbbfglecbceaaRows
import Derived.Test.YtpbbbfglecbceaaFlat
import Derived.Test.YtpbbbfglecbceaaEn17
import Derived.Test.YtpbbbfglecbceaaMxC
import Derived.Test.YtpbbbfglecbceaaMxB
import Derived.Test.YtpbbbfglecbceaaRt
import Derived.Test.YtpbbbfglecbceaaLFExact
import Derived.WalkKit
import Derived.ProofKit
import Derived.OpenShut
namespace Go.Proofs.Ytpbbbfglecbceaa
set_option linter.all false
open Go.ChangeShapes Go.WideShapes Go.ChangeAt Go.RowKit
namespace LawExact

set_option maxRecDepth 100000 in
set_option maxHeartbeats 1000000 in
theorem walk (x y : Nm) (w : World) : Calls Try.prog 17 #[nmV x, nmV y] w fun e w' => e = .returned (.bool true) ∧ Below w.heap.size w w' := by
  have F1 := fromN_any x
  have F2 := fromN_any y
  obtain ⟨⟨a, ea⟩, ha⟩ : ∃ r, fromR x = r := ⟨_, rfl⟩
  obtain ⟨⟨b, eb⟩, hb⟩ : ∃ r, fromR y = r := ⟨_, rfl⟩
  rw [ha] at F1
  rw [hb] at F2
  replace F1 := Lib.hid F1
  replace F2 := Lib.hid F2
  replace ha := Lib.hid ha
  replace hb := Lib.hid hb
  go_enter Try.func17, Try.ntmps17
  refine wk_start ?_
  refine wk_seq ?_
  refine wk_region [1, 1, 0] rfl (by kernel_rfl) ?_
  simp only [List.zip_cons_cons, List.zip_nil_right]
  refine rg_new (cs := ?_) (ty := ?_) (by rfl) (fun w => ?_) (fun _ h => by cases h) (fun g1 => ?_); rotate_left 2
  focus (go_simp; rfl)
  simp only [Act.put, Act.eval, q1, q2, q3, q4, q5, q6, q7, q8, q9, q10, q11, q12, q13, q14, q15, q16, q17, q18, Nat.reduceAdd, Bool.not_true, Bool.not_false]
  refine rg_new (cs := ?_) (ty := ?_) (by rfl) (fun w => ?_) (fun _ h => by cases h) (fun g2 => ?_); rotate_left 2
  focus (go_simp; rfl)
  simp only [Act.put, Act.eval, q1, q2, q3, q4, q5, q6, q7, q8, q9, q10, q11, q12, q13, q14, q15, q16, q17, q18, Nat.reduceAdd, Bool.not_true, Bool.not_false]
  refine rg_assign ?_
  simp only [Act.put, Act.eval, q1, q2, q3, q4, q5, q6, q7, q8, q9, q10, q11, q12, q13, q14, q15, q16, q17, q18, Nat.reduceAdd, Bool.not_true, Bool.not_false]
  refine rg_nil ?_
  refine ek_next ?_
  refine wk_seq ?_
  refine wk_region [0, 1, 0, 0, 0, 1, 1, 0] rfl (by kernel_rfl) ?_
  simp only [List.zip_cons_cons, List.zip_nil_right]
  refine rf_loadR (n := 5) rfl rfl rfl Try.underlying69 rfl (by kernel_rfl) (fun w hw => Kn.hd0 (Kn.tl hw)) rfl rfl ?_
  simp only [Act.put, Act.eval, q1, q2, q3, q4, q5, q6, q7, q8, q9, q10, q11, q12, q13, q14, q15, q16, q17, q18, Nat.reduceAdd, Bool.not_true, Bool.not_false]
  apply rg_pure (by rfl) (by kernel_rfl)
  case hargs => (simp only [List.map_toArray, List.map_cons, List.map_nil, Act.eval, Array.getD_eq_getD_getElem?, List.getElem?_toArray, List.getElem?_cons_zero, List.getElem?_cons_succ, Option.getD_some]; exact rfl)
  case h => exact fun w hw => F1.out w
  case hz => exact (fun _ h => by cases h)
  simp only [Act.put, Act.eval, q1, q2, q3, q4, q5, q6, q7, q8, q9, q10, q11, q12, q13, q14, q15, q16, q17, q18, Nat.reduceAdd, Bool.not_true, Bool.not_false]
  refine rg_move ?_
  simp only [Act.put, Act.eval, q1, q2, q3, q4, q5, q6, q7, q8, q9, q10, q11, q12, q13, q14, q15, q16, q17, q18, Nat.reduceAdd, Bool.not_true, Bool.not_false]
  refine rf_extract rfl rfl rfl rfl ?_
  simp only [Act.put, Act.eval, q1, q2, q3, q4, q5, q6, q7, q8, q9, q10, q11, q12, q13, q14, q15, q16, q17, q18, Nat.reduceAdd, Bool.not_true, Bool.not_false]
  refine rf_extract rfl rfl rfl rfl ?_
  simp only [Act.put, Act.eval, q1, q2, q3, q4, q5, q6, q7, q8, q9, q10, q11, q12, q13, q14, q15, q16, q17, q18, Nat.reduceAdd, Bool.not_true, Bool.not_false]
  refine rg_new (cs := ?_) (ty := ?_) (by rfl) (fun w => ?_) (fun _ h => by cases h) (fun g3 => ?_); rotate_left 2
  focus (go_simp; rfl)
  simp only [Act.put, Act.eval, q1, q2, q3, q4, q5, q6, q7, q8, q9, q10, q11, q12, q13, q14, q15, q16, q17, q18, Nat.reduceAdd, Bool.not_true, Bool.not_false]
  refine rf_storeR (n := 4) rfl rfl (by kernel_rfl) rfl rfl (UpdR.here _ _ _ (Nat.le_of_ble_eq_true rfl)) (fun _ h => by cases h) ?_
  simp only [Act.put, Act.eval, q1, q2, q3, q4, q5, q6, q7, q8, q9, q10, q11, q12, q13, q14, q15, q16, q17, q18, Nat.reduceAdd, Bool.not_true, Bool.not_false]
  refine rg_assign ?_
  simp only [Act.put, Act.eval, q1, q2, q3, q4, q5, q6, q7, q8, q9, q10, q11, q12, q13, q14, q15, q16, q17, q18, Nat.reduceAdd, Bool.not_true, Bool.not_false]
  refine rg_nil ?_
  refine ek_next ?_
  refine wk_seq ?_
  refine wk_region [0, 1, 0, 0, 0, 1, 1, 0] rfl (by kernel_rfl) ?_
  simp only [List.zip_cons_cons, List.zip_nil_right]
  refine rf_loadR (n := 5) rfl rfl rfl Try.underlying69 rfl (by kernel_rfl) (fun w hw => Kn.hd0 (Kn.tl hw)) rfl rfl ?_
  simp only [Act.put, Act.eval, q1, q2, q3, q4, q5, q6, q7, q8, q9, q10, q11, q12, q13, q14, q15, q16, q17, q18, Nat.reduceAdd, Bool.not_true, Bool.not_false]
  apply rg_pure (by rfl) (by kernel_rfl)
  case hargs => (simp only [List.map_toArray, List.map_cons, List.map_nil, Act.eval, Array.getD_eq_getD_getElem?, List.getElem?_toArray, List.getElem?_cons_zero, List.getElem?_cons_succ, Option.getD_some]; exact rfl)
  case h => exact fun w hw => F2.out w
  case hz => exact (fun _ h => by cases h)
  simp only [Act.put, Act.eval, q1, q2, q3, q4, q5, q6, q7, q8, q9, q10, q11, q12, q13, q14, q15, q16, q17, q18, Nat.reduceAdd, Bool.not_true, Bool.not_false]
  refine rg_move ?_
  simp only [Act.put, Act.eval, q1, q2, q3, q4, q5, q6, q7, q8, q9, q10, q11, q12, q13, q14, q15, q16, q17, q18, Nat.reduceAdd, Bool.not_true, Bool.not_false]
  refine rf_extract rfl rfl rfl rfl ?_
  simp only [Act.put, Act.eval, q1, q2, q3, q4, q5, q6, q7, q8, q9, q10, q11, q12, q13, q14, q15, q16, q17, q18, Nat.reduceAdd, Bool.not_true, Bool.not_false]
  refine rf_extract rfl rfl rfl rfl ?_
  simp only [Act.put, Act.eval, q1, q2, q3, q4, q5, q6, q7, q8, q9, q10, q11, q12, q13, q14, q15, q16, q17, q18, Nat.reduceAdd, Bool.not_true, Bool.not_false]
  refine rg_new (cs := ?_) (ty := ?_) (by rfl) (fun w => ?_) (fun _ h => by cases h) (fun g4 => ?_); rotate_left 2
  focus (go_simp; rfl)
  simp only [Act.put, Act.eval, q1, q2, q3, q4, q5, q6, q7, q8, q9, q10, q11, q12, q13, q14, q15, q16, q17, q18, Nat.reduceAdd, Bool.not_true, Bool.not_false]
  refine rf_storeR (n := 4) rfl rfl (by kernel_rfl) rfl rfl (UpdR.here _ _ _ (Nat.le_of_ble_eq_true rfl)) (fun _ h => by cases h) ?_
  simp only [Act.put, Act.eval, q1, q2, q3, q4, q5, q6, q7, q8, q9, q10, q11, q12, q13, q14, q15, q16, q17, q18, Nat.reduceAdd, Bool.not_true, Bool.not_false]
  refine rg_assign ?_
  simp only [Act.put, Act.eval, q1, q2, q3, q4, q5, q6, q7, q8, q9, q10, q11, q12, q13, q14, q15, q16, q17, q18, Nat.reduceAdd, Bool.not_true, Bool.not_false]
  refine rg_nil ?_
  refine ek_next ?_
  refine wk_seq ?_
  refine wk_seq ?_
  refine wk_region [0, 0, 0, 0, 0, 0] rfl (by kernel_rfl) ?_
  simp only [List.zip_cons_cons, List.zip_nil_right]
  refine rg_move ?_
  simp only [Act.put, Act.eval, q1, q2, q3, q4, q5, q6, q7, q8, q9, q10, q11, q12, q13, q14, q15, q16, q17, q18, Nat.reduceAdd, Bool.not_true, Bool.not_false]
  refine rfb_neq rfl rfl rfl rfl ?_
  intro x h1
  cases x
  · (try simp only [decide_eq_true_eq, decide_eq_false_iff_not, Int.not_lt, Int.not_le, beq_iff_eq, beq_eq_false_iff_ne, bne_iff_ne, bne_eq_false_iff_eq, ne_eq, Bool.not_eq_true', Bool.not_eq_false'] at h1)
    simp only [Act.put, Act.eval, q1, q2, q3, q4, q5, q6, q7, q8, q9, q10, q11, q12, q13, q14, q15, q16, q17, q18, Nat.reduceAdd, Bool.not_true, Bool.not_false]
    refine rg_move ?_
    simp only [Act.put, Act.eval, q1, q2, q3, q4, q5, q6, q7, q8, q9, q10, q11, q12, q13, q14, q15, q16, q17, q18, Nat.reduceAdd, Bool.not_true, Bool.not_false]
    apply rg_soft_g
    case hg => rfl
    case hy => (intro w hw; go_simp; (try go_bits); exact Yld.mk _ _)
    simp only [Act.put, Act.eval, q1, q2, q3, q4, q5, q6, q7, q8, q9, q10, q11, q12, q13, q14, q15, q16, q17, q18, Nat.reduceAdd, Bool.not_true, Bool.not_false]
    refine rfb_neq rfl rfl rfl rfl ?_
    intro x h2
    cases x
    · (try simp only [decide_eq_true_eq, decide_eq_false_iff_not, Int.not_lt, Int.not_le, beq_iff_eq, beq_eq_false_iff_ne, bne_iff_ne, bne_eq_false_iff_eq, ne_eq, Bool.not_eq_true', Bool.not_eq_false'] at h2)
      simp only [Act.put, Act.eval, q1, q2, q3, q4, q5, q6, q7, q8, q9, q10, q11, q12, q13, q14, q15, q16, q17, q18, Nat.reduceAdd, Bool.not_true, Bool.not_false]
      refine rf_pick rfl rfl rfl ?_
      simp only [Act.put, Act.eval, q1, q2, q3, q4, q5, q6, q7, q8, q9, q10, q11, q12, q13, q14, q15, q16, q17, q18, Nat.reduceAdd, Bool.not_true, Bool.not_false]
      refine rg_nil ?_
      refine ek_next ?_
      refine wk_cond_f rfl ?_
      refine wk_skip ?_
      refine ek_next ?_
      refine wk_seq ?_
      obtain rfl : ea = 0 := by omega
      obtain rfl : eb = 0 := by omega
      obtain ⟨ox, kx, ex⟩ := from_zero (z := x) (by rw [ha.out])
      obtain ⟨oy, ky, ey⟩ := from_zero (z := y) (by rw [hb.out])
      have ga : boundR x = a := congrArg Prod.fst (ex.symm.trans ha.out)
      have gb : boundR y = b := congrArg Prod.fst (ey.symm.trans hb.out)
      obtain ⟨v1, e1, c1, m1, d1, h1', na1, nc1, nd1, K1⟩ := ex_add ox oy kx ky
      have A1 := amAdd_ok x y ox oy
      rw [na1] at A1
      have C1 := addE_any a b
      rw [ga, gb] at nc1
      rw [nc1] at C1
      have D1 := fromN_any v1
      rw [nd1] at D1
      have J1 := in_any d1 c1
      obtain ⟨v2, e2, c2, m2, d2, h2', na2, nc2, nd2, K2⟩ := ex_sub ox oy kx ky
      have A2 := amSub_ok x y ox oy
      rw [na2] at A2
      have C2 := subE_any a b
      rw [ga, gb] at nc2
      rw [nc2] at C2
      have D2 := fromN_any v2
      rw [nd2] at D2
      have J2 := in_any d2 c2
      obtain ⟨v3, e3, c3, m3, d3, h3', na3, nc3, nd3, K3⟩ := ex_mul ox oy kx ky
      have A3 := amMul_ok x y ox oy
      rw [na3] at A3
      have C3 := mulE_any a b
      rw [ga, gb] at nc3
      rw [nc3] at C3
      have D3 := fromN_any v3
      rw [nd3] at D3
      have J3 := in_any d3 c3
      obtain ⟨v4, e4, c4, m4, d4, h4', na4, nc4, nd4, K4⟩ := ex_pow ox kx
      have A4 := amPower_ok x ox
      rw [na4] at A4
      have C4 := powerE_any a
      rw [ga] at nc4
      rw [nc4] at C4
      have D4 := fromN_any v4
      rw [nd4] at D4
      have J4 := in_any d4 ⟨c4, ⟨0, 0⟩⟩
      replace A1 := Lib.hid A1
      replace C1 := Lib.hid C1
      replace D1 := Lib.hid D1
      replace J1 := Lib.hid J1
      replace K1 := Lib.hid K1
      replace A2 := Lib.hid A2
      replace C2 := Lib.hid C2
      replace D2 := Lib.hid D2
      replace J2 := Lib.hid J2
      replace K2 := Lib.hid K2
      replace A3 := Lib.hid A3
      replace C3 := Lib.hid C3
      replace D3 := Lib.hid D3
      replace J3 := Lib.hid J3
      replace K3 := Lib.hid K3
      replace A4 := Lib.hid A4
      replace C4 := Lib.hid C4
      replace D4 := Lib.hid D4
      replace J4 := Lib.hid J4
      replace K4 := Lib.hid K4
      clear ga gb ha hb ex ey F1 F2 na1 na2 na3 na4 nc1 nc2 nc3 nc4 nd1 nd2 nd3 nd4 kx ky ox oy
      refine wk_region [1, 0] rfl (by kernel_rfl) ?_
      simp only [List.zip_cons_cons, List.zip_nil_right]
      refine rg_newS (cs := ?_) (ty := ?_) (n := 3) (c := 3) (by rfl) (fun w => ?_) (fun _ h => by cases h) (fun g5 => ?_); rotate_left 2
      focus (go_simp; rfl)
      simp only [Act.put, Act.eval, q1, q2, q3, q4, q5, q6, q7, q8, q9, q10, q11, q12, q13, q14, q15, q16, q17, q18, Nat.reduceAdd, Bool.not_true, Bool.not_false]
      refine rg_assign ?_
      simp only [Act.put, Act.eval, q1, q2, q3, q4, q5, q6, q7, q8, q9, q10, q11, q12, q13, q14, q15, q16, q17, q18, Nat.reduceAdd, Bool.not_true, Bool.not_false]
      refine rg_nil ?_
      refine ek_next ?_
      refine wk_seq ?_
      refine wk_seq ?_
      refine wk_region [1, 0, 0] rfl (by kernel_rfl) ?_
      simp only [List.zip_cons_cons, List.zip_nil_right]
      refine rg_newS (cs := ?_) (ty := ?_) (n := 3) (c := 3) (by rfl) (fun w => ?_) (fun _ h => by cases h) (fun g6 => ?_); rotate_left 2
      focus (go_simp; rfl)
      simp only [Act.put, Act.eval, q1, q2, q3, q4, q5, q6, q7, q8, q9, q10, q11, q12, q13, q14, q15, q16, q17, q18, Nat.reduceAdd, Bool.not_true, Bool.not_false]
      refine rf_len rfl rfl rfl Try.underlying61 ?_
      simp only [Act.put, Act.eval, q1, q2, q3, q4, q5, q6, q7, q8, q9, q10, q11, q12, q13, q14, q15, q16, q17, q18, Nat.reduceAdd, Bool.not_true, Bool.not_false]
      refine rg_move ?_
      simp only [Act.put, Act.eval, q1, q2, q3, q4, q5, q6, q7, q8, q9, q10, q11, q12, q13, q14, q15, q16, q17, q18, Nat.reduceAdd, Bool.not_true, Bool.not_false]
      refine rg_nil ?_
      refine ek_next ?_
      refine wk_block ?_
      refine wk_unroll 4 ?_
      refine wk_seq ?_
      refine wk_region [0] rfl (by kernel_rfl) ?_
      simp only [List.zip_cons_cons, List.zip_nil_right]
      refine rf_lss (b := true) rfl rfl rfl rfl (by decide) ?_
      simp only [Act.put, Act.eval, q1, q2, q3, q4, q5, q6, q7, q8, q9, q10, q11, q12, q13, q14, q15, q16, q17, q18, Nat.reduceAdd, Bool.not_true, Bool.not_false]
      refine rg_nil ?_
      refine ek_next ?_
      refine wk_seq ?_
      refine wk_cond_t rfl ?_
      refine wk_skip ?_
      refine ek_next ?_
      refine wk_seq ?_
      refine wk_block ?_
      refine wk_seq ?_
      refine wk_region [0, 0, 0, 0, 0] rfl (by kernel_rfl) ?_
      simp only [List.zip_cons_cons, List.zip_nil_right]
      refine rg_move ?_
      simp only [Act.put, Act.eval, q1, q2, q3, q4, q5, q6, q7, q8, q9, q10, q11, q12, q13, q14, q15, q16, q17, q18, Nat.reduceAdd, Bool.not_true, Bool.not_false]
      apply rg_soft
      case hy => (intro w hw; go_simp; (try go_bits); exact Yld.mk _ _)
      simp only [Act.put, Act.eval, q1, q2, q3, q4, q5, q6, q7, q8, q9, q10, q11, q12, q13, q14, q15, q16, q17, q18, Nat.reduceAdd, Bool.not_true, Bool.not_false]
      refine rf_load rfl rfl rfl Try.underlying31 rfl (fun w hw => (Kn.hd0 hw).at rfl) ?_
      simp only [Act.put, Act.eval, q1, q2, q3, q4, q5, q6, q7, q8, q9, q10, q11, q12, q13, q14, q15, q16, q17, q18, Nat.reduceAdd, Bool.not_true, Bool.not_false]
      refine rg_assign ?_
      simp only [Act.put, Act.eval, q1, q2, q3, q4, q5, q6, q7, q8, q9, q10, q11, q12, q13, q14, q15, q16, q17, q18, Nat.reduceAdd, Bool.not_true, Bool.not_false]
      refine rg_assign ?_
      simp only [Act.put, Act.eval, q1, q2, q3, q4, q5, q6, q7, q8, q9, q10, q11, q12, q13, q14, q15, q16, q17, q18, Nat.reduceAdd, Bool.not_true, Bool.not_false]
      refine rg_nil ?_
      refine ek_next ?_
      refine wk_cutF [12, 13, 47, 48, 49, 50, 51, 52, 53, 54, 55, 56] (fun f s => ∃ (gz : Nat), f 12 = .pointer (some ⟨gz, 0, none⟩) ∧ f 13 = .int .i64 e1 ∧ s = ((gz, .cells #[.int .i64 v1.a, .int .i64 v1.b, .int .i64 v1.c, .int .i64 v1.d, .int .i64 v1.k] 69) :: ((g6, .cells #[.func (.func 21) #[] #[], .func (.func 23) #[] #[], .func (.func 45) #[] #[]] 31) :: ((g5, .cells #[.func (.func 58) #[] #[], .func (.func 59) #[] #[], .func (.func 60) #[] #[]] 74) :: ((g4, .cells #[.int .i64 b.re.lo, .int .i64 b.re.hi, .int .i64 b.im.lo, .int .i64 b.im.hi] 25) :: ((g3, .cells #[.int .i64 a.re.lo, .int .i64 a.re.hi, .int .i64 a.im.lo, .int .i64 a.im.hi] 25) :: ((g2, .cells #[.int .i64 y.a, .int .i64 y.b, .int .i64 y.c, .int .i64 y.d, .int .i64 y.k] 69) :: ((g1, .cells #[.int .i64 x.a, .int .i64 x.b, .int .i64 x.c, .int .i64 x.d, .int .i64 x.k] 69) :: [])))))))) ?_ ?_
      · refine wk_rt _ (by kernel_rfl) (sc _ (sc _ (sc _ (sc _ (sc _ (sc _ sn)))))) ?_
        refine rt_soft (i := 0) rfl (by kernel_rfl) (fun c d v a w h => by cases d <;> exact h) (sc _ (sc _ (sc _ (sc _ (sc _ (sc _ sn)))))) ?_
        refine rg_move ?_
        simp only [Act.put, Act.eval, q1, q2, q3, q4, q5, q6, q7, q8, q9, q10, q11, q12, q13, q14, q15, q16, q17, q18, Nat.reduceAdd, Bool.not_true, Bool.not_false]
        refine rg_nil ?_
        refine ek_rt (sc _ (sc _ (sc _ (sc _ (sc _ (sc _ sn)))))) ?_
        refine rt_soft (i := 1) rfl (by kernel_rfl) (fun c d v a w h => by cases d <;> exact h) (sc _ (sc _ (sc _ (sc _ (sc _ (sc _ sn)))))) ?_
        refine rg_move ?_
        simp only [Act.put, Act.eval, q1, q2, q3, q4, q5, q6, q7, q8, q9, q10, q11, q12, q13, q14, q15, q16, q17, q18, Nat.reduceAdd, Bool.not_true, Bool.not_false]
        refine rg_nil ?_
        refine ek_rt (sc _ (sc _ (sc _ (sc _ (sc _ (sc _ sn)))))) ?_
        refine rt_soft (i := 2) rfl (by kernel_rfl) (fun c d v a w h => by cases d <;> exact h) (sc _ (sc _ (sc _ (sc _ (sc _ (sc _ sn)))))) ?_
        apply rg_soft
        case hy => (intro w hw; go_simp; (try go_bits); exact Yld.mk _ _)
        simp only [Act.put, Act.eval, q1, q2, q3, q4, q5, q6, q7, q8, q9, q10, q11, q12, q13, q14, q15, q16, q17, q18, Nat.reduceAdd, Bool.not_true, Bool.not_false]
        refine rg_nil ?_
        refine ek_rt (sc _ (sc _ (sc _ (sc _ (sc _ (sc _ sn)))))) ?_
        refine rt_soft (i := 3) rfl (by kernel_rfl) (fun c d v a w h => by cases d <;> exact h) (sc _ (sc _ (sc _ (sc _ (sc _ (sc _ sn)))))) ?_
        refine rf_load rfl rfl rfl Try.underlying74 rfl (fun w hw => (Kn.hd0 (Kn.tl hw)).at rfl) ?_
        simp only [Act.put, Act.eval, q1, q2, q3, q4, q5, q6, q7, q8, q9, q10, q11, q12, q13, q14, q15, q16, q17, q18, Nat.reduceAdd, Bool.not_true, Bool.not_false]
        refine rg_nil ?_
        refine ek_rt (sc _ (sc _ (sc _ (sc _ (sc _ (sc _ sn)))))) ?_
        refine rt_soft (i := 4) rfl (by kernel_rfl) (fun c d v a w h => by cases d <;> exact h) (sc _ (sc _ (sc _ (sc _ (sc _ (sc _ sn)))))) ?_
        refine rf_loadR (n := 5) rfl rfl rfl Try.underlying69 rfl (by kernel_rfl) (fun w hw => Kn.hd0 (Kn.tl (Kn.tl (Kn.tl (Kn.tl (Kn.tl hw)))))) rfl rfl ?_
        simp only [Act.put, Act.eval, q1, q2, q3, q4, q5, q6, q7, q8, q9, q10, q11, q12, q13, q14, q15, q16, q17, q18, Nat.reduceAdd, Bool.not_true, Bool.not_false]
        refine rg_nil ?_
        refine ek_rt (sc _ (sc _ (sc _ (sc _ (sc _ (sc _ sn)))))) ?_
        refine rt_soft (i := 5) rfl (by kernel_rfl) (fun c d v a w h => by cases d <;> exact h) (sc _ (sc _ (sc _ (sc _ (sc _ (sc _ sn)))))) ?_
        refine rf_loadR (n := 5) rfl rfl rfl Try.underlying69 rfl (by kernel_rfl) (fun w hw => Kn.hd0 (Kn.tl (Kn.tl (Kn.tl (Kn.tl hw))))) rfl rfl ?_
        simp only [Act.put, Act.eval, q1, q2, q3, q4, q5, q6, q7, q8, q9, q10, q11, q12, q13, q14, q15, q16, q17, q18, Nat.reduceAdd, Bool.not_true, Bool.not_false]
        refine rg_nil ?_
        refine ek_rt (sc _ (sc _ (sc _ (sc _ (sc _ (sc _ sn)))))) ?_
        refine rt_hard2 (i := 6) (j := 10) (by kernel_rfl) rfl rfl ?_ ?_
        · refine CV.rg_callV (f := 58) (caps := #[]) (vs := #[nmV x, nmV y]) (v := .tuple #[nmV v1, .int .i64 e1]) (by rfl) rfl (by kernel_rfl) (by simp only [List.map_toArray, List.map_cons, List.map_nil, Act.eval, q4, q5, q6, q7, q8] <;> rfl) (fun w hw => A1.out w) (fun _ h => by cases h; exact (sc _ (sc _ (sc _ (sc _ (sc _ (sc _ sn))))))) ?_
          simp only [Act.put, Act.eval, q1, q2, q3, q4, q5, q6, q7, q8, q9, q10, q11, q12, q13, q14, q15, q16, q17, q18, Nat.reduceAdd, Bool.not_true, Bool.not_false]
          refine rg_nil ?_
          refine ek_rt (sc _ (sc _ (sc _ (sc _ (sc _ (sc _ sn)))))) ?_
          refine rt_soft (i := 7) rfl (by kernel_rfl) (fun c d v a w h => by cases d <;> exact h) (sc _ (sc _ (sc _ (sc _ (sc _ (sc _ sn)))))) ?_
          refine rg_move ?_
          simp only [Act.put, Act.eval, q1, q2, q3, q4, q5, q6, q7, q8, q9, q10, q11, q12, q13, q14, q15, q16, q17, q18, Nat.reduceAdd, Bool.not_true, Bool.not_false]
          refine rg_nil ?_
          refine ek_rt (sc _ (sc _ (sc _ (sc _ (sc _ (sc _ sn)))))) ?_
          refine rt_soft (i := 8) rfl (by kernel_rfl) (fun c d v a w h => by cases d <;> exact h) (sc _ (sc _ (sc _ (sc _ (sc _ (sc _ sn)))))) ?_
          refine rf_extract rfl rfl rfl rfl ?_
          simp only [Act.put, Act.eval, q1, q2, q3, q4, q5, q6, q7, q8, q9, q10, q11, q12, q13, q14, q15, q16, q17, q18, Nat.reduceAdd, Bool.not_true, Bool.not_false]
          refine rg_nil ?_
          refine ek_rt (sc _ (sc _ (sc _ (sc _ (sc _ (sc _ sn)))))) ?_
          refine rt_soft (i := 9) rfl (by kernel_rfl) (fun c d v a w h => by cases d <;> exact h) (sc _ (sc _ (sc _ (sc _ (sc _ (sc _ sn)))))) ?_
          refine rf_extract rfl rfl rfl rfl ?_
          simp only [Act.put, Act.eval, q1, q2, q3, q4, q5, q6, q7, q8, q9, q10, q11, q12, q13, q14, q15, q16, q17, q18, Nat.reduceAdd, Bool.not_true, Bool.not_false]
          refine rg_nil ?_
          refine ek_rt (sc _ (sc _ (sc _ (sc _ (sc _ (sc _ sn)))))) ?_
          refine rt_hard1 (i := 10) (by kernel_rfl) rfl ?_
          refine rg_new (cs := ?_) (ty := ?_) (by rfl) (fun w => ?_) (fun _ h => by cases h; exact (sc _ (sc _ (sc _ (sc _ (sc _ (sc _ sn))))))) (fun g7 => ?_); rotate_left 2
          focus (go_simp; rfl)
          simp only [Act.put, Act.eval, q1, q2, q3, q4, q5, q6, q7, q8, q9, q10, q11, q12, q13, q14, q15, q16, q17, q18, Nat.reduceAdd, Bool.not_true, Bool.not_false]
          refine rg_nil ?_
          refine ek_rt (sk _ (sc _ (sc _ (sc _ (sc _ (sc _ (sc _ sn))))))) ?_
          refine rt_hard1 (i := 11) (by kernel_rfl) rfl ?_
          refine rf_storeR (n := 5) rfl rfl (by kernel_rfl) rfl rfl (UpdR.here _ _ _ (Nat.le_of_ble_eq_true rfl)) (fun _ h => by cases h; exact (sk _ (sc _ (sc _ (sc _ (sc _ (sc _ (sc _ sn)))))))) ?_
          simp only [Act.put, Act.eval, q1, q2, q3, q4, q5, q6, q7, q8, q9, q10, q11, q12, q13, q14, q15, q16, q17, q18, Nat.reduceAdd, Bool.not_true, Bool.not_false]
          refine rg_nil ?_
          refine ek_rt (sk _ (sc _ (sc _ (sc _ (sc _ (sc _ (sc _ sn))))))) ?_
          refine rt_soft (i := 12) rfl (by kernel_rfl) (fun c d v a w h => by cases d <;> exact h) (sk _ (sc _ (sc _ (sc _ (sc _ (sc _ (sc _ sn))))))) ?_
          refine rg_assign ?_
          simp only [Act.put, Act.eval, q1, q2, q3, q4, q5, q6, q7, q8, q9, q10, q11, q12, q13, q14, q15, q16, q17, q18, Nat.reduceAdd, Bool.not_true, Bool.not_false]
          refine rg_nil ?_
          refine ek_rt (sk _ (sc _ (sc _ (sc _ (sc _ (sc _ (sc _ sn))))))) ?_
          refine rt_nil (by kernel_rfl) ?_
          refine ek_midF (by kernel_rfl) ?_
          exact ⟨g7, rfl, rfl, by rfl⟩
        · refine rg_new (cs := ?_) (ty := ?_) (by rfl) (fun w => ?_) (fun _ h => by cases h; exact (sc _ (sc _ (sc _ (sc _ (sc _ (sc _ sn))))))) (fun g8 => ?_); rotate_left 2
          focus (go_simp; rfl)
          simp only [Act.put, Act.eval, q1, q2, q3, q4, q5, q6, q7, q8, q9, q10, q11, q12, q13, q14, q15, q16, q17, q18, Nat.reduceAdd, Bool.not_true, Bool.not_false]
          refine rg_nil ?_
          refine ek_rt (sk _ (sc _ (sc _ (sc _ (sc _ (sc _ (sc _ sn))))))) ?_
          refine rt_hard1 (i := 6) (by kernel_rfl) rfl ?_
          refine CV.rg_callV (f := 58) (caps := #[]) (vs := #[nmV x, nmV y]) (v := .tuple #[nmV v1, .int .i64 e1]) (by rfl) rfl (by kernel_rfl) (by simp only [List.map_toArray, List.map_cons, List.map_nil, Act.eval, q4, q5, q6, q7, q8] <;> rfl) (fun w hw => A1.out w) (fun _ h => by cases h; exact (sk _ (sc _ (sc _ (sc _ (sc _ (sc _ (sc _ sn)))))))) ?_
          simp only [Act.put, Act.eval, q1, q2, q3, q4, q5, q6, q7, q8, q9, q10, q11, q12, q13, q14, q15, q16, q17, q18, Nat.reduceAdd, Bool.not_true, Bool.not_false]
          refine rg_nil ?_
          refine ek_rt (sk _ (sc _ (sc _ (sc _ (sc _ (sc _ (sc _ sn))))))) ?_
          refine rt_soft (i := 7) rfl (by kernel_rfl) (fun c d v a w h => by cases d <;> exact h) (sk _ (sc _ (sc _ (sc _ (sc _ (sc _ (sc _ sn))))))) ?_
          refine rg_move ?_
          simp only [Act.put, Act.eval, q1, q2, q3, q4, q5, q6, q7, q8, q9, q10, q11, q12, q13, q14, q15, q16, q17, q18, Nat.reduceAdd, Bool.not_true, Bool.not_false]
          refine rg_nil ?_
          refine ek_rt (sk _ (sc _ (sc _ (sc _ (sc _ (sc _ (sc _ sn))))))) ?_
          refine rt_soft (i := 8) rfl (by kernel_rfl) (fun c d v a w h => by cases d <;> exact h) (sk _ (sc _ (sc _ (sc _ (sc _ (sc _ (sc _ sn))))))) ?_
          refine rf_extract rfl rfl rfl rfl ?_
          simp only [Act.put, Act.eval, q1, q2, q3, q4, q5, q6, q7, q8, q9, q10, q11, q12, q13, q14, q15, q16, q17, q18, Nat.reduceAdd, Bool.not_true, Bool.not_false]
          refine rg_nil ?_
          refine ek_rt (sk _ (sc _ (sc _ (sc _ (sc _ (sc _ (sc _ sn))))))) ?_
          refine rt_soft (i := 9) rfl (by kernel_rfl) (fun c d v a w h => by cases d <;> exact h) (sk _ (sc _ (sc _ (sc _ (sc _ (sc _ (sc _ sn))))))) ?_
          refine rf_extract rfl rfl rfl rfl ?_
          simp only [Act.put, Act.eval, q1, q2, q3, q4, q5, q6, q7, q8, q9, q10, q11, q12, q13, q14, q15, q16, q17, q18, Nat.reduceAdd, Bool.not_true, Bool.not_false]
          refine rg_nil ?_
          refine ek_rt (sk _ (sc _ (sc _ (sc _ (sc _ (sc _ (sc _ sn))))))) ?_
          refine rt_hard1 (i := 11) (by kernel_rfl) rfl ?_
          refine rf_storeR (n := 5) rfl rfl (by kernel_rfl) rfl rfl (UpdR.here _ _ _ (Nat.le_of_ble_eq_true rfl)) (fun _ h => by cases h; exact (sk _ (sc _ (sc _ (sc _ (sc _ (sc _ (sc _ sn)))))))) ?_
          simp only [Act.put, Act.eval, q1, q2, q3, q4, q5, q6, q7, q8, q9, q10, q11, q12, q13, q14, q15, q16, q17, q18, Nat.reduceAdd, Bool.not_true, Bool.not_false]
          refine rg_nil ?_
          refine ek_rt (sk _ (sc _ (sc _ (sc _ (sc _ (sc _ (sc _ sn))))))) ?_
          refine rt_soft (i := 12) rfl (by kernel_rfl) (fun c d v a w h => by cases d <;> exact h) (sk _ (sc _ (sc _ (sc _ (sc _ (sc _ (sc _ sn))))))) ?_
          refine rg_assign ?_
          simp only [Act.put, Act.eval, q1, q2, q3, q4, q5, q6, q7, q8, q9, q10, q11, q12, q13, q14, q15, q16, q17, q18, Nat.reduceAdd, Bool.not_true, Bool.not_false]
          refine rg_nil ?_
          refine ek_rt (sk _ (sc _ (sc _ (sc _ (sc _ (sc _ (sc _ sn))))))) ?_
          refine rt_nil (by kernel_rfl) ?_
          refine ek_midF (by kernel_rfl) ?_
          exact ⟨g8, rfl, rfl, by rfl⟩
      · rintro f1 s ⟨gz, hs1_12, hs1_13, rfl⟩
        simp only [Act.putF, List.foldl_cons, List.foldl_nil, hs1_12, hs1_13, Act.put, Act.eval, q1, q2, q3, q4, q5, q6, q7, q8, q9, q10, q11, q12, q13, q14, q15, q16, q17, q18, Nat.reduceAdd, Bool.not_true, Bool.not_false]
        clear hs1_12 hs1_13
        refine wk_seq ?_
        refine wk_region [0, 0, 0, 1, 0, 0, 0, 1, 1, 0] rfl (by kernel_rfl) ?_
        simp only [List.zip_cons_cons, List.zip_nil_right]
        refine rg_move ?_
        simp only [Act.put, Act.eval, q1, q2, q3, q4, q5, q6, q7, q8, q9, q10, q11, q12, q13, q14, q15, q16, q17, q18, Nat.reduceAdd, Bool.not_true, Bool.not_false]
        refine rf_loadR (n := 4) rfl rfl rfl Try.underlying25 rfl (by kernel_rfl) (fun w hw => Kn.hd0 (Kn.tl (Kn.tl (Kn.tl (Kn.tl hw))))) rfl rfl ?_
        simp only [Act.put, Act.eval, q1, q2, q3, q4, q5, q6, q7, q8, q9, q10, q11, q12, q13, q14, q15, q16, q17, q18, Nat.reduceAdd, Bool.not_true, Bool.not_false]
        refine rf_loadR (n := 4) rfl rfl rfl Try.underlying25 rfl (by kernel_rfl) (fun w hw => Kn.hd0 (Kn.tl (Kn.tl (Kn.tl hw)))) rfl rfl ?_
        simp only [Act.put, Act.eval, q1, q2, q3, q4, q5, q6, q7, q8, q9, q10, q11, q12, q13, q14, q15, q16, q17, q18, Nat.reduceAdd, Bool.not_true, Bool.not_false]
        refine CV.rg_callV (f := 21) (caps := #[]) (vs := #[rcV a, rcV b]) (v := rcE (c1, m1)) (by rfl) rfl (by kernel_rfl) (by simp only [List.map_toArray, List.map_cons, List.map_nil, Act.eval, q4, q5, q6, q7, q8] <;> rfl) (fun w hw => C1.out w) (fun _ h => by cases h) ?_
        simp only [Act.put, Act.eval, q1, q2, q3, q4, q5, q6, q7, q8, q9, q10, q11, q12, q13, q14, q15, q16, q17, q18, Nat.reduceAdd, Bool.not_true, Bool.not_false]
        refine rg_move ?_
        simp only [Act.put, Act.eval, q1, q2, q3, q4, q5, q6, q7, q8, q9, q10, q11, q12, q13, q14, q15, q16, q17, q18, Nat.reduceAdd, Bool.not_true, Bool.not_false]
        refine rf_extract rfl rfl rfl rfl ?_
        simp only [Act.put, Act.eval, q1, q2, q3, q4, q5, q6, q7, q8, q9, q10, q11, q12, q13, q14, q15, q16, q17, q18, Nat.reduceAdd, Bool.not_true, Bool.not_false]
        refine rf_extract rfl rfl rfl rfl ?_
        simp only [Act.put, Act.eval, q1, q2, q3, q4, q5, q6, q7, q8, q9, q10, q11, q12, q13, q14, q15, q16, q17, q18, Nat.reduceAdd, Bool.not_true, Bool.not_false]
        refine rg_new (cs := ?_) (ty := ?_) (by rfl) (fun w => ?_) (fun _ h => by cases h) (fun g9 => ?_); rotate_left 2
        focus (go_simp; rfl)
        simp only [Act.put, Act.eval, q1, q2, q3, q4, q5, q6, q7, q8, q9, q10, q11, q12, q13, q14, q15, q16, q17, q18, Nat.reduceAdd, Bool.not_true, Bool.not_false]
        refine rf_storeR (n := 4) rfl rfl (by kernel_rfl) rfl rfl (UpdR.here _ _ _ (Nat.le_of_ble_eq_true rfl)) (fun _ h => by cases h) ?_
        simp only [Act.put, Act.eval, q1, q2, q3, q4, q5, q6, q7, q8, q9, q10, q11, q12, q13, q14, q15, q16, q17, q18, Nat.reduceAdd, Bool.not_true, Bool.not_false]
        refine rg_assign ?_
        simp only [Act.put, Act.eval, q1, q2, q3, q4, q5, q6, q7, q8, q9, q10, q11, q12, q13, q14, q15, q16, q17, q18, Nat.reduceAdd, Bool.not_true, Bool.not_false]
        refine rg_nil ?_
        refine ek_next ?_
        refine wk_seq ?_
        refine wk_region [0, 1, 0, 0, 0, 1, 1, 0] rfl (by kernel_rfl) ?_
        simp only [List.zip_cons_cons, List.zip_nil_right]
        refine rf_loadR (n := 5) rfl rfl rfl Try.underlying69 rfl (by kernel_rfl) (fun w hw => Kn.hd0 (Kn.tl hw)) rfl rfl ?_
        simp only [Act.put, Act.eval, q1, q2, q3, q4, q5, q6, q7, q8, q9, q10, q11, q12, q13, q14, q15, q16, q17, q18, Nat.reduceAdd, Bool.not_true, Bool.not_false]
        apply rg_pure (by rfl) (by kernel_rfl)
        case hargs => (simp only [List.map_toArray, List.map_cons, List.map_nil, Act.eval, Array.getD_eq_getD_getElem?, List.getElem?_toArray, List.getElem?_cons_zero, List.getElem?_cons_succ, Option.getD_some]; exact rfl)
        case h => exact fun w hw => D1.out w
        case hz => exact (fun _ h => by cases h)
        simp only [Act.put, Act.eval, q1, q2, q3, q4, q5, q6, q7, q8, q9, q10, q11, q12, q13, q14, q15, q16, q17, q18, Nat.reduceAdd, Bool.not_true, Bool.not_false]
        refine rg_move ?_
        simp only [Act.put, Act.eval, q1, q2, q3, q4, q5, q6, q7, q8, q9, q10, q11, q12, q13, q14, q15, q16, q17, q18, Nat.reduceAdd, Bool.not_true, Bool.not_false]
        refine rf_extract rfl rfl rfl rfl ?_
        simp only [Act.put, Act.eval, q1, q2, q3, q4, q5, q6, q7, q8, q9, q10, q11, q12, q13, q14, q15, q16, q17, q18, Nat.reduceAdd, Bool.not_true, Bool.not_false]
        refine rf_extract rfl rfl rfl rfl ?_
        simp only [Act.put, Act.eval, q1, q2, q3, q4, q5, q6, q7, q8, q9, q10, q11, q12, q13, q14, q15, q16, q17, q18, Nat.reduceAdd, Bool.not_true, Bool.not_false]
        refine rg_new (cs := ?_) (ty := ?_) (by rfl) (fun w => ?_) (fun _ h => by cases h) (fun g10 => ?_); rotate_left 2
        focus (go_simp; rfl)
        simp only [Act.put, Act.eval, q1, q2, q3, q4, q5, q6, q7, q8, q9, q10, q11, q12, q13, q14, q15, q16, q17, q18, Nat.reduceAdd, Bool.not_true, Bool.not_false]
        refine rf_storeR (n := 4) rfl rfl (by kernel_rfl) rfl rfl (UpdR.here _ _ _ (Nat.le_of_ble_eq_true rfl)) (fun _ h => by cases h) ?_
        simp only [Act.put, Act.eval, q1, q2, q3, q4, q5, q6, q7, q8, q9, q10, q11, q12, q13, q14, q15, q16, q17, q18, Nat.reduceAdd, Bool.not_true, Bool.not_false]
        refine rg_assign ?_
        simp only [Act.put, Act.eval, q1, q2, q3, q4, q5, q6, q7, q8, q9, q10, q11, q12, q13, q14, q15, q16, q17, q18, Nat.reduceAdd, Bool.not_true, Bool.not_false]
        refine rg_nil ?_
        refine ek_next ?_
        refine wk_cutF [69, 70, 71, 72, 73, 74, 75, 76, 77, 78, 79, 80, 81, 82, 83, 84] (fun f s => f 84 = .bool false ∧ s = ((g6, .cells #[.func (.func 21) #[] #[], .func (.func 23) #[] #[], .func (.func 45) #[] #[]] 31) :: ((g5, .cells #[.func (.func 58) #[] #[], .func (.func 59) #[] #[], .func (.func 60) #[] #[]] 74) :: ((g4, .cells #[.int .i64 b.re.lo, .int .i64 b.re.hi, .int .i64 b.im.lo, .int .i64 b.im.hi] 25) :: ((g3, .cells #[.int .i64 a.re.lo, .int .i64 a.re.hi, .int .i64 a.im.lo, .int .i64 a.im.hi] 25) :: ((g2, .cells #[.int .i64 y.a, .int .i64 y.b, .int .i64 y.c, .int .i64 y.d, .int .i64 y.k] 69) :: ((g1, .cells #[.int .i64 x.a, .int .i64 x.b, .int .i64 x.c, .int .i64 x.d, .int .i64 x.k] 69) :: []))))))) ?_ ?_
        · refine wk_region [0, 0, 0, 0, 0, 0, 0, 0, 0, 0, 0, 0, 0, 1, 0, 0] rfl (by kernel_rfl) ?_
          simp only [List.zip_cons_cons, List.zip_nil_right]
          refine rg_move ?_
          simp only [Act.put, Act.eval, q1, q2, q3, q4, q5, q6, q7, q8, q9, q10, q11, q12, q13, q14, q15, q16, q17, q18, Nat.reduceAdd, Bool.not_true, Bool.not_false]
          refine rfb_eql rfl rfl rfl rfl ?_
          intro x h3
          cases x
          · (try simp only [decide_eq_true_eq, decide_eq_false_iff_not, Int.not_lt, Int.not_le, beq_iff_eq, beq_eq_false_iff_ne, bne_iff_ne, bne_eq_false_iff_eq, ne_eq, Bool.not_eq_true', Bool.not_eq_false'] at h3)
            simp only [Act.put, Act.eval, q1, q2, q3, q4, q5, q6, q7, q8, q9, q10, q11, q12, q13, q14, q15, q16, q17, q18, Nat.reduceAdd, Bool.not_true, Bool.not_false]
            refine rg_move ?_
            simp only [Act.put, Act.eval, q1, q2, q3, q4, q5, q6, q7, q8, q9, q10, q11, q12, q13, q14, q15, q16, q17, q18, Nat.reduceAdd, Bool.not_true, Bool.not_false]
            refine rg_skip (by rfl) ?_
            simp only [Act.put, Act.eval, q1, q2, q3, q4, q5, q6, q7, q8, q9, q10, q11, q12, q13, q14, q15, q16, q17, q18, Nat.reduceAdd, Bool.not_true, Bool.not_false]
            refine rg_skip (by rfl) ?_
            simp only [Act.put, Act.eval, q1, q2, q3, q4, q5, q6, q7, q8, q9, q10, q11, q12, q13, q14, q15, q16, q17, q18, Nat.reduceAdd, Bool.not_true, Bool.not_false]
            refine rf_pick rfl rfl rfl ?_
            simp only [Act.put, Act.eval, q1, q2, q3, q4, q5, q6, q7, q8, q9, q10, q11, q12, q13, q14, q15, q16, q17, q18, Nat.reduceAdd, Bool.not_true, Bool.not_false]
            refine rg_move ?_
            simp only [Act.put, Act.eval, q1, q2, q3, q4, q5, q6, q7, q8, q9, q10, q11, q12, q13, q14, q15, q16, q17, q18, Nat.reduceAdd, Bool.not_true, Bool.not_false]
            refine rg_skip (by rfl) ?_
            simp only [Act.put, Act.eval, q1, q2, q3, q4, q5, q6, q7, q8, q9, q10, q11, q12, q13, q14, q15, q16, q17, q18, Nat.reduceAdd, Bool.not_true, Bool.not_false]
            refine rg_skip (by rfl) ?_
            simp only [Act.put, Act.eval, q1, q2, q3, q4, q5, q6, q7, q8, q9, q10, q11, q12, q13, q14, q15, q16, q17, q18, Nat.reduceAdd, Bool.not_true, Bool.not_false]
            refine rf_pick rfl rfl rfl ?_
            simp only [Act.put, Act.eval, q1, q2, q3, q4, q5, q6, q7, q8, q9, q10, q11, q12, q13, q14, q15, q16, q17, q18, Nat.reduceAdd, Bool.not_true, Bool.not_false]
            refine rg_move ?_
            simp only [Act.put, Act.eval, q1, q2, q3, q4, q5, q6, q7, q8, q9, q10, q11, q12, q13, q14, q15, q16, q17, q18, Nat.reduceAdd, Bool.not_true, Bool.not_false]
            refine rg_skip (by rfl) ?_
            simp only [Act.put, Act.eval, q1, q2, q3, q4, q5, q6, q7, q8, q9, q10, q11, q12, q13, q14, q15, q16, q17, q18, Nat.reduceAdd, Bool.not_true, Bool.not_false]
            refine rg_skip (by rfl) ?_
            simp only [Act.put, Act.eval, q1, q2, q3, q4, q5, q6, q7, q8, q9, q10, q11, q12, q13, q14, q15, q16, q17, q18, Nat.reduceAdd, Bool.not_true, Bool.not_false]
            refine rg_skip_h (by rfl) (fun _ h => by cases h) ?_
            simp only [Act.put, Act.eval, q1, q2, q3, q4, q5, q6, q7, q8, q9, q10, q11, q12, q13, q14, q15, q16, q17, q18, Nat.reduceAdd, Bool.not_true, Bool.not_false]
            refine rg_skip (by rfl) ?_
            simp only [Act.put, Act.eval, q1, q2, q3, q4, q5, q6, q7, q8, q9, q10, q11, q12, q13, q14, q15, q16, q17, q18, Nat.reduceAdd, Bool.not_true, Bool.not_false]
            refine rf_pick rfl rfl rfl ?_
            simp only [Act.put, Act.eval, q1, q2, q3, q4, q5, q6, q7, q8, q9, q10, q11, q12, q13, q14, q15, q16, q17, q18, Nat.reduceAdd, Bool.not_true, Bool.not_false]
            refine rg_nil ?_
            refine ek_sub (sk _ (sk _ (sk _ (sc _ (sc _ (sc _ (sc _ (sc _ (sc _ sn))))))))) ?_
            refine ek_midF (by kernel_rfl) ?_
            exact ⟨rfl, by rfl⟩
          · (try simp only [decide_eq_true_eq, decide_eq_false_iff_not, Int.not_lt, Int.not_le, beq_iff_eq, beq_eq_false_iff_ne, bne_iff_ne, bne_eq_false_iff_eq, ne_eq, Bool.not_eq_true', Bool.not_eq_false'] at h3)
            simp only [Act.put, Act.eval, q1, q2, q3, q4, q5, q6, q7, q8, q9, q10, q11, q12, q13, q14, q15, q16, q17, q18, Nat.reduceAdd, Bool.not_true, Bool.not_false]
            refine rg_move ?_
            simp only [Act.put, Act.eval, q1, q2, q3, q4, q5, q6, q7, q8, q9, q10, q11, q12, q13, q14, q15, q16, q17, q18, Nat.reduceAdd, Bool.not_true, Bool.not_false]
            apply rg_soft_g
            case hg => rfl
            case hy => (intro w hw; go_simp; (try go_bits); exact Yld.mk _ _)
            simp only [Act.put, Act.eval, q1, q2, q3, q4, q5, q6, q7, q8, q9, q10, q11, q12, q13, q14, q15, q16, q17, q18, Nat.reduceAdd, Bool.not_true, Bool.not_false]
            refine rfb_eql rfl rfl rfl rfl ?_
            intro x h4
            cases x
            · (try simp only [decide_eq_true_eq, decide_eq_false_iff_not, Int.not_lt, Int.not_le, beq_iff_eq, beq_eq_false_iff_ne, bne_iff_ne, bne_eq_false_iff_eq, ne_eq, Bool.not_eq_true', Bool.not_eq_false'] at h4)
              simp only [Act.put, Act.eval, q1, q2, q3, q4, q5, q6, q7, q8, q9, q10, q11, q12, q13, q14, q15, q16, q17, q18, Nat.reduceAdd, Bool.not_true, Bool.not_false]
              refine rf_pick rfl rfl rfl ?_
              simp only [Act.put, Act.eval, q1, q2, q3, q4, q5, q6, q7, q8, q9, q10, q11, q12, q13, q14, q15, q16, q17, q18, Nat.reduceAdd, Bool.not_true, Bool.not_false]
              refine rg_move ?_
              simp only [Act.put, Act.eval, q1, q2, q3, q4, q5, q6, q7, q8, q9, q10, q11, q12, q13, q14, q15, q16, q17, q18, Nat.reduceAdd, Bool.not_true, Bool.not_false]
              refine rg_skip (by rfl) ?_
              simp only [Act.put, Act.eval, q1, q2, q3, q4, q5, q6, q7, q8, q9, q10, q11, q12, q13, q14, q15, q16, q17, q18, Nat.reduceAdd, Bool.not_true, Bool.not_false]
              refine rg_skip (by rfl) ?_
              simp only [Act.put, Act.eval, q1, q2, q3, q4, q5, q6, q7, q8, q9, q10, q11, q12, q13, q14, q15, q16, q17, q18, Nat.reduceAdd, Bool.not_true, Bool.not_false]
              refine rf_pick rfl rfl rfl ?_
              simp only [Act.put, Act.eval, q1, q2, q3, q4, q5, q6, q7, q8, q9, q10, q11, q12, q13, q14, q15, q16, q17, q18, Nat.reduceAdd, Bool.not_true, Bool.not_false]
              refine rg_move ?_
              simp only [Act.put, Act.eval, q1, q2, q3, q4, q5, q6, q7, q8, q9, q10, q11, q12, q13, q14, q15, q16, q17, q18, Nat.reduceAdd, Bool.not_true, Bool.not_false]
              refine rg_skip (by rfl) ?_
              simp only [Act.put, Act.eval, q1, q2, q3, q4, q5, q6, q7, q8, q9, q10, q11, q12, q13, q14, q15, q16, q17, q18, Nat.reduceAdd, Bool.not_true, Bool.not_false]
              refine rg_skip (by rfl) ?_
              simp only [Act.put, Act.eval, q1, q2, q3, q4, q5, q6, q7, q8, q9, q10, q11, q12, q13, q14, q15, q16, q17, q18, Nat.reduceAdd, Bool.not_true, Bool.not_false]
              refine rg_skip_h (by rfl) (fun _ h => by cases h) ?_
              simp only [Act.put, Act.eval, q1, q2, q3, q4, q5, q6, q7, q8, q9, q10, q11, q12, q13, q14, q15, q16, q17, q18, Nat.reduceAdd, Bool.not_true, Bool.not_false]
              refine rg_skip (by rfl) ?_
              simp only [Act.put, Act.eval, q1, q2, q3, q4, q5, q6, q7, q8, q9, q10, q11, q12, q13, q14, q15, q16, q17, q18, Nat.reduceAdd, Bool.not_true, Bool.not_false]
              refine rf_pick rfl rfl rfl ?_
              simp only [Act.put, Act.eval, q1, q2, q3, q4, q5, q6, q7, q8, q9, q10, q11, q12, q13, q14, q15, q16, q17, q18, Nat.reduceAdd, Bool.not_true, Bool.not_false]
              refine rg_nil ?_
              refine ek_sub (sk _ (sk _ (sk _ (sc _ (sc _ (sc _ (sc _ (sc _ (sc _ sn))))))))) ?_
              refine ek_midF (by kernel_rfl) ?_
              exact ⟨rfl, by rfl⟩
            · (try simp only [decide_eq_true_eq, decide_eq_false_iff_not, Int.not_lt, Int.not_le, beq_iff_eq, beq_eq_false_iff_ne, bne_iff_ne, bne_eq_false_iff_eq, ne_eq, Bool.not_eq_true', Bool.not_eq_false'] at h4)
              simp only [Act.put, Act.eval, q1, q2, q3, q4, q5, q6, q7, q8, q9, q10, q11, q12, q13, q14, q15, q16, q17, q18, Nat.reduceAdd, Bool.not_true, Bool.not_false]
              refine rf_pick rfl rfl rfl ?_
              simp only [Act.put, Act.eval, q1, q2, q3, q4, q5, q6, q7, q8, q9, q10, q11, q12, q13, q14, q15, q16, q17, q18, Nat.reduceAdd, Bool.not_true, Bool.not_false]
              refine rg_move ?_
              simp only [Act.put, Act.eval, q1, q2, q3, q4, q5, q6, q7, q8, q9, q10, q11, q12, q13, q14, q15, q16, q17, q18, Nat.reduceAdd, Bool.not_true, Bool.not_false]
              apply rg_soft_g
              case hg => rfl
              case hy => (intro w hw; go_simp; (try go_bits); exact Yld.mk _ _)
              simp only [Act.put, Act.eval, q1, q2, q3, q4, q5, q6, q7, q8, q9, q10, q11, q12, q13, q14, q15, q16, q17, q18, Nat.reduceAdd, Bool.not_true, Bool.not_false]
              refine rfb_eql rfl rfl rfl rfl ?_
              intro x h5
              cases x
              · (try simp only [decide_eq_true_eq, decide_eq_false_iff_not, Int.not_lt, Int.not_le, beq_iff_eq, beq_eq_false_iff_ne, bne_iff_ne, bne_eq_false_iff_eq, ne_eq, Bool.not_eq_true', Bool.not_eq_false'] at h5)
                simp only [Act.put, Act.eval, q1, q2, q3, q4, q5, q6, q7, q8, q9, q10, q11, q12, q13, q14, q15, q16, q17, q18, Nat.reduceAdd, Bool.not_true, Bool.not_false]
                refine rf_pick rfl rfl rfl ?_
                simp only [Act.put, Act.eval, q1, q2, q3, q4, q5, q6, q7, q8, q9, q10, q11, q12, q13, q14, q15, q16, q17, q18, Nat.reduceAdd, Bool.not_true, Bool.not_false]
                refine rg_move ?_
                simp only [Act.put, Act.eval, q1, q2, q3, q4, q5, q6, q7, q8, q9, q10, q11, q12, q13, q14, q15, q16, q17, q18, Nat.reduceAdd, Bool.not_true, Bool.not_false]
                refine rg_skip (by rfl) ?_
                simp only [Act.put, Act.eval, q1, q2, q3, q4, q5, q6, q7, q8, q9, q10, q11, q12, q13, q14, q15, q16, q17, q18, Nat.reduceAdd, Bool.not_true, Bool.not_false]
                refine rg_skip (by rfl) ?_
                simp only [Act.put, Act.eval, q1, q2, q3, q4, q5, q6, q7, q8, q9, q10, q11, q12, q13, q14, q15, q16, q17, q18, Nat.reduceAdd, Bool.not_true, Bool.not_false]
                refine rg_skip_h (by rfl) (fun _ h => by cases h) ?_
                simp only [Act.put, Act.eval, q1, q2, q3, q4, q5, q6, q7, q8, q9, q10, q11, q12, q13, q14, q15, q16, q17, q18, Nat.reduceAdd, Bool.not_true, Bool.not_false]
                refine rg_skip (by rfl) ?_
                simp only [Act.put, Act.eval, q1, q2, q3, q4, q5, q6, q7, q8, q9, q10, q11, q12, q13, q14, q15, q16, q17, q18, Nat.reduceAdd, Bool.not_true, Bool.not_false]
                refine rf_pick rfl rfl rfl ?_
                simp only [Act.put, Act.eval, q1, q2, q3, q4, q5, q6, q7, q8, q9, q10, q11, q12, q13, q14, q15, q16, q17, q18, Nat.reduceAdd, Bool.not_true, Bool.not_false]
                refine rg_nil ?_
                refine ek_sub (sk _ (sk _ (sk _ (sc _ (sc _ (sc _ (sc _ (sc _ (sc _ sn))))))))) ?_
                refine ek_midF (by kernel_rfl) ?_
                exact ⟨rfl, by rfl⟩
              · (try simp only [decide_eq_true_eq, decide_eq_false_iff_not, Int.not_lt, Int.not_le, beq_iff_eq, beq_eq_false_iff_ne, bne_iff_ne, bne_eq_false_iff_eq, ne_eq, Bool.not_eq_true', Bool.not_eq_false'] at h5)
                simp only [Act.put, Act.eval, q1, q2, q3, q4, q5, q6, q7, q8, q9, q10, q11, q12, q13, q14, q15, q16, q17, q18, Nat.reduceAdd, Bool.not_true, Bool.not_false]
                refine rf_pick rfl rfl rfl ?_
                simp only [Act.put, Act.eval, q1, q2, q3, q4, q5, q6, q7, q8, q9, q10, q11, q12, q13, q14, q15, q16, q17, q18, Nat.reduceAdd, Bool.not_true, Bool.not_false]
                refine rg_move ?_
                simp only [Act.put, Act.eval, q1, q2, q3, q4, q5, q6, q7, q8, q9, q10, q11, q12, q13, q14, q15, q16, q17, q18, Nat.reduceAdd, Bool.not_true, Bool.not_false]
                refine rf_loadR (n := 4) rfl rfl rfl Try.underlying25 rfl (by kernel_rfl) (fun w hw => Kn.hd0 hw) rfl rfl ?_
                simp only [Act.put, Act.eval, q1, q2, q3, q4, q5, q6, q7, q8, q9, q10, q11, q12, q13, q14, q15, q16, q17, q18, Nat.reduceAdd, Bool.not_true, Bool.not_false]
                refine rf_loadR (n := 4) rfl rfl rfl Try.underlying25 rfl (by kernel_rfl) (fun w hw => Kn.hd0 (Kn.tl hw)) rfl rfl ?_
                simp only [Act.put, Act.eval, q1, q2, q3, q4, q5, q6, q7, q8, q9, q10, q11, q12, q13, q14, q15, q16, q17, q18, Nat.reduceAdd, Bool.not_true, Bool.not_false]
                apply rg_pureb (by rfl) (by kernel_rfl)
                case hargs => (simp only [List.map_toArray, List.map_cons, List.map_nil, Act.eval, Array.getD_eq_getD_getElem?, List.getElem?_toArray, List.getElem?_cons_zero, List.getElem?_cons_succ, Option.getD_some]; exact rfl)
                case h => exact fun w hw => J1.out w
                case hz => exact (fun _ h => by cases h)
                intro x h6
                cases x
                · (try simp only [decide_eq_true_eq, decide_eq_false_iff_not, Int.not_lt, Int.not_le, beq_iff_eq, beq_eq_false_iff_ne, bne_iff_ne, bne_eq_false_iff_eq, ne_eq, Bool.not_eq_true', Bool.not_eq_false'] at h6)
                  simp only [Act.put, Act.eval, q1, q2, q3, q4, q5, q6, q7, q8, q9, q10, q11, q12, q13, q14, q15, q16, q17, q18, Nat.reduceAdd, Bool.not_true, Bool.not_false]
                  exact absurd ((K1.out h3 h4 h5).symm.trans h6) (by decide)
                · (try simp only [decide_eq_true_eq, decide_eq_false_iff_not, Int.not_lt, Int.not_le, beq_iff_eq, beq_eq_false_iff_ne, bne_iff_ne, bne_eq_false_iff_eq, ne_eq, Bool.not_eq_true', Bool.not_eq_false'] at h6)
                  simp only [Act.put, Act.eval, q1, q2, q3, q4, q5, q6, q7, q8, q9, q10, q11, q12, q13, q14, q15, q16, q17, q18, Nat.reduceAdd, Bool.not_true, Bool.not_false]
                  refine rf_not rfl rfl rfl ?_
                  simp only [Act.put, Act.eval, q1, q2, q3, q4, q5, q6, q7, q8, q9, q10, q11, q12, q13, q14, q15, q16, q17, q18, Nat.reduceAdd, Bool.not_true, Bool.not_false]
                  refine rf_pick rfl rfl rfl ?_
                  simp only [Act.put, Act.eval, q1, q2, q3, q4, q5, q6, q7, q8, q9, q10, q11, q12, q13, q14, q15, q16, q17, q18, Nat.reduceAdd, Bool.not_true, Bool.not_false]
                  refine rg_nil ?_
                  refine ek_sub (sk _ (sk _ (sk _ (sc _ (sc _ (sc _ (sc _ (sc _ (sc _ sn))))))))) ?_
                  refine ek_midF (by kernel_rfl) ?_
                  exact ⟨rfl, by rfl⟩
        · rintro f2 s ⟨hs2_84, rfl⟩
          simp only [Act.putF, List.foldl_cons, List.foldl_nil, hs2_84, Act.put, Act.eval, q1, q2, q3, q4, q5, q6, q7, q8, q9, q10, q11, q12, q13, q14, q15, q16, q17, q18, Nat.reduceAdd, Bool.not_true, Bool.not_false]
          clear hs2_84
          refine wk_cond_f rfl ?_
          refine wk_skip ?_
          refine ek_block ?_
          refine ek_next ?_
          refine wk_region [0, 0] rfl (by kernel_rfl) ?_
          simp only [List.zip_cons_cons, List.zip_nil_right]
          refine rf_add (r := 1) rfl rfl rfl rfl (by decide) ?_
          simp only [Act.put, Act.eval, q1, q2, q3, q4, q5, q6, q7, q8, q9, q10, q11, q12, q13, q14, q15, q16, q17, q18, Nat.reduceAdd, Bool.not_true, Bool.not_false]
          refine rg_move ?_
          simp only [Act.put, Act.eval, q1, q2, q3, q4, q5, q6, q7, q8, q9, q10, q11, q12, q13, q14, q15, q16, q17, q18, Nat.reduceAdd, Bool.not_true, Bool.not_false]
          refine rg_nil ?_
          refine ek_again ?_
          refine wk_seq ?_
          refine wk_region [0] rfl (by kernel_rfl) ?_
          simp only [List.zip_cons_cons, List.zip_nil_right]
          refine rf_lss (b := true) rfl rfl rfl rfl (by decide) ?_
          simp only [Act.put, Act.eval, q1, q2, q3, q4, q5, q6, q7, q8, q9, q10, q11, q12, q13, q14, q15, q16, q17, q18, Nat.reduceAdd, Bool.not_true, Bool.not_false]
          refine rg_nil ?_
          refine ek_next ?_
          refine wk_seq ?_
          refine wk_cond_t rfl ?_
          refine wk_skip ?_
          refine ek_next ?_
          refine wk_seq ?_
          refine wk_block ?_
          refine wk_seq ?_
          refine wk_region [0, 0, 0, 0, 0] rfl (by kernel_rfl) ?_
          simp only [List.zip_cons_cons, List.zip_nil_right]
          refine rg_move ?_
          simp only [Act.put, Act.eval, q1, q2, q3, q4, q5, q6, q7, q8, q9, q10, q11, q12, q13, q14, q15, q16, q17, q18, Nat.reduceAdd, Bool.not_true, Bool.not_false]
          apply rg_soft
          case hy => (intro w hw; go_simp; (try go_bits); exact Yld.mk _ _)
          simp only [Act.put, Act.eval, q1, q2, q3, q4, q5, q6, q7, q8, q9, q10, q11, q12, q13, q14, q15, q16, q17, q18, Nat.reduceAdd, Bool.not_true, Bool.not_false]
          refine rf_load rfl rfl rfl Try.underlying31 rfl (fun w hw => (Kn.hd0 hw).at rfl) ?_
          simp only [Act.put, Act.eval, q1, q2, q3, q4, q5, q6, q7, q8, q9, q10, q11, q12, q13, q14, q15, q16, q17, q18, Nat.reduceAdd, Bool.not_true, Bool.not_false]
          refine rg_assign ?_
          simp only [Act.put, Act.eval, q1, q2, q3, q4, q5, q6, q7, q8, q9, q10, q11, q12, q13, q14, q15, q16, q17, q18, Nat.reduceAdd, Bool.not_true, Bool.not_false]
          refine rg_assign ?_
          simp only [Act.put, Act.eval, q1, q2, q3, q4, q5, q6, q7, q8, q9, q10, q11, q12, q13, q14, q15, q16, q17, q18, Nat.reduceAdd, Bool.not_true, Bool.not_false]
          refine rg_nil ?_
          refine ek_next ?_
          refine wk_cutF [12, 13, 47, 48, 49, 50, 51, 52, 53, 54, 55, 56] (fun f s => ∃ (gz : Nat), f 12 = .pointer (some ⟨gz, 0, none⟩) ∧ f 13 = .int .i64 e2 ∧ s = ((gz, .cells #[.int .i64 v2.a, .int .i64 v2.b, .int .i64 v2.c, .int .i64 v2.d, .int .i64 v2.k] 69) :: ((g6, .cells #[.func (.func 21) #[] #[], .func (.func 23) #[] #[], .func (.func 45) #[] #[]] 31) :: ((g5, .cells #[.func (.func 58) #[] #[], .func (.func 59) #[] #[], .func (.func 60) #[] #[]] 74) :: ((g4, .cells #[.int .i64 b.re.lo, .int .i64 b.re.hi, .int .i64 b.im.lo, .int .i64 b.im.hi] 25) :: ((g3, .cells #[.int .i64 a.re.lo, .int .i64 a.re.hi, .int .i64 a.im.lo, .int .i64 a.im.hi] 25) :: ((g2, .cells #[.int .i64 y.a, .int .i64 y.b, .int .i64 y.c, .int .i64 y.d, .int .i64 y.k] 69) :: ((g1, .cells #[.int .i64 x.a, .int .i64 x.b, .int .i64 x.c, .int .i64 x.d, .int .i64 x.k] 69) :: [])))))))) ?_ ?_
          · refine wk_rt _ (by kernel_rfl) (sc _ (sc _ (sc _ (sc _ (sc _ (sc _ sn)))))) ?_
            refine rt_soft (i := 0) rfl (by kernel_rfl) (fun c d v a w h => by cases d <;> exact h) (sc _ (sc _ (sc _ (sc _ (sc _ (sc _ sn)))))) ?_
            refine rg_move ?_
            simp only [Act.put, Act.eval, q1, q2, q3, q4, q5, q6, q7, q8, q9, q10, q11, q12, q13, q14, q15, q16, q17, q18, Nat.reduceAdd, Bool.not_true, Bool.not_false]
            refine rg_nil ?_
            refine ek_rt (sc _ (sc _ (sc _ (sc _ (sc _ (sc _ sn)))))) ?_
            refine rt_soft (i := 1) rfl (by kernel_rfl) (fun c d v a w h => by cases d <;> exact h) (sc _ (sc _ (sc _ (sc _ (sc _ (sc _ sn)))))) ?_
            refine rg_move ?_
            simp only [Act.put, Act.eval, q1, q2, q3, q4, q5, q6, q7, q8, q9, q10, q11, q12, q13, q14, q15, q16, q17, q18, Nat.reduceAdd, Bool.not_true, Bool.not_false]
            refine rg_nil ?_
            refine ek_rt (sc _ (sc _ (sc _ (sc _ (sc _ (sc _ sn)))))) ?_
            refine rt_soft (i := 2) rfl (by kernel_rfl) (fun c d v a w h => by cases d <;> exact h) (sc _ (sc _ (sc _ (sc _ (sc _ (sc _ sn)))))) ?_
            apply rg_soft
            case hy => (intro w hw; go_simp; (try go_bits); exact Yld.mk _ _)
            simp only [Act.put, Act.eval, q1, q2, q3, q4, q5, q6, q7, q8, q9, q10, q11, q12, q13, q14, q15, q16, q17, q18, Nat.reduceAdd, Bool.not_true, Bool.not_false]
            refine rg_nil ?_
            refine ek_rt (sc _ (sc _ (sc _ (sc _ (sc _ (sc _ sn)))))) ?_
            refine rt_soft (i := 3) rfl (by kernel_rfl) (fun c d v a w h => by cases d <;> exact h) (sc _ (sc _ (sc _ (sc _ (sc _ (sc _ sn)))))) ?_
            refine rf_load rfl rfl rfl Try.underlying74 rfl (fun w hw => (Kn.hd0 (Kn.tl hw)).at rfl) ?_
            simp only [Act.put, Act.eval, q1, q2, q3, q4, q5, q6, q7, q8, q9, q10, q11, q12, q13, q14, q15, q16, q17, q18, Nat.reduceAdd, Bool.not_true, Bool.not_false]
            refine rg_nil ?_
            refine ek_rt (sc _ (sc _ (sc _ (sc _ (sc _ (sc _ sn)))))) ?_
            refine rt_soft (i := 4) rfl (by kernel_rfl) (fun c d v a w h => by cases d <;> exact h) (sc _ (sc _ (sc _ (sc _ (sc _ (sc _ sn)))))) ?_
            refine rf_loadR (n := 5) rfl rfl rfl Try.underlying69 rfl (by kernel_rfl) (fun w hw => Kn.hd0 (Kn.tl (Kn.tl (Kn.tl (Kn.tl (Kn.tl hw)))))) rfl rfl ?_
            simp only [Act.put, Act.eval, q1, q2, q3, q4, q5, q6, q7, q8, q9, q10, q11, q12, q13, q14, q15, q16, q17, q18, Nat.reduceAdd, Bool.not_true, Bool.not_false]
            refine rg_nil ?_
            refine ek_rt (sc _ (sc _ (sc _ (sc _ (sc _ (sc _ sn)))))) ?_
            refine rt_soft (i := 5) rfl (by kernel_rfl) (fun c d v a w h => by cases d <;> exact h) (sc _ (sc _ (sc _ (sc _ (sc _ (sc _ sn)))))) ?_
            refine rf_loadR (n := 5) rfl rfl rfl Try.underlying69 rfl (by kernel_rfl) (fun w hw => Kn.hd0 (Kn.tl (Kn.tl (Kn.tl (Kn.tl hw))))) rfl rfl ?_
            simp only [Act.put, Act.eval, q1, q2, q3, q4, q5, q6, q7, q8, q9, q10, q11, q12, q13, q14, q15, q16, q17, q18, Nat.reduceAdd, Bool.not_true, Bool.not_false]
            refine rg_nil ?_
            refine ek_rt (sc _ (sc _ (sc _ (sc _ (sc _ (sc _ sn)))))) ?_
            refine rt_hard2 (i := 6) (j := 10) (by kernel_rfl) rfl rfl ?_ ?_
            · refine CV.rg_callV (f := 59) (caps := #[]) (vs := #[nmV x, nmV y]) (v := .tuple #[nmV v2, .int .i64 e2]) (by rfl) rfl (by kernel_rfl) (by simp only [List.map_toArray, List.map_cons, List.map_nil, Act.eval, q4, q5, q6, q7, q8] <;> rfl) (fun w hw => A2.out w) (fun _ h => by cases h; exact (sc _ (sc _ (sc _ (sc _ (sc _ (sc _ sn))))))) ?_
              simp only [Act.put, Act.eval, q1, q2, q3, q4, q5, q6, q7, q8, q9, q10, q11, q12, q13, q14, q15, q16, q17, q18, Nat.reduceAdd, Bool.not_true, Bool.not_false]
              refine rg_nil ?_
              refine ek_rt (sc _ (sc _ (sc _ (sc _ (sc _ (sc _ sn)))))) ?_
              refine rt_soft (i := 7) rfl (by kernel_rfl) (fun c d v a w h => by cases d <;> exact h) (sc _ (sc _ (sc _ (sc _ (sc _ (sc _ sn)))))) ?_
              refine rg_move ?_
              simp only [Act.put, Act.eval, q1, q2, q3, q4, q5, q6, q7, q8, q9, q10, q11, q12, q13, q14, q15, q16, q17, q18, Nat.reduceAdd, Bool.not_true, Bool.not_false]
              refine rg_nil ?_
              refine ek_rt (sc _ (sc _ (sc _ (sc _ (sc _ (sc _ sn)))))) ?_
              refine rt_soft (i := 8) rfl (by kernel_rfl) (fun c d v a w h => by cases d <;> exact h) (sc _ (sc _ (sc _ (sc _ (sc _ (sc _ sn)))))) ?_
              refine rf_extract rfl rfl rfl rfl ?_
              simp only [Act.put, Act.eval, q1, q2, q3, q4, q5, q6, q7, q8, q9, q10, q11, q12, q13, q14, q15, q16, q17, q18, Nat.reduceAdd, Bool.not_true, Bool.not_false]
              refine rg_nil ?_
              refine ek_rt (sc _ (sc _ (sc _ (sc _ (sc _ (sc _ sn)))))) ?_
              refine rt_soft (i := 9) rfl (by kernel_rfl) (fun c d v a w h => by cases d <;> exact h) (sc _ (sc _ (sc _ (sc _ (sc _ (sc _ sn)))))) ?_
              refine rf_extract rfl rfl rfl rfl ?_
              simp only [Act.put, Act.eval, q1, q2, q3, q4, q5, q6, q7, q8, q9, q10, q11, q12, q13, q14, q15, q16, q17, q18, Nat.reduceAdd, Bool.not_true, Bool.not_false]
              refine rg_nil ?_
              refine ek_rt (sc _ (sc _ (sc _ (sc _ (sc _ (sc _ sn)))))) ?_
              refine rt_hard1 (i := 10) (by kernel_rfl) rfl ?_
              refine rg_new (cs := ?_) (ty := ?_) (by rfl) (fun w => ?_) (fun _ h => by cases h; exact (sc _ (sc _ (sc _ (sc _ (sc _ (sc _ sn))))))) (fun g11 => ?_); rotate_left 2
              focus (go_simp; rfl)
              simp only [Act.put, Act.eval, q1, q2, q3, q4, q5, q6, q7, q8, q9, q10, q11, q12, q13, q14, q15, q16, q17, q18, Nat.reduceAdd, Bool.not_true, Bool.not_false]
              refine rg_nil ?_
              refine ek_rt (sk _ (sc _ (sc _ (sc _ (sc _ (sc _ (sc _ sn))))))) ?_
              refine rt_hard1 (i := 11) (by kernel_rfl) rfl ?_
              refine rf_storeR (n := 5) rfl rfl (by kernel_rfl) rfl rfl (UpdR.here _ _ _ (Nat.le_of_ble_eq_true rfl)) (fun _ h => by cases h; exact (sk _ (sc _ (sc _ (sc _ (sc _ (sc _ (sc _ sn)))))))) ?_
              simp only [Act.put, Act.eval, q1, q2, q3, q4, q5, q6, q7, q8, q9, q10, q11, q12, q13, q14, q15, q16, q17, q18, Nat.reduceAdd, Bool.not_true, Bool.not_false]
              refine rg_nil ?_
              refine ek_rt (sk _ (sc _ (sc _ (sc _ (sc _ (sc _ (sc _ sn))))))) ?_
              refine rt_soft (i := 12) rfl (by kernel_rfl) (fun c d v a w h => by cases d <;> exact h) (sk _ (sc _ (sc _ (sc _ (sc _ (sc _ (sc _ sn))))))) ?_
              refine rg_assign ?_
              simp only [Act.put, Act.eval, q1, q2, q3, q4, q5, q6, q7, q8, q9, q10, q11, q12, q13, q14, q15, q16, q17, q18, Nat.reduceAdd, Bool.not_true, Bool.not_false]
              refine rg_nil ?_
              refine ek_rt (sk _ (sc _ (sc _ (sc _ (sc _ (sc _ (sc _ sn))))))) ?_
              refine rt_nil (by kernel_rfl) ?_
              refine ek_midF (by kernel_rfl) ?_
              exact ⟨g11, rfl, rfl, by rfl⟩
            · refine rg_new (cs := ?_) (ty := ?_) (by rfl) (fun w => ?_) (fun _ h => by cases h; exact (sc _ (sc _ (sc _ (sc _ (sc _ (sc _ sn))))))) (fun g12 => ?_); rotate_left 2
              focus (go_simp; rfl)
              simp only [Act.put, Act.eval, q1, q2, q3, q4, q5, q6, q7, q8, q9, q10, q11, q12, q13, q14, q15, q16, q17, q18, Nat.reduceAdd, Bool.not_true, Bool.not_false]
              refine rg_nil ?_
              refine ek_rt (sk _ (sc _ (sc _ (sc _ (sc _ (sc _ (sc _ sn))))))) ?_
              refine rt_hard1 (i := 6) (by kernel_rfl) rfl ?_
              refine CV.rg_callV (f := 59) (caps := #[]) (vs := #[nmV x, nmV y]) (v := .tuple #[nmV v2, .int .i64 e2]) (by rfl) rfl (by kernel_rfl) (by simp only [List.map_toArray, List.map_cons, List.map_nil, Act.eval, q4, q5, q6, q7, q8] <;> rfl) (fun w hw => A2.out w) (fun _ h => by cases h; exact (sk _ (sc _ (sc _ (sc _ (sc _ (sc _ (sc _ sn)))))))) ?_
              simp only [Act.put, Act.eval, q1, q2, q3, q4, q5, q6, q7, q8, q9, q10, q11, q12, q13, q14, q15, q16, q17, q18, Nat.reduceAdd, Bool.not_true, Bool.not_false]
              refine rg_nil ?_
              refine ek_rt (sk _ (sc _ (sc _ (sc _ (sc _ (sc _ (sc _ sn))))))) ?_
              refine rt_soft (i := 7) rfl (by kernel_rfl) (fun c d v a w h => by cases d <;> exact h) (sk _ (sc _ (sc _ (sc _ (sc _ (sc _ (sc _ sn))))))) ?_
              refine rg_move ?_
              simp only [Act.put, Act.eval, q1, q2, q3, q4, q5, q6, q7, q8, q9, q10, q11, q12, q13, q14, q15, q16, q17, q18, Nat.reduceAdd, Bool.not_true, Bool.not_false]
              refine rg_nil ?_
              refine ek_rt (sk _ (sc _ (sc _ (sc _ (sc _ (sc _ (sc _ sn))))))) ?_
              refine rt_soft (i := 8) rfl (by kernel_rfl) (fun c d v a w h => by cases d <;> exact h) (sk _ (sc _ (sc _ (sc _ (sc _ (sc _ (sc _ sn))))))) ?_
              refine rf_extract rfl rfl rfl rfl ?_
              simp only [Act.put, Act.eval, q1, q2, q3, q4, q5, q6, q7, q8, q9, q10, q11, q12, q13, q14, q15, q16, q17, q18, Nat.reduceAdd, Bool.not_true, Bool.not_false]
              refine rg_nil ?_
              refine ek_rt (sk _ (sc _ (sc _ (sc _ (sc _ (sc _ (sc _ sn))))))) ?_
              refine rt_soft (i := 9) rfl (by kernel_rfl) (fun c d v a w h => by cases d <;> exact h) (sk _ (sc _ (sc _ (sc _ (sc _ (sc _ (sc _ sn))))))) ?_
              refine rf_extract rfl rfl rfl rfl ?_
              simp only [Act.put, Act.eval, q1, q2, q3, q4, q5, q6, q7, q8, q9, q10, q11, q12, q13, q14, q15, q16, q17, q18, Nat.reduceAdd, Bool.not_true, Bool.not_false]
              refine rg_nil ?_
              refine ek_rt (sk _ (sc _ (sc _ (sc _ (sc _ (sc _ (sc _ sn))))))) ?_
              refine rt_hard1 (i := 11) (by kernel_rfl) rfl ?_
              refine rf_storeR (n := 5) rfl rfl (by kernel_rfl) rfl rfl (UpdR.here _ _ _ (Nat.le_of_ble_eq_true rfl)) (fun _ h => by cases h; exact (sk _ (sc _ (sc _ (sc _ (sc _ (sc _ (sc _ sn)))))))) ?_
              simp only [Act.put, Act.eval, q1, q2, q3, q4, q5, q6, q7, q8, q9, q10, q11, q12, q13, q14, q15, q16, q17, q18, Nat.reduceAdd, Bool.not_true, Bool.not_false]
              refine rg_nil ?_
              refine ek_rt (sk _ (sc _ (sc _ (sc _ (sc _ (sc _ (sc _ sn))))))) ?_
              refine rt_soft (i := 12) rfl (by kernel_rfl) (fun c d v a w h => by cases d <;> exact h) (sk _ (sc _ (sc _ (sc _ (sc _ (sc _ (sc _ sn))))))) ?_
              refine rg_assign ?_
              simp only [Act.put, Act.eval, q1, q2, q3, q4, q5, q6, q7, q8, q9, q10, q11, q12, q13, q14, q15, q16, q17, q18, Nat.reduceAdd, Bool.not_true, Bool.not_false]
              refine rg_nil ?_
              refine ek_rt (sk _ (sc _ (sc _ (sc _ (sc _ (sc _ (sc _ sn))))))) ?_
              refine rt_nil (by kernel_rfl) ?_
              refine ek_midF (by kernel_rfl) ?_
              exact ⟨g12, rfl, rfl, by rfl⟩
          · rintro f3 s ⟨gz, hs3_12, hs3_13, rfl⟩
            simp only [Act.putF, List.foldl_cons, List.foldl_nil, hs3_12, hs3_13, Act.put, Act.eval, q1, q2, q3, q4, q5, q6, q7, q8, q9, q10, q11, q12, q13, q14, q15, q16, q17, q18, Nat.reduceAdd, Bool.not_true, Bool.not_false]
            clear hs3_12 hs3_13
            refine wk_seq ?_
            refine wk_region [0, 0, 0, 1, 0, 0, 0, 1, 1, 0] rfl (by kernel_rfl) ?_
            simp only [List.zip_cons_cons, List.zip_nil_right]
            refine rg_move ?_
            simp only [Act.put, Act.eval, q1, q2, q3, q4, q5, q6, q7, q8, q9, q10, q11, q12, q13, q14, q15, q16, q17, q18, Nat.reduceAdd, Bool.not_true, Bool.not_false]
            refine rf_loadR (n := 4) rfl rfl rfl Try.underlying25 rfl (by kernel_rfl) (fun w hw => Kn.hd0 (Kn.tl (Kn.tl (Kn.tl (Kn.tl hw))))) rfl rfl ?_
            simp only [Act.put, Act.eval, q1, q2, q3, q4, q5, q6, q7, q8, q9, q10, q11, q12, q13, q14, q15, q16, q17, q18, Nat.reduceAdd, Bool.not_true, Bool.not_false]
            refine rf_loadR (n := 4) rfl rfl rfl Try.underlying25 rfl (by kernel_rfl) (fun w hw => Kn.hd0 (Kn.tl (Kn.tl (Kn.tl hw)))) rfl rfl ?_
            simp only [Act.put, Act.eval, q1, q2, q3, q4, q5, q6, q7, q8, q9, q10, q11, q12, q13, q14, q15, q16, q17, q18, Nat.reduceAdd, Bool.not_true, Bool.not_false]
            refine CV.rg_callV (f := 23) (caps := #[]) (vs := #[rcV a, rcV b]) (v := rcE (c2, m2)) (by rfl) rfl (by kernel_rfl) (by simp only [List.map_toArray, List.map_cons, List.map_nil, Act.eval, q4, q5, q6, q7, q8] <;> rfl) (fun w hw => C2.out w) (fun _ h => by cases h) ?_
            simp only [Act.put, Act.eval, q1, q2, q3, q4, q5, q6, q7, q8, q9, q10, q11, q12, q13, q14, q15, q16, q17, q18, Nat.reduceAdd, Bool.not_true, Bool.not_false]
            refine rg_move ?_
            simp only [Act.put, Act.eval, q1, q2, q3, q4, q5, q6, q7, q8, q9, q10, q11, q12, q13, q14, q15, q16, q17, q18, Nat.reduceAdd, Bool.not_true, Bool.not_false]
            refine rf_extract rfl rfl rfl rfl ?_
            simp only [Act.put, Act.eval, q1, q2, q3, q4, q5, q6, q7, q8, q9, q10, q11, q12, q13, q14, q15, q16, q17, q18, Nat.reduceAdd, Bool.not_true, Bool.not_false]
            refine rf_extract rfl rfl rfl rfl ?_
            simp only [Act.put, Act.eval, q1, q2, q3, q4, q5, q6, q7, q8, q9, q10, q11, q12, q13, q14, q15, q16, q17, q18, Nat.reduceAdd, Bool.not_true, Bool.not_false]
            refine rg_new (cs := ?_) (ty := ?_) (by rfl) (fun w => ?_) (fun _ h => by cases h) (fun g13 => ?_); rotate_left 2
            focus (go_simp; rfl)
            simp only [Act.put, Act.eval, q1, q2, q3, q4, q5, q6, q7, q8, q9, q10, q11, q12, q13, q14, q15, q16, q17, q18, Nat.reduceAdd, Bool.not_true, Bool.not_false]
            refine rf_storeR (n := 4) rfl rfl (by kernel_rfl) rfl rfl (UpdR.here _ _ _ (Nat.le_of_ble_eq_true rfl)) (fun _ h => by cases h) ?_
            simp only [Act.put, Act.eval, q1, q2, q3, q4, q5, q6, q7, q8, q9, q10, q11, q12, q13, q14, q15, q16, q17, q18, Nat.reduceAdd, Bool.not_true, Bool.not_false]
            refine rg_assign ?_
            simp only [Act.put, Act.eval, q1, q2, q3, q4, q5, q6, q7, q8, q9, q10, q11, q12, q13, q14, q15, q16, q17, q18, Nat.reduceAdd, Bool.not_true, Bool.not_false]
            refine rg_nil ?_
            refine ek_next ?_
            refine wk_seq ?_
            refine wk_region [0, 1, 0, 0, 0, 1, 1, 0] rfl (by kernel_rfl) ?_
            simp only [List.zip_cons_cons, List.zip_nil_right]
            refine rf_loadR (n := 5) rfl rfl rfl Try.underlying69 rfl (by kernel_rfl) (fun w hw => Kn.hd0 (Kn.tl hw)) rfl rfl ?_
            simp only [Act.put, Act.eval, q1, q2, q3, q4, q5, q6, q7, q8, q9, q10, q11, q12, q13, q14, q15, q16, q17, q18, Nat.reduceAdd, Bool.not_true, Bool.not_false]
            apply rg_pure (by rfl) (by kernel_rfl)
            case hargs => (simp only [List.map_toArray, List.map_cons, List.map_nil, Act.eval, Array.getD_eq_getD_getElem?, List.getElem?_toArray, List.getElem?_cons_zero, List.getElem?_cons_succ, Option.getD_some]; exact rfl)
            case h => exact fun w hw => D2.out w
            case hz => exact (fun _ h => by cases h)
            simp only [Act.put, Act.eval, q1, q2, q3, q4, q5, q6, q7, q8, q9, q10, q11, q12, q13, q14, q15, q16, q17, q18, Nat.reduceAdd, Bool.not_true, Bool.not_false]
            refine rg_move ?_
            simp only [Act.put, Act.eval, q1, q2, q3, q4, q5, q6, q7, q8, q9, q10, q11, q12, q13, q14, q15, q16, q17, q18, Nat.reduceAdd, Bool.not_true, Bool.not_false]
            refine rf_extract rfl rfl rfl rfl ?_
            simp only [Act.put, Act.eval, q1, q2, q3, q4, q5, q6, q7, q8, q9, q10, q11, q12, q13, q14, q15, q16, q17, q18, Nat.reduceAdd, Bool.not_true, Bool.not_false]
            refine rf_extract rfl rfl rfl rfl ?_
            simp only [Act.put, Act.eval, q1, q2, q3, q4, q5, q6, q7, q8, q9, q10, q11, q12, q13, q14, q15, q16, q17, q18, Nat.reduceAdd, Bool.not_true, Bool.not_false]
            refine rg_new (cs := ?_) (ty := ?_) (by rfl) (fun w => ?_) (fun _ h => by cases h) (fun g14 => ?_); rotate_left 2
            focus (go_simp; rfl)
            simp only [Act.put, Act.eval, q1, q2, q3, q4, q5, q6, q7, q8, q9, q10, q11, q12, q13, q14, q15, q16, q17, q18, Nat.reduceAdd, Bool.not_true, Bool.not_false]
            refine rf_storeR (n := 4) rfl rfl (by kernel_rfl) rfl rfl (UpdR.here _ _ _ (Nat.le_of_ble_eq_true rfl)) (fun _ h => by cases h) ?_
            simp only [Act.put, Act.eval, q1, q2, q3, q4, q5, q6, q7, q8, q9, q10, q11, q12, q13, q14, q15, q16, q17, q18, Nat.reduceAdd, Bool.not_true, Bool.not_false]
            refine rg_assign ?_
            simp only [Act.put, Act.eval, q1, q2, q3, q4, q5, q6, q7, q8, q9, q10, q11, q12, q13, q14, q15, q16, q17, q18, Nat.reduceAdd, Bool.not_true, Bool.not_false]
            refine rg_nil ?_
            refine ek_next ?_
            refine wk_cutF [69, 70, 71, 72, 73, 74, 75, 76, 77, 78, 79, 80, 81, 82, 83, 84] (fun f s => f 84 = .bool false ∧ s = ((g6, .cells #[.func (.func 21) #[] #[], .func (.func 23) #[] #[], .func (.func 45) #[] #[]] 31) :: ((g5, .cells #[.func (.func 58) #[] #[], .func (.func 59) #[] #[], .func (.func 60) #[] #[]] 74) :: ((g4, .cells #[.int .i64 b.re.lo, .int .i64 b.re.hi, .int .i64 b.im.lo, .int .i64 b.im.hi] 25) :: ((g3, .cells #[.int .i64 a.re.lo, .int .i64 a.re.hi, .int .i64 a.im.lo, .int .i64 a.im.hi] 25) :: ((g2, .cells #[.int .i64 y.a, .int .i64 y.b, .int .i64 y.c, .int .i64 y.d, .int .i64 y.k] 69) :: ((g1, .cells #[.int .i64 x.a, .int .i64 x.b, .int .i64 x.c, .int .i64 x.d, .int .i64 x.k] 69) :: []))))))) ?_ ?_
            · refine wk_region [0, 0, 0, 0, 0, 0, 0, 0, 0, 0, 0, 0, 0, 1, 0, 0] rfl (by kernel_rfl) ?_
              simp only [List.zip_cons_cons, List.zip_nil_right]
              refine rg_move ?_
              simp only [Act.put, Act.eval, q1, q2, q3, q4, q5, q6, q7, q8, q9, q10, q11, q12, q13, q14, q15, q16, q17, q18, Nat.reduceAdd, Bool.not_true, Bool.not_false]
              refine rfb_eql rfl rfl rfl rfl ?_
              intro x h7
              cases x
              · (try simp only [decide_eq_true_eq, decide_eq_false_iff_not, Int.not_lt, Int.not_le, beq_iff_eq, beq_eq_false_iff_ne, bne_iff_ne, bne_eq_false_iff_eq, ne_eq, Bool.not_eq_true', Bool.not_eq_false'] at h7)
                simp only [Act.put, Act.eval, q1, q2, q3, q4, q5, q6, q7, q8, q9, q10, q11, q12, q13, q14, q15, q16, q17, q18, Nat.reduceAdd, Bool.not_true, Bool.not_false]
                refine rg_move ?_
                simp only [Act.put, Act.eval, q1, q2, q3, q4, q5, q6, q7, q8, q9, q10, q11, q12, q13, q14, q15, q16, q17, q18, Nat.reduceAdd, Bool.not_true, Bool.not_false]
                refine rg_skip (by rfl) ?_
                simp only [Act.put, Act.eval, q1, q2, q3, q4, q5, q6, q7, q8, q9, q10, q11, q12, q13, q14, q15, q16, q17, q18, Nat.reduceAdd, Bool.not_true, Bool.not_false]
                refine rg_skip (by rfl) ?_
                simp only [Act.put, Act.eval, q1, q2, q3, q4, q5, q6, q7, q8, q9, q10, q11, q12, q13, q14, q15, q16, q17, q18, Nat.reduceAdd, Bool.not_true, Bool.not_false]
                refine rf_pick rfl rfl rfl ?_
                simp only [Act.put, Act.eval, q1, q2, q3, q4, q5, q6, q7, q8, q9, q10, q11, q12, q13, q14, q15, q16, q17, q18, Nat.reduceAdd, Bool.not_true, Bool.not_false]
                refine rg_move ?_
                simp only [Act.put, Act.eval, q1, q2, q3, q4, q5, q6, q7, q8, q9, q10, q11, q12, q13, q14, q15, q16, q17, q18, Nat.reduceAdd, Bool.not_true, Bool.not_false]
                refine rg_skip (by rfl) ?_
                simp only [Act.put, Act.eval, q1, q2, q3, q4, q5, q6, q7, q8, q9, q10, q11, q12, q13, q14, q15, q16, q17, q18, Nat.reduceAdd, Bool.not_true, Bool.not_false]
                refine rg_skip (by rfl) ?_
                simp only [Act.put, Act.eval, q1, q2, q3, q4, q5, q6, q7, q8, q9, q10, q11, q12, q13, q14, q15, q16, q17, q18, Nat.reduceAdd, Bool.not_true, Bool.not_false]
                refine rf_pick rfl rfl rfl ?_
                simp only [Act.put, Act.eval, q1, q2, q3, q4, q5, q6, q7, q8, q9, q10, q11, q12, q13, q14, q15, q16, q17, q18, Nat.reduceAdd, Bool.not_true, Bool.not_false]
                refine rg_move ?_
                simp only [Act.put, Act.eval, q1, q2, q3, q4, q5, q6, q7, q8, q9, q10, q11, q12, q13, q14, q15, q16, q17, q18, Nat.reduceAdd, Bool.not_true, Bool.not_false]
                refine rg_skip (by rfl) ?_
                simp only [Act.put, Act.eval, q1, q2, q3, q4, q5, q6, q7, q8, q9, q10, q11, q12, q13, q14, q15, q16, q17, q18, Nat.reduceAdd, Bool.not_true, Bool.not_false]
                refine rg_skip (by rfl) ?_
                simp only [Act.put, Act.eval, q1, q2, q3, q4, q5, q6, q7, q8, q9, q10, q11, q12, q13, q14, q15, q16, q17, q18, Nat.reduceAdd, Bool.not_true, Bool.not_false]
                refine rg_skip_h (by rfl) (fun _ h => by cases h) ?_
                simp only [Act.put, Act.eval, q1, q2, q3, q4, q5, q6, q7, q8, q9, q10, q11, q12, q13, q14, q15, q16, q17, q18, Nat.reduceAdd, Bool.not_true, Bool.not_false]
                refine rg_skip (by rfl) ?_
                simp only [Act.put, Act.eval, q1, q2, q3, q4, q5, q6, q7, q8, q9, q10, q11, q12, q13, q14, q15, q16, q17, q18, Nat.reduceAdd, Bool.not_true, Bool.not_false]
                refine rf_pick rfl rfl rfl ?_
                simp only [Act.put, Act.eval, q1, q2, q3, q4, q5, q6, q7, q8, q9, q10, q11, q12, q13, q14, q15, q16, q17, q18, Nat.reduceAdd, Bool.not_true, Bool.not_false]
                refine rg_nil ?_
                refine ek_sub (sk _ (sk _ (sk _ (sc _ (sc _ (sc _ (sc _ (sc _ (sc _ sn))))))))) ?_
                refine ek_midF (by kernel_rfl) ?_
                exact ⟨rfl, by rfl⟩
              · (try simp only [decide_eq_true_eq, decide_eq_false_iff_not, Int.not_lt, Int.not_le, beq_iff_eq, beq_eq_false_iff_ne, bne_iff_ne, bne_eq_false_iff_eq, ne_eq, Bool.not_eq_true', Bool.not_eq_false'] at h7)
                simp only [Act.put, Act.eval, q1, q2, q3, q4, q5, q6, q7, q8, q9, q10, q11, q12, q13, q14, q15, q16, q17, q18, Nat.reduceAdd, Bool.not_true, Bool.not_false]
                refine rg_move ?_
                simp only [Act.put, Act.eval, q1, q2, q3, q4, q5, q6, q7, q8, q9, q10, q11, q12, q13, q14, q15, q16, q17, q18, Nat.reduceAdd, Bool.not_true, Bool.not_false]
                apply rg_soft_g
                case hg => rfl
                case hy => (intro w hw; go_simp; (try go_bits); exact Yld.mk _ _)
                simp only [Act.put, Act.eval, q1, q2, q3, q4, q5, q6, q7, q8, q9, q10, q11, q12, q13, q14, q15, q16, q17, q18, Nat.reduceAdd, Bool.not_true, Bool.not_false]
                refine rfb_eql rfl rfl rfl rfl ?_
                intro x h8
                cases x
                · (try simp only [decide_eq_true_eq, decide_eq_false_iff_not, Int.not_lt, Int.not_le, beq_iff_eq, beq_eq_false_iff_ne, bne_iff_ne, bne_eq_false_iff_eq, ne_eq, Bool.not_eq_true', Bool.not_eq_false'] at h8)
                  simp only [Act.put, Act.eval, q1, q2, q3, q4, q5, q6, q7, q8, q9, q10, q11, q12, q13, q14, q15, q16, q17, q18, Nat.reduceAdd, Bool.not_true, Bool.not_false]
                  refine rf_pick rfl rfl rfl ?_
                  simp only [Act.put, Act.eval, q1, q2, q3, q4, q5, q6, q7, q8, q9, q10, q11, q12, q13, q14, q15, q16, q17, q18, Nat.reduceAdd, Bool.not_true, Bool.not_false]
                  refine rg_move ?_
                  simp only [Act.put, Act.eval, q1, q2, q3, q4, q5, q6, q7, q8, q9, q10, q11, q12, q13, q14, q15, q16, q17, q18, Nat.reduceAdd, Bool.not_true, Bool.not_false]
                  refine rg_skip (by rfl) ?_
                  simp only [Act.put, Act.eval, q1, q2, q3, q4, q5, q6, q7, q8, q9, q10, q11, q12, q13, q14, q15, q16, q17, q18, Nat.reduceAdd, Bool.not_true, Bool.not_false]
                  refine rg_skip (by rfl) ?_
                  simp only [Act.put, Act.eval, q1, q2, q3, q4, q5, q6, q7, q8, q9, q10, q11, q12, q13, q14, q15, q16, q17, q18, Nat.reduceAdd, Bool.not_true, Bool.not_false]
                  refine rf_pick rfl rfl rfl ?_
                  simp only [Act.put, Act.eval, q1, q2, q3, q4, q5, q6, q7, q8, q9, q10, q11, q12, q13, q14, q15, q16, q17, q18, Nat.reduceAdd, Bool.not_true, Bool.not_false]
                  refine rg_move ?_
                  simp only [Act.put, Act.eval, q1, q2, q3, q4, q5, q6, q7, q8, q9, q10, q11, q12, q13, q14, q15, q16, q17, q18, Nat.reduceAdd, Bool.not_true, Bool.not_false]
                  refine rg_skip (by rfl) ?_
                  simp only [Act.put, Act.eval, q1, q2, q3, q4, q5, q6, q7, q8, q9, q10, q11, q12, q13, q14, q15, q16, q17, q18, Nat.reduceAdd, Bool.not_true, Bool.not_false]
                  refine rg_skip (by rfl) ?_
                  simp only [Act.put, Act.eval, q1, q2, q3, q4, q5, q6, q7, q8, q9, q10, q11, q12, q13, q14, q15, q16, q17, q18, Nat.reduceAdd, Bool.not_true, Bool.not_false]
                  refine rg_skip_h (by rfl) (fun _ h => by cases h) ?_
                  simp only [Act.put, Act.eval, q1, q2, q3, q4, q5, q6, q7, q8, q9, q10, q11, q12, q13, q14, q15, q16, q17, q18, Nat.reduceAdd, Bool.not_true, Bool.not_false]
                  refine rg_skip (by rfl) ?_
                  simp only [Act.put, Act.eval, q1, q2, q3, q4, q5, q6, q7, q8, q9, q10, q11, q12, q13, q14, q15, q16, q17, q18, Nat.reduceAdd, Bool.not_true, Bool.not_false]
                  refine rf_pick rfl rfl rfl ?_
                  simp only [Act.put, Act.eval, q1, q2, q3, q4, q5, q6, q7, q8, q9, q10, q11, q12, q13, q14, q15, q16, q17, q18, Nat.reduceAdd, Bool.not_true, Bool.not_false]
                  refine rg_nil ?_
                  refine ek_sub (sk _ (sk _ (sk _ (sc _ (sc _ (sc _ (sc _ (sc _ (sc _ sn))))))))) ?_
                  refine ek_midF (by kernel_rfl) ?_
                  exact ⟨rfl, by rfl⟩
                · (try simp only [decide_eq_true_eq, decide_eq_false_iff_not, Int.not_lt, Int.not_le, beq_iff_eq, beq_eq_false_iff_ne, bne_iff_ne, bne_eq_false_iff_eq, ne_eq, Bool.not_eq_true', Bool.not_eq_false'] at h8)
                  simp only [Act.put, Act.eval, q1, q2, q3, q4, q5, q6, q7, q8, q9, q10, q11, q12, q13, q14, q15, q16, q17, q18, Nat.reduceAdd, Bool.not_true, Bool.not_false]
                  refine rf_pick rfl rfl rfl ?_
                  simp only [Act.put, Act.eval, q1, q2, q3, q4, q5, q6, q7, q8, q9, q10, q11, q12, q13, q14, q15, q16, q17, q18, Nat.reduceAdd, Bool.not_true, Bool.not_false]
                  refine rg_move ?_
                  simp only [Act.put, Act.eval, q1, q2, q3, q4, q5, q6, q7, q8, q9, q10, q11, q12, q13, q14, q15, q16, q17, q18, Nat.reduceAdd, Bool.not_true, Bool.not_false]
                  apply rg_soft_g
                  case hg => rfl
                  case hy => (intro w hw; go_simp; (try go_bits); exact Yld.mk _ _)
                  simp only [Act.put, Act.eval, q1, q2, q3, q4, q5, q6, q7, q8, q9, q10, q11, q12, q13, q14, q15, q16, q17, q18, Nat.reduceAdd, Bool.not_true, Bool.not_false]
                  refine rfb_eql rfl rfl rfl rfl ?_
                  intro x h9
                  cases x
                  · (try simp only [decide_eq_true_eq, decide_eq_false_iff_not, Int.not_lt, Int.not_le, beq_iff_eq, beq_eq_false_iff_ne, bne_iff_ne, bne_eq_false_iff_eq, ne_eq, Bool.not_eq_true', Bool.not_eq_false'] at h9)
                    simp only [Act.put, Act.eval, q1, q2, q3, q4, q5, q6, q7, q8, q9, q10, q11, q12, q13, q14, q15, q16, q17, q18, Nat.reduceAdd, Bool.not_true, Bool.not_false]
                    refine rf_pick rfl rfl rfl ?_
                    simp only [Act.put, Act.eval, q1, q2, q3, q4, q5, q6, q7, q8, q9, q10, q11, q12, q13, q14, q15, q16, q17, q18, Nat.reduceAdd, Bool.not_true, Bool.not_false]
                    refine rg_move ?_
                    simp only [Act.put, Act.eval, q1, q2, q3, q4, q5, q6, q7, q8, q9, q10, q11, q12, q13, q14, q15, q16, q17, q18, Nat.reduceAdd, Bool.not_true, Bool.not_false]
                    refine rg_skip (by rfl) ?_
                    simp only [Act.put, Act.eval, q1, q2, q3, q4, q5, q6, q7, q8, q9, q10, q11, q12, q13, q14, q15, q16, q17, q18, Nat.reduceAdd, Bool.not_true, Bool.not_false]
                    refine rg_skip (by rfl) ?_
                    simp only [Act.put, Act.eval, q1, q2, q3, q4, q5, q6, q7, q8, q9, q10, q11, q12, q13, q14, q15, q16, q17, q18, Nat.reduceAdd, Bool.not_true, Bool.not_false]
                    refine rg_skip_h (by rfl) (fun _ h => by cases h) ?_
                    simp only [Act.put, Act.eval, q1, q2, q3, q4, q5, q6, q7, q8, q9, q10, q11, q12, q13, q14, q15, q16, q17, q18, Nat.reduceAdd, Bool.not_true, Bool.not_false]
                    refine rg_skip (by rfl) ?_
                    simp only [Act.put, Act.eval, q1, q2, q3, q4, q5, q6, q7, q8, q9, q10, q11, q12, q13, q14, q15, q16, q17, q18, Nat.reduceAdd, Bool.not_true, Bool.not_false]
                    refine rf_pick rfl rfl rfl ?_
                    simp only [Act.put, Act.eval, q1, q2, q3, q4, q5, q6, q7, q8, q9, q10, q11, q12, q13, q14, q15, q16, q17, q18, Nat.reduceAdd, Bool.not_true, Bool.not_false]
                    refine rg_nil ?_
                    refine ek_sub (sk _ (sk _ (sk _ (sc _ (sc _ (sc _ (sc _ (sc _ (sc _ sn))))))))) ?_
                    refine ek_midF (by kernel_rfl) ?_
                    exact ⟨rfl, by rfl⟩
                  · (try simp only [decide_eq_true_eq, decide_eq_false_iff_not, Int.not_lt, Int.not_le, beq_iff_eq, beq_eq_false_iff_ne, bne_iff_ne, bne_eq_false_iff_eq, ne_eq, Bool.not_eq_true', Bool.not_eq_false'] at h9)
                    simp only [Act.put, Act.eval, q1, q2, q3, q4, q5, q6, q7, q8, q9, q10, q11, q12, q13, q14, q15, q16, q17, q18, Nat.reduceAdd, Bool.not_true, Bool.not_false]
                    refine rf_pick rfl rfl rfl ?_
                    simp only [Act.put, Act.eval, q1, q2, q3, q4, q5, q6, q7, q8, q9, q10, q11, q12, q13, q14, q15, q16, q17, q18, Nat.reduceAdd, Bool.not_true, Bool.not_false]
                    refine rg_move ?_
                    simp only [Act.put, Act.eval, q1, q2, q3, q4, q5, q6, q7, q8, q9, q10, q11, q12, q13, q14, q15, q16, q17, q18, Nat.reduceAdd, Bool.not_true, Bool.not_false]
                    refine rf_loadR (n := 4) rfl rfl rfl Try.underlying25 rfl (by kernel_rfl) (fun w hw => Kn.hd0 hw) rfl rfl ?_
                    simp only [Act.put, Act.eval, q1, q2, q3, q4, q5, q6, q7, q8, q9, q10, q11, q12, q13, q14, q15, q16, q17, q18, Nat.reduceAdd, Bool.not_true, Bool.not_false]
                    refine rf_loadR (n := 4) rfl rfl rfl Try.underlying25 rfl (by kernel_rfl) (fun w hw => Kn.hd0 (Kn.tl hw)) rfl rfl ?_
                    simp only [Act.put, Act.eval, q1, q2, q3, q4, q5, q6, q7, q8, q9, q10, q11, q12, q13, q14, q15, q16, q17, q18, Nat.reduceAdd, Bool.not_true, Bool.not_false]
                    apply rg_pureb (by rfl) (by kernel_rfl)
                    case hargs => (simp only [List.map_toArray, List.map_cons, List.map_nil, Act.eval, Array.getD_eq_getD_getElem?, List.getElem?_toArray, List.getElem?_cons_zero, List.getElem?_cons_succ, Option.getD_some]; exact rfl)
                    case h => exact fun w hw => J2.out w
                    case hz => exact (fun _ h => by cases h)
                    intro x h10
                    cases x
                    · (try simp only [decide_eq_true_eq, decide_eq_false_iff_not, Int.not_lt, Int.not_le, beq_iff_eq, beq_eq_false_iff_ne, bne_iff_ne, bne_eq_false_iff_eq, ne_eq, Bool.not_eq_true', Bool.not_eq_false'] at h10)
                      simp only [Act.put, Act.eval, q1, q2, q3, q4, q5, q6, q7, q8, q9, q10, q11, q12, q13, q14, q15, q16, q17, q18, Nat.reduceAdd, Bool.not_true, Bool.not_false]
                      exact absurd ((K2.out h7 h8 h9).symm.trans h10) (by decide)
                    · (try simp only [decide_eq_true_eq, decide_eq_false_iff_not, Int.not_lt, Int.not_le, beq_iff_eq, beq_eq_false_iff_ne, bne_iff_ne, bne_eq_false_iff_eq, ne_eq, Bool.not_eq_true', Bool.not_eq_false'] at h10)
                      simp only [Act.put, Act.eval, q1, q2, q3, q4, q5, q6, q7, q8, q9, q10, q11, q12, q13, q14, q15, q16, q17, q18, Nat.reduceAdd, Bool.not_true, Bool.not_false]
                      refine rf_not rfl rfl rfl ?_
                      simp only [Act.put, Act.eval, q1, q2, q3, q4, q5, q6, q7, q8, q9, q10, q11, q12, q13, q14, q15, q16, q17, q18, Nat.reduceAdd, Bool.not_true, Bool.not_false]
                      refine rf_pick rfl rfl rfl ?_
                      simp only [Act.put, Act.eval, q1, q2, q3, q4, q5, q6, q7, q8, q9, q10, q11, q12, q13, q14, q15, q16, q17, q18, Nat.reduceAdd, Bool.not_true, Bool.not_false]
                      refine rg_nil ?_
                      refine ek_sub (sk _ (sk _ (sk _ (sc _ (sc _ (sc _ (sc _ (sc _ (sc _ sn))))))))) ?_
                      refine ek_midF (by kernel_rfl) ?_
                      exact ⟨rfl, by rfl⟩
            · rintro f4 s ⟨hs4_84, rfl⟩
              simp only [Act.putF, List.foldl_cons, List.foldl_nil, hs4_84, Act.put, Act.eval, q1, q2, q3, q4, q5, q6, q7, q8, q9, q10, q11, q12, q13, q14, q15, q16, q17, q18, Nat.reduceAdd, Bool.not_true, Bool.not_false]
              clear hs4_84
              refine wk_cond_f rfl ?_
              refine wk_skip ?_
              refine ek_block ?_
              refine ek_next ?_
              refine wk_region [0, 0] rfl (by kernel_rfl) ?_
              simp only [List.zip_cons_cons, List.zip_nil_right]
              refine rf_add (r := 2) rfl rfl rfl rfl (by decide) ?_
              simp only [Act.put, Act.eval, q1, q2, q3, q4, q5, q6, q7, q8, q9, q10, q11, q12, q13, q14, q15, q16, q17, q18, Nat.reduceAdd, Bool.not_true, Bool.not_false]
              refine rg_move ?_
              simp only [Act.put, Act.eval, q1, q2, q3, q4, q5, q6, q7, q8, q9, q10, q11, q12, q13, q14, q15, q16, q17, q18, Nat.reduceAdd, Bool.not_true, Bool.not_false]
              refine rg_nil ?_
              refine ek_again ?_
              refine wk_seq ?_
              refine wk_region [0] rfl (by kernel_rfl) ?_
              simp only [List.zip_cons_cons, List.zip_nil_right]
              refine rf_lss (b := true) rfl rfl rfl rfl (by decide) ?_
              simp only [Act.put, Act.eval, q1, q2, q3, q4, q5, q6, q7, q8, q9, q10, q11, q12, q13, q14, q15, q16, q17, q18, Nat.reduceAdd, Bool.not_true, Bool.not_false]
              refine rg_nil ?_
              refine ek_next ?_
              refine wk_seq ?_
              refine wk_cond_t rfl ?_
              refine wk_skip ?_
              refine ek_next ?_
              refine wk_seq ?_
              refine wk_block ?_
              refine wk_seq ?_
              refine wk_region [0, 0, 0, 0, 0] rfl (by kernel_rfl) ?_
              simp only [List.zip_cons_cons, List.zip_nil_right]
              refine rg_move ?_
              simp only [Act.put, Act.eval, q1, q2, q3, q4, q5, q6, q7, q8, q9, q10, q11, q12, q13, q14, q15, q16, q17, q18, Nat.reduceAdd, Bool.not_true, Bool.not_false]
              apply rg_soft
              case hy => (intro w hw; go_simp; (try go_bits); exact Yld.mk _ _)
              simp only [Act.put, Act.eval, q1, q2, q3, q4, q5, q6, q7, q8, q9, q10, q11, q12, q13, q14, q15, q16, q17, q18, Nat.reduceAdd, Bool.not_true, Bool.not_false]
              refine rf_load rfl rfl rfl Try.underlying31 rfl (fun w hw => (Kn.hd0 hw).at rfl) ?_
              simp only [Act.put, Act.eval, q1, q2, q3, q4, q5, q6, q7, q8, q9, q10, q11, q12, q13, q14, q15, q16, q17, q18, Nat.reduceAdd, Bool.not_true, Bool.not_false]
              refine rg_assign ?_
              simp only [Act.put, Act.eval, q1, q2, q3, q4, q5, q6, q7, q8, q9, q10, q11, q12, q13, q14, q15, q16, q17, q18, Nat.reduceAdd, Bool.not_true, Bool.not_false]
              refine rg_assign ?_
              simp only [Act.put, Act.eval, q1, q2, q3, q4, q5, q6, q7, q8, q9, q10, q11, q12, q13, q14, q15, q16, q17, q18, Nat.reduceAdd, Bool.not_true, Bool.not_false]
              refine rg_nil ?_
              refine ek_next ?_
              refine wk_cutF [12, 13, 47, 48, 49, 50, 51, 52, 53, 54, 55, 56] (fun f s => ∃ (gz : Nat), f 12 = .pointer (some ⟨gz, 0, none⟩) ∧ f 13 = .int .i64 e3 ∧ s = ((gz, .cells #[.int .i64 v3.a, .int .i64 v3.b, .int .i64 v3.c, .int .i64 v3.d, .int .i64 v3.k] 69) :: ((g6, .cells #[.func (.func 21) #[] #[], .func (.func 23) #[] #[], .func (.func 45) #[] #[]] 31) :: ((g5, .cells #[.func (.func 58) #[] #[], .func (.func 59) #[] #[], .func (.func 60) #[] #[]] 74) :: ((g4, .cells #[.int .i64 b.re.lo, .int .i64 b.re.hi, .int .i64 b.im.lo, .int .i64 b.im.hi] 25) :: ((g3, .cells #[.int .i64 a.re.lo, .int .i64 a.re.hi, .int .i64 a.im.lo, .int .i64 a.im.hi] 25) :: ((g2, .cells #[.int .i64 y.a, .int .i64 y.b, .int .i64 y.c, .int .i64 y.d, .int .i64 y.k] 69) :: ((g1, .cells #[.int .i64 x.a, .int .i64 x.b, .int .i64 x.c, .int .i64 x.d, .int .i64 x.k] 69) :: [])))))))) ?_ ?_
              · refine wk_rt _ (by kernel_rfl) (sc _ (sc _ (sc _ (sc _ (sc _ (sc _ sn)))))) ?_
                refine rt_soft (i := 0) rfl (by kernel_rfl) (fun c d v a w h => by cases d <;> exact h) (sc _ (sc _ (sc _ (sc _ (sc _ (sc _ sn)))))) ?_
                refine rg_move ?_
                simp only [Act.put, Act.eval, q1, q2, q3, q4, q5, q6, q7, q8, q9, q10, q11, q12, q13, q14, q15, q16, q17, q18, Nat.reduceAdd, Bool.not_true, Bool.not_false]
                refine rg_nil ?_
                refine ek_rt (sc _ (sc _ (sc _ (sc _ (sc _ (sc _ sn)))))) ?_
                refine rt_soft (i := 1) rfl (by kernel_rfl) (fun c d v a w h => by cases d <;> exact h) (sc _ (sc _ (sc _ (sc _ (sc _ (sc _ sn)))))) ?_
                refine rg_move ?_
                simp only [Act.put, Act.eval, q1, q2, q3, q4, q5, q6, q7, q8, q9, q10, q11, q12, q13, q14, q15, q16, q17, q18, Nat.reduceAdd, Bool.not_true, Bool.not_false]
                refine rg_nil ?_
                refine ek_rt (sc _ (sc _ (sc _ (sc _ (sc _ (sc _ sn)))))) ?_
                refine rt_soft (i := 2) rfl (by kernel_rfl) (fun c d v a w h => by cases d <;> exact h) (sc _ (sc _ (sc _ (sc _ (sc _ (sc _ sn)))))) ?_
                apply rg_soft
                case hy => (intro w hw; go_simp; (try go_bits); exact Yld.mk _ _)
                simp only [Act.put, Act.eval, q1, q2, q3, q4, q5, q6, q7, q8, q9, q10, q11, q12, q13, q14, q15, q16, q17, q18, Nat.reduceAdd, Bool.not_true, Bool.not_false]
                refine rg_nil ?_
                refine ek_rt (sc _ (sc _ (sc _ (sc _ (sc _ (sc _ sn)))))) ?_
                refine rt_soft (i := 3) rfl (by kernel_rfl) (fun c d v a w h => by cases d <;> exact h) (sc _ (sc _ (sc _ (sc _ (sc _ (sc _ sn)))))) ?_
                refine rf_load rfl rfl rfl Try.underlying74 rfl (fun w hw => (Kn.hd0 (Kn.tl hw)).at rfl) ?_
                simp only [Act.put, Act.eval, q1, q2, q3, q4, q5, q6, q7, q8, q9, q10, q11, q12, q13, q14, q15, q16, q17, q18, Nat.reduceAdd, Bool.not_true, Bool.not_false]
                refine rg_nil ?_
                refine ek_rt (sc _ (sc _ (sc _ (sc _ (sc _ (sc _ sn)))))) ?_
                refine rt_soft (i := 4) rfl (by kernel_rfl) (fun c d v a w h => by cases d <;> exact h) (sc _ (sc _ (sc _ (sc _ (sc _ (sc _ sn)))))) ?_
                refine rf_loadR (n := 5) rfl rfl rfl Try.underlying69 rfl (by kernel_rfl) (fun w hw => Kn.hd0 (Kn.tl (Kn.tl (Kn.tl (Kn.tl (Kn.tl hw)))))) rfl rfl ?_
                simp only [Act.put, Act.eval, q1, q2, q3, q4, q5, q6, q7, q8, q9, q10, q11, q12, q13, q14, q15, q16, q17, q18, Nat.reduceAdd, Bool.not_true, Bool.not_false]
                refine rg_nil ?_
                refine ek_rt (sc _ (sc _ (sc _ (sc _ (sc _ (sc _ sn)))))) ?_
                refine rt_soft (i := 5) rfl (by kernel_rfl) (fun c d v a w h => by cases d <;> exact h) (sc _ (sc _ (sc _ (sc _ (sc _ (sc _ sn)))))) ?_
                refine rf_loadR (n := 5) rfl rfl rfl Try.underlying69 rfl (by kernel_rfl) (fun w hw => Kn.hd0 (Kn.tl (Kn.tl (Kn.tl (Kn.tl hw))))) rfl rfl ?_
                simp only [Act.put, Act.eval, q1, q2, q3, q4, q5, q6, q7, q8, q9, q10, q11, q12, q13, q14, q15, q16, q17, q18, Nat.reduceAdd, Bool.not_true, Bool.not_false]
                refine rg_nil ?_
                refine ek_rt (sc _ (sc _ (sc _ (sc _ (sc _ (sc _ sn)))))) ?_
                refine rt_hard2 (i := 6) (j := 10) (by kernel_rfl) rfl rfl ?_ ?_
                · refine CV.rg_callV (f := 60) (caps := #[]) (vs := #[nmV x, nmV y]) (v := .tuple #[nmV v3, .int .i64 e3]) (by rfl) rfl (by kernel_rfl) (by simp only [List.map_toArray, List.map_cons, List.map_nil, Act.eval, q4, q5, q6, q7, q8] <;> rfl) (fun w hw => A3.out w) (fun _ h => by cases h; exact (sc _ (sc _ (sc _ (sc _ (sc _ (sc _ sn))))))) ?_
                  simp only [Act.put, Act.eval, q1, q2, q3, q4, q5, q6, q7, q8, q9, q10, q11, q12, q13, q14, q15, q16, q17, q18, Nat.reduceAdd, Bool.not_true, Bool.not_false]
                  refine rg_nil ?_
                  refine ek_rt (sc _ (sc _ (sc _ (sc _ (sc _ (sc _ sn)))))) ?_
                  refine rt_soft (i := 7) rfl (by kernel_rfl) (fun c d v a w h => by cases d <;> exact h) (sc _ (sc _ (sc _ (sc _ (sc _ (sc _ sn)))))) ?_
                  refine rg_move ?_
                  simp only [Act.put, Act.eval, q1, q2, q3, q4, q5, q6, q7, q8, q9, q10, q11, q12, q13, q14, q15, q16, q17, q18, Nat.reduceAdd, Bool.not_true, Bool.not_false]
                  refine rg_nil ?_
                  refine ek_rt (sc _ (sc _ (sc _ (sc _ (sc _ (sc _ sn)))))) ?_
                  refine rt_soft (i := 8) rfl (by kernel_rfl) (fun c d v a w h => by cases d <;> exact h) (sc _ (sc _ (sc _ (sc _ (sc _ (sc _ sn)))))) ?_
                  refine rf_extract rfl rfl rfl rfl ?_
                  simp only [Act.put, Act.eval, q1, q2, q3, q4, q5, q6, q7, q8, q9, q10, q11, q12, q13, q14, q15, q16, q17, q18, Nat.reduceAdd, Bool.not_true, Bool.not_false]
                  refine rg_nil ?_
                  refine ek_rt (sc _ (sc _ (sc _ (sc _ (sc _ (sc _ sn)))))) ?_
                  refine rt_soft (i := 9) rfl (by kernel_rfl) (fun c d v a w h => by cases d <;> exact h) (sc _ (sc _ (sc _ (sc _ (sc _ (sc _ sn)))))) ?_
                  refine rf_extract rfl rfl rfl rfl ?_
                  simp only [Act.put, Act.eval, q1, q2, q3, q4, q5, q6, q7, q8, q9, q10, q11, q12, q13, q14, q15, q16, q17, q18, Nat.reduceAdd, Bool.not_true, Bool.not_false]
                  refine rg_nil ?_
                  refine ek_rt (sc _ (sc _ (sc _ (sc _ (sc _ (sc _ sn)))))) ?_
                  refine rt_hard1 (i := 10) (by kernel_rfl) rfl ?_
                  refine rg_new (cs := ?_) (ty := ?_) (by rfl) (fun w => ?_) (fun _ h => by cases h; exact (sc _ (sc _ (sc _ (sc _ (sc _ (sc _ sn))))))) (fun g15 => ?_); rotate_left 2
                  focus (go_simp; rfl)
                  simp only [Act.put, Act.eval, q1, q2, q3, q4, q5, q6, q7, q8, q9, q10, q11, q12, q13, q14, q15, q16, q17, q18, Nat.reduceAdd, Bool.not_true, Bool.not_false]
                  refine rg_nil ?_
                  refine ek_rt (sk _ (sc _ (sc _ (sc _ (sc _ (sc _ (sc _ sn))))))) ?_
                  refine rt_hard1 (i := 11) (by kernel_rfl) rfl ?_
                  refine rf_storeR (n := 5) rfl rfl (by kernel_rfl) rfl rfl (UpdR.here _ _ _ (Nat.le_of_ble_eq_true rfl)) (fun _ h => by cases h; exact (sk _ (sc _ (sc _ (sc _ (sc _ (sc _ (sc _ sn)))))))) ?_
                  simp only [Act.put, Act.eval, q1, q2, q3, q4, q5, q6, q7, q8, q9, q10, q11, q12, q13, q14, q15, q16, q17, q18, Nat.reduceAdd, Bool.not_true, Bool.not_false]
                  refine rg_nil ?_
                  refine ek_rt (sk _ (sc _ (sc _ (sc _ (sc _ (sc _ (sc _ sn))))))) ?_
                  refine rt_soft (i := 12) rfl (by kernel_rfl) (fun c d v a w h => by cases d <;> exact h) (sk _ (sc _ (sc _ (sc _ (sc _ (sc _ (sc _ sn))))))) ?_
                  refine rg_assign ?_
                  simp only [Act.put, Act.eval, q1, q2, q3, q4, q5, q6, q7, q8, q9, q10, q11, q12, q13, q14, q15, q16, q17, q18, Nat.reduceAdd, Bool.not_true, Bool.not_false]
                  refine rg_nil ?_
                  refine ek_rt (sk _ (sc _ (sc _ (sc _ (sc _ (sc _ (sc _ sn))))))) ?_
                  refine rt_nil (by kernel_rfl) ?_
                  refine ek_midF (by kernel_rfl) ?_
                  exact ⟨g15, rfl, rfl, by rfl⟩
                · refine rg_new (cs := ?_) (ty := ?_) (by rfl) (fun w => ?_) (fun _ h => by cases h; exact (sc _ (sc _ (sc _ (sc _ (sc _ (sc _ sn))))))) (fun g16 => ?_); rotate_left 2
                  focus (go_simp; rfl)
                  simp only [Act.put, Act.eval, q1, q2, q3, q4, q5, q6, q7, q8, q9, q10, q11, q12, q13, q14, q15, q16, q17, q18, Nat.reduceAdd, Bool.not_true, Bool.not_false]
                  refine rg_nil ?_
                  refine ek_rt (sk _ (sc _ (sc _ (sc _ (sc _ (sc _ (sc _ sn))))))) ?_
                  refine rt_hard1 (i := 6) (by kernel_rfl) rfl ?_
                  refine CV.rg_callV (f := 60) (caps := #[]) (vs := #[nmV x, nmV y]) (v := .tuple #[nmV v3, .int .i64 e3]) (by rfl) rfl (by kernel_rfl) (by simp only [List.map_toArray, List.map_cons, List.map_nil, Act.eval, q4, q5, q6, q7, q8] <;> rfl) (fun w hw => A3.out w) (fun _ h => by cases h; exact (sk _ (sc _ (sc _ (sc _ (sc _ (sc _ (sc _ sn)))))))) ?_
                  simp only [Act.put, Act.eval, q1, q2, q3, q4, q5, q6, q7, q8, q9, q10, q11, q12, q13, q14, q15, q16, q17, q18, Nat.reduceAdd, Bool.not_true, Bool.not_false]
                  refine rg_nil ?_
                  refine ek_rt (sk _ (sc _ (sc _ (sc _ (sc _ (sc _ (sc _ sn))))))) ?_
                  refine rt_soft (i := 7) rfl (by kernel_rfl) (fun c d v a w h => by cases d <;> exact h) (sk _ (sc _ (sc _ (sc _ (sc _ (sc _ (sc _ sn))))))) ?_
                  refine rg_move ?_
                  simp only [Act.put, Act.eval, q1, q2, q3, q4, q5, q6, q7, q8, q9, q10, q11, q12, q13, q14, q15, q16, q17, q18, Nat.reduceAdd, Bool.not_true, Bool.not_false]
                  refine rg_nil ?_
                  refine ek_rt (sk _ (sc _ (sc _ (sc _ (sc _ (sc _ (sc _ sn))))))) ?_
                  refine rt_soft (i := 8) rfl (by kernel_rfl) (fun c d v a w h => by cases d <;> exact h) (sk _ (sc _ (sc _ (sc _ (sc _ (sc _ (sc _ sn))))))) ?_
                  refine rf_extract rfl rfl rfl rfl ?_
                  simp only [Act.put, Act.eval, q1, q2, q3, q4, q5, q6, q7, q8, q9, q10, q11, q12, q13, q14, q15, q16, q17, q18, Nat.reduceAdd, Bool.not_true, Bool.not_false]
                  refine rg_nil ?_
                  refine ek_rt (sk _ (sc _ (sc _ (sc _ (sc _ (sc _ (sc _ sn))))))) ?_
                  refine rt_soft (i := 9) rfl (by kernel_rfl) (fun c d v a w h => by cases d <;> exact h) (sk _ (sc _ (sc _ (sc _ (sc _ (sc _ (sc _ sn))))))) ?_
                  refine rf_extract rfl rfl rfl rfl ?_
                  simp only [Act.put, Act.eval, q1, q2, q3, q4, q5, q6, q7, q8, q9, q10, q11, q12, q13, q14, q15, q16, q17, q18, Nat.reduceAdd, Bool.not_true, Bool.not_false]
                  refine rg_nil ?_
                  refine ek_rt (sk _ (sc _ (sc _ (sc _ (sc _ (sc _ (sc _ sn))))))) ?_
                  refine rt_hard1 (i := 11) (by kernel_rfl) rfl ?_
                  refine rf_storeR (n := 5) rfl rfl (by kernel_rfl) rfl rfl (UpdR.here _ _ _ (Nat.le_of_ble_eq_true rfl)) (fun _ h => by cases h; exact (sk _ (sc _ (sc _ (sc _ (sc _ (sc _ (sc _ sn)))))))) ?_
                  simp only [Act.put, Act.eval, q1, q2, q3, q4, q5, q6, q7, q8, q9, q10, q11, q12, q13, q14, q15, q16, q17, q18, Nat.reduceAdd, Bool.not_true, Bool.not_false]
                  refine rg_nil ?_
                  refine ek_rt (sk _ (sc _ (sc _ (sc _ (sc _ (sc _ (sc _ sn))))))) ?_
                  refine rt_soft (i := 12) rfl (by kernel_rfl) (fun c d v a w h => by cases d <;> exact h) (sk _ (sc _ (sc _ (sc _ (sc _ (sc _ (sc _ sn))))))) ?_
                  refine rg_assign ?_
                  simp only [Act.put, Act.eval, q1, q2, q3, q4, q5, q6, q7, q8, q9, q10, q11, q12, q13, q14, q15, q16, q17, q18, Nat.reduceAdd, Bool.not_true, Bool.not_false]
                  refine rg_nil ?_
                  refine ek_rt (sk _ (sc _ (sc _ (sc _ (sc _ (sc _ (sc _ sn))))))) ?_
                  refine rt_nil (by kernel_rfl) ?_
                  refine ek_midF (by kernel_rfl) ?_
                  exact ⟨g16, rfl, rfl, by rfl⟩
              · rintro f5 s ⟨gz, hs5_12, hs5_13, rfl⟩
                simp only [Act.putF, List.foldl_cons, List.foldl_nil, hs5_12, hs5_13, Act.put, Act.eval, q1, q2, q3, q4, q5, q6, q7, q8, q9, q10, q11, q12, q13, q14, q15, q16, q17, q18, Nat.reduceAdd, Bool.not_true, Bool.not_false]
                clear hs5_12 hs5_13
                refine wk_seq ?_
                refine wk_region [0, 0, 0, 1, 0, 0, 0, 1, 1, 0] rfl (by kernel_rfl) ?_
                simp only [List.zip_cons_cons, List.zip_nil_right]
                refine rg_move ?_
                simp only [Act.put, Act.eval, q1, q2, q3, q4, q5, q6, q7, q8, q9, q10, q11, q12, q13, q14, q15, q16, q17, q18, Nat.reduceAdd, Bool.not_true, Bool.not_false]
                refine rf_loadR (n := 4) rfl rfl rfl Try.underlying25 rfl (by kernel_rfl) (fun w hw => Kn.hd0 (Kn.tl (Kn.tl (Kn.tl (Kn.tl hw))))) rfl rfl ?_
                simp only [Act.put, Act.eval, q1, q2, q3, q4, q5, q6, q7, q8, q9, q10, q11, q12, q13, q14, q15, q16, q17, q18, Nat.reduceAdd, Bool.not_true, Bool.not_false]
                refine rf_loadR (n := 4) rfl rfl rfl Try.underlying25 rfl (by kernel_rfl) (fun w hw => Kn.hd0 (Kn.tl (Kn.tl (Kn.tl hw)))) rfl rfl ?_
                simp only [Act.put, Act.eval, q1, q2, q3, q4, q5, q6, q7, q8, q9, q10, q11, q12, q13, q14, q15, q16, q17, q18, Nat.reduceAdd, Bool.not_true, Bool.not_false]
                refine CV.rg_callV (f := 45) (caps := #[]) (vs := #[rcV a, rcV b]) (v := rcE (c3, m3)) (by rfl) rfl (by kernel_rfl) (by simp only [List.map_toArray, List.map_cons, List.map_nil, Act.eval, q4, q5, q6, q7, q8] <;> rfl) (fun w hw => C3.out w) (fun _ h => by cases h) ?_
                simp only [Act.put, Act.eval, q1, q2, q3, q4, q5, q6, q7, q8, q9, q10, q11, q12, q13, q14, q15, q16, q17, q18, Nat.reduceAdd, Bool.not_true, Bool.not_false]
                refine rg_move ?_
                simp only [Act.put, Act.eval, q1, q2, q3, q4, q5, q6, q7, q8, q9, q10, q11, q12, q13, q14, q15, q16, q17, q18, Nat.reduceAdd, Bool.not_true, Bool.not_false]
                refine rf_extract rfl rfl rfl rfl ?_
                simp only [Act.put, Act.eval, q1, q2, q3, q4, q5, q6, q7, q8, q9, q10, q11, q12, q13, q14, q15, q16, q17, q18, Nat.reduceAdd, Bool.not_true, Bool.not_false]
                refine rf_extract rfl rfl rfl rfl ?_
                simp only [Act.put, Act.eval, q1, q2, q3, q4, q5, q6, q7, q8, q9, q10, q11, q12, q13, q14, q15, q16, q17, q18, Nat.reduceAdd, Bool.not_true, Bool.not_false]
                refine rg_new (cs := ?_) (ty := ?_) (by rfl) (fun w => ?_) (fun _ h => by cases h) (fun g17 => ?_); rotate_left 2
                focus (go_simp; rfl)
                simp only [Act.put, Act.eval, q1, q2, q3, q4, q5, q6, q7, q8, q9, q10, q11, q12, q13, q14, q15, q16, q17, q18, Nat.reduceAdd, Bool.not_true, Bool.not_false]
                refine rf_storeR (n := 4) rfl rfl (by kernel_rfl) rfl rfl (UpdR.here _ _ _ (Nat.le_of_ble_eq_true rfl)) (fun _ h => by cases h) ?_
                simp only [Act.put, Act.eval, q1, q2, q3, q4, q5, q6, q7, q8, q9, q10, q11, q12, q13, q14, q15, q16, q17, q18, Nat.reduceAdd, Bool.not_true, Bool.not_false]
                refine rg_assign ?_
                simp only [Act.put, Act.eval, q1, q2, q3, q4, q5, q6, q7, q8, q9, q10, q11, q12, q13, q14, q15, q16, q17, q18, Nat.reduceAdd, Bool.not_true, Bool.not_false]
                refine rg_nil ?_
                refine ek_next ?_
                refine wk_seq ?_
                refine wk_region [0, 1, 0, 0, 0, 1, 1, 0] rfl (by kernel_rfl) ?_
                simp only [List.zip_cons_cons, List.zip_nil_right]
                refine rf_loadR (n := 5) rfl rfl rfl Try.underlying69 rfl (by kernel_rfl) (fun w hw => Kn.hd0 (Kn.tl hw)) rfl rfl ?_
                simp only [Act.put, Act.eval, q1, q2, q3, q4, q5, q6, q7, q8, q9, q10, q11, q12, q13, q14, q15, q16, q17, q18, Nat.reduceAdd, Bool.not_true, Bool.not_false]
                apply rg_pure (by rfl) (by kernel_rfl)
                case hargs => (simp only [List.map_toArray, List.map_cons, List.map_nil, Act.eval, Array.getD_eq_getD_getElem?, List.getElem?_toArray, List.getElem?_cons_zero, List.getElem?_cons_succ, Option.getD_some]; exact rfl)
                case h => exact fun w hw => D3.out w
                case hz => exact (fun _ h => by cases h)
                simp only [Act.put, Act.eval, q1, q2, q3, q4, q5, q6, q7, q8, q9, q10, q11, q12, q13, q14, q15, q16, q17, q18, Nat.reduceAdd, Bool.not_true, Bool.not_false]
                refine rg_move ?_
                simp only [Act.put, Act.eval, q1, q2, q3, q4, q5, q6, q7, q8, q9, q10, q11, q12, q13, q14, q15, q16, q17, q18, Nat.reduceAdd, Bool.not_true, Bool.not_false]
                refine rf_extract rfl rfl rfl rfl ?_
                simp only [Act.put, Act.eval, q1, q2, q3, q4, q5, q6, q7, q8, q9, q10, q11, q12, q13, q14, q15, q16, q17, q18, Nat.reduceAdd, Bool.not_true, Bool.not_false]
                refine rf_extract rfl rfl rfl rfl ?_
                simp only [Act.put, Act.eval, q1, q2, q3, q4, q5, q6, q7, q8, q9, q10, q11, q12, q13, q14, q15, q16, q17, q18, Nat.reduceAdd, Bool.not_true, Bool.not_false]
                refine rg_new (cs := ?_) (ty := ?_) (by rfl) (fun w => ?_) (fun _ h => by cases h) (fun g18 => ?_); rotate_left 2
                focus (go_simp; rfl)
                simp only [Act.put, Act.eval, q1, q2, q3, q4, q5, q6, q7, q8, q9, q10, q11, q12, q13, q14, q15, q16, q17, q18, Nat.reduceAdd, Bool.not_true, Bool.not_false]
                refine rf_storeR (n := 4) rfl rfl (by kernel_rfl) rfl rfl (UpdR.here _ _ _ (Nat.le_of_ble_eq_true rfl)) (fun _ h => by cases h) ?_
                simp only [Act.put, Act.eval, q1, q2, q3, q4, q5, q6, q7, q8, q9, q10, q11, q12, q13, q14, q15, q16, q17, q18, Nat.reduceAdd, Bool.not_true, Bool.not_false]
                refine rg_assign ?_
                simp only [Act.put, Act.eval, q1, q2, q3, q4, q5, q6, q7, q8, q9, q10, q11, q12, q13, q14, q15, q16, q17, q18, Nat.reduceAdd, Bool.not_true, Bool.not_false]
                refine rg_nil ?_
                refine ek_next ?_
                refine wk_cutF [69, 70, 71, 72, 73, 74, 75, 76, 77, 78, 79, 80, 81, 82, 83, 84] (fun f s => f 84 = .bool false ∧ s = ((g6, .cells #[.func (.func 21) #[] #[], .func (.func 23) #[] #[], .func (.func 45) #[] #[]] 31) :: ((g5, .cells #[.func (.func 58) #[] #[], .func (.func 59) #[] #[], .func (.func 60) #[] #[]] 74) :: ((g4, .cells #[.int .i64 b.re.lo, .int .i64 b.re.hi, .int .i64 b.im.lo, .int .i64 b.im.hi] 25) :: ((g3, .cells #[.int .i64 a.re.lo, .int .i64 a.re.hi, .int .i64 a.im.lo, .int .i64 a.im.hi] 25) :: ((g2, .cells #[.int .i64 y.a, .int .i64 y.b, .int .i64 y.c, .int .i64 y.d, .int .i64 y.k] 69) :: ((g1, .cells #[.int .i64 x.a, .int .i64 x.b, .int .i64 x.c, .int .i64 x.d, .int .i64 x.k] 69) :: []))))))) ?_ ?_
                · refine wk_region [0, 0, 0, 0, 0, 0, 0, 0, 0, 0, 0, 0, 0, 1, 0, 0] rfl (by kernel_rfl) ?_
                  simp only [List.zip_cons_cons, List.zip_nil_right]
                  refine rg_move ?_
                  simp only [Act.put, Act.eval, q1, q2, q3, q4, q5, q6, q7, q8, q9, q10, q11, q12, q13, q14, q15, q16, q17, q18, Nat.reduceAdd, Bool.not_true, Bool.not_false]
                  refine rfb_eql rfl rfl rfl rfl ?_
                  intro x h11
                  cases x
                  · (try simp only [decide_eq_true_eq, decide_eq_false_iff_not, Int.not_lt, Int.not_le, beq_iff_eq, beq_eq_false_iff_ne, bne_iff_ne, bne_eq_false_iff_eq, ne_eq, Bool.not_eq_true', Bool.not_eq_false'] at h11)
                    simp only [Act.put, Act.eval, q1, q2, q3, q4, q5, q6, q7, q8, q9, q10, q11, q12, q13, q14, q15, q16, q17, q18, Nat.reduceAdd, Bool.not_true, Bool.not_false]
                    refine rg_move ?_
                    simp only [Act.put, Act.eval, q1, q2, q3, q4, q5, q6, q7, q8, q9, q10, q11, q12, q13, q14, q15, q16, q17, q18, Nat.reduceAdd, Bool.not_true, Bool.not_false]
                    refine rg_skip (by rfl) ?_
                    simp only [Act.put, Act.eval, q1, q2, q3, q4, q5, q6, q7, q8, q9, q10, q11, q12, q13, q14, q15, q16, q17, q18, Nat.reduceAdd, Bool.not_true, Bool.not_false]
                    refine rg_skip (by rfl) ?_
                    simp only [Act.put, Act.eval, q1, q2, q3, q4, q5, q6, q7, q8, q9, q10, q11, q12, q13, q14, q15, q16, q17, q18, Nat.reduceAdd, Bool.not_true, Bool.not_false]
                    refine rf_pick rfl rfl rfl ?_
                    simp only [Act.put, Act.eval, q1, q2, q3, q4, q5, q6, q7, q8, q9, q10, q11, q12, q13, q14, q15, q16, q17, q18, Nat.reduceAdd, Bool.not_true, Bool.not_false]
                    refine rg_move ?_
                    simp only [Act.put, Act.eval, q1, q2, q3, q4, q5, q6, q7, q8, q9, q10, q11, q12, q13, q14, q15, q16, q17, q18, Nat.reduceAdd, Bool.not_true, Bool.not_false]
                    refine rg_skip (by rfl) ?_
                    simp only [Act.put, Act.eval, q1, q2, q3, q4, q5, q6, q7, q8, q9, q10, q11, q12, q13, q14, q15, q16, q17, q18, Nat.reduceAdd, Bool.not_true, Bool.not_false]
                    refine rg_skip (by rfl) ?_
                    simp only [Act.put, Act.eval, q1, q2, q3, q4, q5, q6, q7, q8, q9, q10, q11, q12, q13, q14, q15, q16, q17, q18, Nat.reduceAdd, Bool.not_true, Bool.not_false]
                    refine rf_pick rfl rfl rfl ?_
                    simp only [Act.put, Act.eval, q1, q2, q3, q4, q5, q6, q7, q8, q9, q10, q11, q12, q13, q14, q15, q16, q17, q18, Nat.reduceAdd, Bool.not_true, Bool.not_false]
                    refine rg_move ?_
                    simp only [Act.put, Act.eval, q1, q2, q3, q4, q5, q6, q7, q8, q9, q10, q11, q12, q13, q14, q15, q16, q17, q18, Nat.reduceAdd, Bool.not_true, Bool.not_false]
                    refine rg_skip (by rfl) ?_
                    simp only [Act.put, Act.eval, q1, q2, q3, q4, q5, q6, q7, q8, q9, q10, q11, q12, q13, q14, q15, q16, q17, q18, Nat.reduceAdd, Bool.not_true, Bool.not_false]
                    refine rg_skip (by rfl) ?_
                    simp only [Act.put, Act.eval, q1, q2, q3, q4, q5, q6, q7, q8, q9, q10, q11, q12, q13, q14, q15, q16, q17, q18, Nat.reduceAdd, Bool.not_true, Bool.not_false]
                    refine rg_skip_h (by rfl) (fun _ h => by cases h) ?_
                    simp only [Act.put, Act.eval, q1, q2, q3, q4, q5, q6, q7, q8, q9, q10, q11, q12, q13, q14, q15, q16, q17, q18, Nat.reduceAdd, Bool.not_true, Bool.not_false]
                    refine rg_skip (by rfl) ?_
                    simp only [Act.put, Act.eval, q1, q2, q3, q4, q5, q6, q7, q8, q9, q10, q11, q12, q13, q14, q15, q16, q17, q18, Nat.reduceAdd, Bool.not_true, Bool.not_false]
                    refine rf_pick rfl rfl rfl ?_
                    simp only [Act.put, Act.eval, q1, q2, q3, q4, q5, q6, q7, q8, q9, q10, q11, q12, q13, q14, q15, q16, q17, q18, Nat.reduceAdd, Bool.not_true, Bool.not_false]
                    refine rg_nil ?_
                    refine ek_sub (sk _ (sk _ (sk _ (sc _ (sc _ (sc _ (sc _ (sc _ (sc _ sn))))))))) ?_
                    refine ek_midF (by kernel_rfl) ?_
                    exact ⟨rfl, by rfl⟩
                  · (try simp only [decide_eq_true_eq, decide_eq_false_iff_not, Int.not_lt, Int.not_le, beq_iff_eq, beq_eq_false_iff_ne, bne_iff_ne, bne_eq_false_iff_eq, ne_eq, Bool.not_eq_true', Bool.not_eq_false'] at h11)
                    simp only [Act.put, Act.eval, q1, q2, q3, q4, q5, q6, q7, q8, q9, q10, q11, q12, q13, q14, q15, q16, q17, q18, Nat.reduceAdd, Bool.not_true, Bool.not_false]
                    refine rg_move ?_
                    simp only [Act.put, Act.eval, q1, q2, q3, q4, q5, q6, q7, q8, q9, q10, q11, q12, q13, q14, q15, q16, q17, q18, Nat.reduceAdd, Bool.not_true, Bool.not_false]
                    apply rg_soft_g
                    case hg => rfl
                    case hy => (intro w hw; go_simp; (try go_bits); exact Yld.mk _ _)
                    simp only [Act.put, Act.eval, q1, q2, q3, q4, q5, q6, q7, q8, q9, q10, q11, q12, q13, q14, q15, q16, q17, q18, Nat.reduceAdd, Bool.not_true, Bool.not_false]
                    refine rfb_eql rfl rfl rfl rfl ?_
                    intro x h12
                    cases x
                    · (try simp only [decide_eq_true_eq, decide_eq_false_iff_not, Int.not_lt, Int.not_le, beq_iff_eq, beq_eq_false_iff_ne, bne_iff_ne, bne_eq_false_iff_eq, ne_eq, Bool.not_eq_true', Bool.not_eq_false'] at h12)
                      simp only [Act.put, Act.eval, q1, q2, q3, q4, q5, q6, q7, q8, q9, q10, q11, q12, q13, q14, q15, q16, q17, q18, Nat.reduceAdd, Bool.not_true, Bool.not_false]
                      refine rf_pick rfl rfl rfl ?_
                      simp only [Act.put, Act.eval, q1, q2, q3, q4, q5, q6, q7, q8, q9, q10, q11, q12, q13, q14, q15, q16, q17, q18, Nat.reduceAdd, Bool.not_true, Bool.not_false]
                      refine rg_move ?_
                      simp only [Act.put, Act.eval, q1, q2, q3, q4, q5, q6, q7, q8, q9, q10, q11, q12, q13, q14, q15, q16, q17, q18, Nat.reduceAdd, Bool.not_true, Bool.not_false]
                      refine rg_skip (by rfl) ?_
                      simp only [Act.put, Act.eval, q1, q2, q3, q4, q5, q6, q7, q8, q9, q10, q11, q12, q13, q14, q15, q16, q17, q18, Nat.reduceAdd, Bool.not_true, Bool.not_false]
                      refine rg_skip (by rfl) ?_
                      simp only [Act.put, Act.eval, q1, q2, q3, q4, q5, q6, q7, q8, q9, q10, q11, q12, q13, q14, q15, q16, q17, q18, Nat.reduceAdd, Bool.not_true, Bool.not_false]
                      refine rf_pick rfl rfl rfl ?_
                      simp only [Act.put, Act.eval, q1, q2, q3, q4, q5, q6, q7, q8, q9, q10, q11, q12, q13, q14, q15, q16, q17, q18, Nat.reduceAdd, Bool.not_true, Bool.not_false]
                      refine rg_move ?_
                      simp only [Act.put, Act.eval, q1, q2, q3, q4, q5, q6, q7, q8, q9, q10, q11, q12, q13, q14, q15, q16, q17, q18, Nat.reduceAdd, Bool.not_true, Bool.not_false]
                      refine rg_skip (by rfl) ?_
                      simp only [Act.put, Act.eval, q1, q2, q3, q4, q5, q6, q7, q8, q9, q10, q11, q12, q13, q14, q15, q16, q17, q18, Nat.reduceAdd, Bool.not_true, Bool.not_false]
                      refine rg_skip (by rfl) ?_
                      simp only [Act.put, Act.eval, q1, q2, q3, q4, q5, q6, q7, q8, q9, q10, q11, q12, q13, q14, q15, q16, q17, q18, Nat.reduceAdd, Bool.not_true, Bool.not_false]
                      refine rg_skip_h (by rfl) (fun _ h => by cases h) ?_
                      simp only [Act.put, Act.eval, q1, q2, q3, q4, q5, q6, q7, q8, q9, q10, q11, q12, q13, q14, q15, q16, q17, q18, Nat.reduceAdd, Bool.not_true, Bool.not_false]
                      refine rg_skip (by rfl) ?_
                      simp only [Act.put, Act.eval, q1, q2, q3, q4, q5, q6, q7, q8, q9, q10, q11, q12, q13, q14, q15, q16, q17, q18, Nat.reduceAdd, Bool.not_true, Bool.not_false]
                      refine rf_pick rfl rfl rfl ?_
                      simp only [Act.put, Act.eval, q1, q2, q3, q4, q5, q6, q7, q8, q9, q10, q11, q12, q13, q14, q15, q16, q17, q18, Nat.reduceAdd, Bool.not_true, Bool.not_false]
                      refine rg_nil ?_
                      refine ek_sub (sk _ (sk _ (sk _ (sc _ (sc _ (sc _ (sc _ (sc _ (sc _ sn))))))))) ?_
                      refine ek_midF (by kernel_rfl) ?_
                      exact ⟨rfl, by rfl⟩
                    · (try simp only [decide_eq_true_eq, decide_eq_false_iff_not, Int.not_lt, Int.not_le, beq_iff_eq, beq_eq_false_iff_ne, bne_iff_ne, bne_eq_false_iff_eq, ne_eq, Bool.not_eq_true', Bool.not_eq_false'] at h12)
                      simp only [Act.put, Act.eval, q1, q2, q3, q4, q5, q6, q7, q8, q9, q10, q11, q12, q13, q14, q15, q16, q17, q18, Nat.reduceAdd, Bool.not_true, Bool.not_false]
                      refine rf_pick rfl rfl rfl ?_
                      simp only [Act.put, Act.eval, q1, q2, q3, q4, q5, q6, q7, q8, q9, q10, q11, q12, q13, q14, q15, q16, q17, q18, Nat.reduceAdd, Bool.not_true, Bool.not_false]
                      refine rg_move ?_
                      simp only [Act.put, Act.eval, q1, q2, q3, q4, q5, q6, q7, q8, q9, q10, q11, q12, q13, q14, q15, q16, q17, q18, Nat.reduceAdd, Bool.not_true, Bool.not_false]
                      apply rg_soft_g
                      case hg => rfl
                      case hy => (intro w hw; go_simp; (try go_bits); exact Yld.mk _ _)
                      simp only [Act.put, Act.eval, q1, q2, q3, q4, q5, q6, q7, q8, q9, q10, q11, q12, q13, q14, q15, q16, q17, q18, Nat.reduceAdd, Bool.not_true, Bool.not_false]
                      refine rfb_eql rfl rfl rfl rfl ?_
                      intro x h13
                      cases x
                      · (try simp only [decide_eq_true_eq, decide_eq_false_iff_not, Int.not_lt, Int.not_le, beq_iff_eq, beq_eq_false_iff_ne, bne_iff_ne, bne_eq_false_iff_eq, ne_eq, Bool.not_eq_true', Bool.not_eq_false'] at h13)
                        simp only [Act.put, Act.eval, q1, q2, q3, q4, q5, q6, q7, q8, q9, q10, q11, q12, q13, q14, q15, q16, q17, q18, Nat.reduceAdd, Bool.not_true, Bool.not_false]
                        refine rf_pick rfl rfl rfl ?_
                        simp only [Act.put, Act.eval, q1, q2, q3, q4, q5, q6, q7, q8, q9, q10, q11, q12, q13, q14, q15, q16, q17, q18, Nat.reduceAdd, Bool.not_true, Bool.not_false]
                        refine rg_move ?_
                        simp only [Act.put, Act.eval, q1, q2, q3, q4, q5, q6, q7, q8, q9, q10, q11, q12, q13, q14, q15, q16, q17, q18, Nat.reduceAdd, Bool.not_true, Bool.not_false]
                        refine rg_skip (by rfl) ?_
                        simp only [Act.put, Act.eval, q1, q2, q3, q4, q5, q6, q7, q8, q9, q10, q11, q12, q13, q14, q15, q16, q17, q18, Nat.reduceAdd, Bool.not_true, Bool.not_false]
                        refine rg_skip (by rfl) ?_
                        simp only [Act.put, Act.eval, q1, q2, q3, q4, q5, q6, q7, q8, q9, q10, q11, q12, q13, q14, q15, q16, q17, q18, Nat.reduceAdd, Bool.not_true, Bool.not_false]
                        refine rg_skip_h (by rfl) (fun _ h => by cases h) ?_
                        simp only [Act.put, Act.eval, q1, q2, q3, q4, q5, q6, q7, q8, q9, q10, q11, q12, q13, q14, q15, q16, q17, q18, Nat.reduceAdd, Bool.not_true, Bool.not_false]
                        refine rg_skip (by rfl) ?_
                        simp only [Act.put, Act.eval, q1, q2, q3, q4, q5, q6, q7, q8, q9, q10, q11, q12, q13, q14, q15, q16, q17, q18, Nat.reduceAdd, Bool.not_true, Bool.not_false]
                        refine rf_pick rfl rfl rfl ?_
                        simp only [Act.put, Act.eval, q1, q2, q3, q4, q5, q6, q7, q8, q9, q10, q11, q12, q13, q14, q15, q16, q17, q18, Nat.reduceAdd, Bool.not_true, Bool.not_false]
                        refine rg_nil ?_
                        refine ek_sub (sk _ (sk _ (sk _ (sc _ (sc _ (sc _ (sc _ (sc _ (sc _ sn))))))))) ?_
                        refine ek_midF (by kernel_rfl) ?_
                        exact ⟨rfl, by rfl⟩
                      · (try simp only [decide_eq_true_eq, decide_eq_false_iff_not, Int.not_lt, Int.not_le, beq_iff_eq, beq_eq_false_iff_ne, bne_iff_ne, bne_eq_false_iff_eq, ne_eq, Bool.not_eq_true', Bool.not_eq_false'] at h13)
                        simp only [Act.put, Act.eval, q1, q2, q3, q4, q5, q6, q7, q8, q9, q10, q11, q12, q13, q14, q15, q16, q17, q18, Nat.reduceAdd, Bool.not_true, Bool.not_false]
                        refine rf_pick rfl rfl rfl ?_
                        simp only [Act.put, Act.eval, q1, q2, q3, q4, q5, q6, q7, q8, q9, q10, q11, q12, q13, q14, q15, q16, q17, q18, Nat.reduceAdd, Bool.not_true, Bool.not_false]
                        refine rg_move ?_
                        simp only [Act.put, Act.eval, q1, q2, q3, q4, q5, q6, q7, q8, q9, q10, q11, q12, q13, q14, q15, q16, q17, q18, Nat.reduceAdd, Bool.not_true, Bool.not_false]
                        refine rf_loadR (n := 4) rfl rfl rfl Try.underlying25 rfl (by kernel_rfl) (fun w hw => Kn.hd0 hw) rfl rfl ?_
                        simp only [Act.put, Act.eval, q1, q2, q3, q4, q5, q6, q7, q8, q9, q10, q11, q12, q13, q14, q15, q16, q17, q18, Nat.reduceAdd, Bool.not_true, Bool.not_false]
                        refine rf_loadR (n := 4) rfl rfl rfl Try.underlying25 rfl (by kernel_rfl) (fun w hw => Kn.hd0 (Kn.tl hw)) rfl rfl ?_
                        simp only [Act.put, Act.eval, q1, q2, q3, q4, q5, q6, q7, q8, q9, q10, q11, q12, q13, q14, q15, q16, q17, q18, Nat.reduceAdd, Bool.not_true, Bool.not_false]
                        apply rg_pureb (by rfl) (by kernel_rfl)
                        case hargs => (simp only [List.map_toArray, List.map_cons, List.map_nil, Act.eval, Array.getD_eq_getD_getElem?, List.getElem?_toArray, List.getElem?_cons_zero, List.getElem?_cons_succ, Option.getD_some]; exact rfl)
                        case h => exact fun w hw => J3.out w
                        case hz => exact (fun _ h => by cases h)
                        intro x h14
                        cases x
                        · (try simp only [decide_eq_true_eq, decide_eq_false_iff_not, Int.not_lt, Int.not_le, beq_iff_eq, beq_eq_false_iff_ne, bne_iff_ne, bne_eq_false_iff_eq, ne_eq, Bool.not_eq_true', Bool.not_eq_false'] at h14)
                          simp only [Act.put, Act.eval, q1, q2, q3, q4, q5, q6, q7, q8, q9, q10, q11, q12, q13, q14, q15, q16, q17, q18, Nat.reduceAdd, Bool.not_true, Bool.not_false]
                          exact absurd ((K3.out h11 h12 h13).symm.trans h14) (by decide)
                        · (try simp only [decide_eq_true_eq, decide_eq_false_iff_not, Int.not_lt, Int.not_le, beq_iff_eq, beq_eq_false_iff_ne, bne_iff_ne, bne_eq_false_iff_eq, ne_eq, Bool.not_eq_true', Bool.not_eq_false'] at h14)
                          simp only [Act.put, Act.eval, q1, q2, q3, q4, q5, q6, q7, q8, q9, q10, q11, q12, q13, q14, q15, q16, q17, q18, Nat.reduceAdd, Bool.not_true, Bool.not_false]
                          refine rf_not rfl rfl rfl ?_
                          simp only [Act.put, Act.eval, q1, q2, q3, q4, q5, q6, q7, q8, q9, q10, q11, q12, q13, q14, q15, q16, q17, q18, Nat.reduceAdd, Bool.not_true, Bool.not_false]
                          refine rf_pick rfl rfl rfl ?_
                          simp only [Act.put, Act.eval, q1, q2, q3, q4, q5, q6, q7, q8, q9, q10, q11, q12, q13, q14, q15, q16, q17, q18, Nat.reduceAdd, Bool.not_true, Bool.not_false]
                          refine rg_nil ?_
                          refine ek_sub (sk _ (sk _ (sk _ (sc _ (sc _ (sc _ (sc _ (sc _ (sc _ sn))))))))) ?_
                          refine ek_midF (by kernel_rfl) ?_
                          exact ⟨rfl, by rfl⟩
                · rintro f6 s ⟨hs6_84, rfl⟩
                  simp only [Act.putF, List.foldl_cons, List.foldl_nil, hs6_84, Act.put, Act.eval, q1, q2, q3, q4, q5, q6, q7, q8, q9, q10, q11, q12, q13, q14, q15, q16, q17, q18, Nat.reduceAdd, Bool.not_true, Bool.not_false]
                  clear hs6_84
                  refine wk_cond_f rfl ?_
                  refine wk_skip ?_
                  refine ek_block ?_
                  refine ek_next ?_
                  refine wk_region [0, 0] rfl (by kernel_rfl) ?_
                  simp only [List.zip_cons_cons, List.zip_nil_right]
                  refine rf_add (r := 3) rfl rfl rfl rfl (by decide) ?_
                  simp only [Act.put, Act.eval, q1, q2, q3, q4, q5, q6, q7, q8, q9, q10, q11, q12, q13, q14, q15, q16, q17, q18, Nat.reduceAdd, Bool.not_true, Bool.not_false]
                  refine rg_move ?_
                  simp only [Act.put, Act.eval, q1, q2, q3, q4, q5, q6, q7, q8, q9, q10, q11, q12, q13, q14, q15, q16, q17, q18, Nat.reduceAdd, Bool.not_true, Bool.not_false]
                  refine rg_nil ?_
                  refine ek_again ?_
                  refine wk_seq ?_
                  refine wk_region [0] rfl (by kernel_rfl) ?_
                  simp only [List.zip_cons_cons, List.zip_nil_right]
                  refine rf_lss (b := false) rfl rfl rfl rfl (by decide) ?_
                  simp only [Act.put, Act.eval, q1, q2, q3, q4, q5, q6, q7, q8, q9, q10, q11, q12, q13, q14, q15, q16, q17, q18, Nat.reduceAdd, Bool.not_true, Bool.not_false]
                  refine rg_nil ?_
                  refine ek_next ?_
                  refine wk_seq ?_
                  refine wk_cond_f rfl ?_
                  refine wk_exit ?_
                  refine ek_then_exit ?_
                  refine ek_then_exit ?_
                  refine ek_block_exit ?_
                  refine ek_next ?_
                  refine wk_seq ?_
                  refine wk_region [0, 1, 0, 0, 0, 1, 1, 0] rfl (by kernel_rfl) ?_
                  simp only [List.zip_cons_cons, List.zip_nil_right]
                  refine rf_loadR (n := 5) rfl rfl rfl Try.underlying69 rfl (by kernel_rfl) (fun w hw => Kn.hd0 (Kn.tl (Kn.tl (Kn.tl (Kn.tl (Kn.tl hw)))))) rfl rfl ?_
                  simp only [Act.put, Act.eval, q1, q2, q3, q4, q5, q6, q7, q8, q9, q10, q11, q12, q13, q14, q15, q16, q17, q18, Nat.reduceAdd, Bool.not_true, Bool.not_false]
                  apply rg_pure (by rfl) (by kernel_rfl)
                  case hargs => (simp only [List.map_toArray, List.map_cons, List.map_nil, Act.eval, Array.getD_eq_getD_getElem?, List.getElem?_toArray, List.getElem?_cons_zero, List.getElem?_cons_succ, Option.getD_some]; exact rfl)
                  case h => exact fun w hw => A4.out w
                  case hz => exact (fun _ h => by cases h)
                  simp only [Act.put, Act.eval, q1, q2, q3, q4, q5, q6, q7, q8, q9, q10, q11, q12, q13, q14, q15, q16, q17, q18, Nat.reduceAdd, Bool.not_true, Bool.not_false]
                  refine rg_move ?_
                  simp only [Act.put, Act.eval, q1, q2, q3, q4, q5, q6, q7, q8, q9, q10, q11, q12, q13, q14, q15, q16, q17, q18, Nat.reduceAdd, Bool.not_true, Bool.not_false]
                  refine rf_extract rfl rfl rfl rfl ?_
                  simp only [Act.put, Act.eval, q1, q2, q3, q4, q5, q6, q7, q8, q9, q10, q11, q12, q13, q14, q15, q16, q17, q18, Nat.reduceAdd, Bool.not_true, Bool.not_false]
                  refine rf_extract rfl rfl rfl rfl ?_
                  simp only [Act.put, Act.eval, q1, q2, q3, q4, q5, q6, q7, q8, q9, q10, q11, q12, q13, q14, q15, q16, q17, q18, Nat.reduceAdd, Bool.not_true, Bool.not_false]
                  refine rg_new (cs := ?_) (ty := ?_) (by rfl) (fun w => ?_) (fun _ h => by cases h) (fun g19 => ?_); rotate_left 2
                  focus (go_simp; rfl)
                  simp only [Act.put, Act.eval, q1, q2, q3, q4, q5, q6, q7, q8, q9, q10, q11, q12, q13, q14, q15, q16, q17, q18, Nat.reduceAdd, Bool.not_true, Bool.not_false]
                  refine rf_storeR (n := 5) rfl rfl (by kernel_rfl) rfl rfl (UpdR.here _ _ _ (Nat.le_of_ble_eq_true rfl)) (fun _ h => by cases h) ?_
                  simp only [Act.put, Act.eval, q1, q2, q3, q4, q5, q6, q7, q8, q9, q10, q11, q12, q13, q14, q15, q16, q17, q18, Nat.reduceAdd, Bool.not_true, Bool.not_false]
                  refine rg_assign ?_
                  simp only [Act.put, Act.eval, q1, q2, q3, q4, q5, q6, q7, q8, q9, q10, q11, q12, q13, q14, q15, q16, q17, q18, Nat.reduceAdd, Bool.not_true, Bool.not_false]
                  refine rg_nil ?_
                  refine ek_next ?_
                  refine wk_seq ?_
                  refine wk_region [0, 1, 0, 0, 0, 1, 1, 0] rfl (by kernel_rfl) ?_
                  simp only [List.zip_cons_cons, List.zip_nil_right]
                  refine rf_loadR (n := 4) rfl rfl rfl Try.underlying25 rfl (by kernel_rfl) (fun w hw => Kn.hd0 (Kn.tl (Kn.tl (Kn.tl (Kn.tl hw))))) rfl rfl ?_
                  simp only [Act.put, Act.eval, q1, q2, q3, q4, q5, q6, q7, q8, q9, q10, q11, q12, q13, q14, q15, q16, q17, q18, Nat.reduceAdd, Bool.not_true, Bool.not_false]
                  apply rg_pure (by rfl) (by kernel_rfl)
                  case hargs => (simp only [List.map_toArray, List.map_cons, List.map_nil, Act.eval, Array.getD_eq_getD_getElem?, List.getElem?_toArray, List.getElem?_cons_zero, List.getElem?_cons_succ, Option.getD_some]; exact rfl)
                  case h => exact fun w hw => C4.out w
                  case hz => exact (fun _ h => by cases h)
                  simp only [Act.put, Act.eval, q1, q2, q3, q4, q5, q6, q7, q8, q9, q10, q11, q12, q13, q14, q15, q16, q17, q18, Nat.reduceAdd, Bool.not_true, Bool.not_false]
                  refine rg_move ?_
                  simp only [Act.put, Act.eval, q1, q2, q3, q4, q5, q6, q7, q8, q9, q10, q11, q12, q13, q14, q15, q16, q17, q18, Nat.reduceAdd, Bool.not_true, Bool.not_false]
                  refine rf_extract rfl rfl rfl rfl ?_
                  simp only [Act.put, Act.eval, q1, q2, q3, q4, q5, q6, q7, q8, q9, q10, q11, q12, q13, q14, q15, q16, q17, q18, Nat.reduceAdd, Bool.not_true, Bool.not_false]
                  refine rf_extract rfl rfl rfl rfl ?_
                  simp only [Act.put, Act.eval, q1, q2, q3, q4, q5, q6, q7, q8, q9, q10, q11, q12, q13, q14, q15, q16, q17, q18, Nat.reduceAdd, Bool.not_true, Bool.not_false]
                  refine rg_new (cs := ?_) (ty := ?_) (by rfl) (fun w => ?_) (fun _ h => by cases h) (fun g20 => ?_); rotate_left 2
                  focus (go_simp; rfl)
                  simp only [Act.put, Act.eval, q1, q2, q3, q4, q5, q6, q7, q8, q9, q10, q11, q12, q13, q14, q15, q16, q17, q18, Nat.reduceAdd, Bool.not_true, Bool.not_false]
                  refine rf_storeR (n := 2) rfl rfl (by kernel_rfl) rfl rfl (UpdR.here _ _ _ (Nat.le_of_ble_eq_true rfl)) (fun _ h => by cases h) ?_
                  simp only [Act.put, Act.eval, q1, q2, q3, q4, q5, q6, q7, q8, q9, q10, q11, q12, q13, q14, q15, q16, q17, q18, Nat.reduceAdd, Bool.not_true, Bool.not_false]
                  refine rg_assign ?_
                  simp only [Act.put, Act.eval, q1, q2, q3, q4, q5, q6, q7, q8, q9, q10, q11, q12, q13, q14, q15, q16, q17, q18, Nat.reduceAdd, Bool.not_true, Bool.not_false]
                  refine rg_nil ?_
                  refine ek_next ?_
                  refine wk_seq ?_
                  refine wk_region [0, 1, 0, 0, 0, 1, 1, 0] rfl (by kernel_rfl) ?_
                  simp only [List.zip_cons_cons, List.zip_nil_right]
                  refine rf_loadR (n := 5) rfl rfl rfl Try.underlying69 rfl (by kernel_rfl) (fun w hw => Kn.hd0 (Kn.tl hw)) rfl rfl ?_
                  simp only [Act.put, Act.eval, q1, q2, q3, q4, q5, q6, q7, q8, q9, q10, q11, q12, q13, q14, q15, q16, q17, q18, Nat.reduceAdd, Bool.not_true, Bool.not_false]
                  apply rg_pure (by rfl) (by kernel_rfl)
                  case hargs => (simp only [List.map_toArray, List.map_cons, List.map_nil, Act.eval, Array.getD_eq_getD_getElem?, List.getElem?_toArray, List.getElem?_cons_zero, List.getElem?_cons_succ, Option.getD_some]; exact rfl)
                  case h => exact fun w hw => D4.out w
                  case hz => exact (fun _ h => by cases h)
                  simp only [Act.put, Act.eval, q1, q2, q3, q4, q5, q6, q7, q8, q9, q10, q11, q12, q13, q14, q15, q16, q17, q18, Nat.reduceAdd, Bool.not_true, Bool.not_false]
                  refine rg_move ?_
                  simp only [Act.put, Act.eval, q1, q2, q3, q4, q5, q6, q7, q8, q9, q10, q11, q12, q13, q14, q15, q16, q17, q18, Nat.reduceAdd, Bool.not_true, Bool.not_false]
                  refine rf_extract rfl rfl rfl rfl ?_
                  simp only [Act.put, Act.eval, q1, q2, q3, q4, q5, q6, q7, q8, q9, q10, q11, q12, q13, q14, q15, q16, q17, q18, Nat.reduceAdd, Bool.not_true, Bool.not_false]
                  refine rf_extract rfl rfl rfl rfl ?_
                  simp only [Act.put, Act.eval, q1, q2, q3, q4, q5, q6, q7, q8, q9, q10, q11, q12, q13, q14, q15, q16, q17, q18, Nat.reduceAdd, Bool.not_true, Bool.not_false]
                  refine rg_new (cs := ?_) (ty := ?_) (by rfl) (fun w => ?_) (fun _ h => by cases h) (fun g21 => ?_); rotate_left 2
                  focus (go_simp; rfl)
                  simp only [Act.put, Act.eval, q1, q2, q3, q4, q5, q6, q7, q8, q9, q10, q11, q12, q13, q14, q15, q16, q17, q18, Nat.reduceAdd, Bool.not_true, Bool.not_false]
                  refine rf_storeR (n := 4) rfl rfl (by kernel_rfl) rfl rfl (UpdR.here _ _ _ (Nat.le_of_ble_eq_true rfl)) (fun _ h => by cases h) ?_
                  simp only [Act.put, Act.eval, q1, q2, q3, q4, q5, q6, q7, q8, q9, q10, q11, q12, q13, q14, q15, q16, q17, q18, Nat.reduceAdd, Bool.not_true, Bool.not_false]
                  refine rg_assign ?_
                  simp only [Act.put, Act.eval, q1, q2, q3, q4, q5, q6, q7, q8, q9, q10, q11, q12, q13, q14, q15, q16, q17, q18, Nat.reduceAdd, Bool.not_true, Bool.not_false]
                  refine rg_nil ?_
                  refine ek_next ?_
                  refine wk_seq ?_
                  refine wk_draws _ _ [(0, 0), (1, 0), (2, 0), (3, 0), (4, 0), (5, 0), (6, 0), (7, 0), (8, 0), (9, 0), (10, 0), (11, 0), (12, 0), (13, 1), (14, 1), (15, 0), (16, 0), (17, 1), (18, 0), (19, 0)] [] (by kernel_rfl) (by kernel_rfl) (fun c d v a w h => by cases d <;> exact h) ((sc _ (sc _ (sc _ (sc _ (sc _ (sc _ (sc _ (sc _ (sc _ sn)))))))))) (fun e => by first | exact absurd e (by decide) | rfl) ?_
                  simp only [List.map_cons, List.map_nil, List.getD_cons_zero, List.getD_cons_succ]
                  refine rg_move ?_
                  simp only [Act.put, Act.eval, q1, q2, q3, q4, q5, q6, q7, q8, q9, q10, q11, q12, q13, q14, q15, q16, q17, q18, Nat.reduceAdd, Bool.not_true, Bool.not_false]
                  refine rfb_neq rfl rfl rfl rfl ?_
                  intro x h15
                  cases x
                  · (try simp only [decide_eq_true_eq, decide_eq_false_iff_not, Int.not_lt, Int.not_le, beq_iff_eq, beq_eq_false_iff_ne, bne_iff_ne, bne_eq_false_iff_eq, ne_eq, Bool.not_eq_true', Bool.not_eq_false'] at h15)
                    simp only [Act.put, Act.eval, q1, q2, q3, q4, q5, q6, q7, q8, q9, q10, q11, q12, q13, q14, q15, q16, q17, q18, Nat.reduceAdd, Bool.not_true, Bool.not_false]
                    refine rg_move ?_
                    simp only [Act.put, Act.eval, q1, q2, q3, q4, q5, q6, q7, q8, q9, q10, q11, q12, q13, q14, q15, q16, q17, q18, Nat.reduceAdd, Bool.not_true, Bool.not_false]
                    apply rg_soft_g
                    case hg => rfl
                    case hy => (intro w hw; go_simp; (try go_bits); exact Yld.mk _ _)
                    simp only [Act.put, Act.eval, q1, q2, q3, q4, q5, q6, q7, q8, q9, q10, q11, q12, q13, q14, q15, q16, q17, q18, Nat.reduceAdd, Bool.not_true, Bool.not_false]
                    refine rfb_neq rfl rfl rfl rfl ?_
                    intro x h16
                    cases x
                    · (try simp only [decide_eq_true_eq, decide_eq_false_iff_not, Int.not_lt, Int.not_le, beq_iff_eq, beq_eq_false_iff_ne, bne_iff_ne, bne_eq_false_iff_eq, ne_eq, Bool.not_eq_true', Bool.not_eq_false'] at h16)
                      simp only [Act.put, Act.eval, q1, q2, q3, q4, q5, q6, q7, q8, q9, q10, q11, q12, q13, q14, q15, q16, q17, q18, Nat.reduceAdd, Bool.not_true, Bool.not_false]
                      refine rf_pick rfl rfl rfl ?_
                      simp only [Act.put, Act.eval, q1, q2, q3, q4, q5, q6, q7, q8, q9, q10, q11, q12, q13, q14, q15, q16, q17, q18, Nat.reduceAdd, Bool.not_true, Bool.not_false]
                      refine rg_move ?_
                      simp only [Act.put, Act.eval, q1, q2, q3, q4, q5, q6, q7, q8, q9, q10, q11, q12, q13, q14, q15, q16, q17, q18, Nat.reduceAdd, Bool.not_true, Bool.not_false]
                      apply rg_soft_g
                      case hg => rfl
                      case hy => (intro w hw; go_simp; (try go_bits); exact Yld.mk _ _)
                      simp only [Act.put, Act.eval, q1, q2, q3, q4, q5, q6, q7, q8, q9, q10, q11, q12, q13, q14, q15, q16, q17, q18, Nat.reduceAdd, Bool.not_true, Bool.not_false]
                      refine rfb_neq rfl rfl rfl rfl ?_
                      intro x h17
                      cases x
                      · (try simp only [decide_eq_true_eq, decide_eq_false_iff_not, Int.not_lt, Int.not_le, beq_iff_eq, beq_eq_false_iff_ne, bne_iff_ne, bne_eq_false_iff_eq, ne_eq, Bool.not_eq_true', Bool.not_eq_false'] at h17)
                        simp only [Act.put, Act.eval, q1, q2, q3, q4, q5, q6, q7, q8, q9, q10, q11, q12, q13, q14, q15, q16, q17, q18, Nat.reduceAdd, Bool.not_true, Bool.not_false]
                        refine rf_pick rfl rfl rfl ?_
                        simp only [Act.put, Act.eval, q1, q2, q3, q4, q5, q6, q7, q8, q9, q10, q11, q12, q13, q14, q15, q16, q17, q18, Nat.reduceAdd, Bool.not_true, Bool.not_false]
                        refine rg_move ?_
                        simp only [Act.put, Act.eval, q1, q2, q3, q4, q5, q6, q7, q8, q9, q10, q11, q12, q13, q14, q15, q16, q17, q18, Nat.reduceAdd, Bool.not_true, Bool.not_false]
                        refine rf_loadR (n := 4) rfl rfl rfl Try.underlying25 rfl (by kernel_rfl) (fun w hw => Kn.hd0 hw) rfl rfl ?_
                        simp only [Act.put, Act.eval, q1, q2, q3, q4, q5, q6, q7, q8, q9, q10, q11, q12, q13, q14, q15, q16, q17, q18, Nat.reduceAdd, Bool.not_true, Bool.not_false]
                        refine rf_loadR (n := 2) rfl rfl rfl Try.underlying23 rfl (by kernel_rfl) (fun w hw => Kn.hd0 (Kn.tl hw)) rfl rfl ?_
                        simp only [Act.put, Act.eval, q1, q2, q3, q4, q5, q6, q7, q8, q9, q10, q11, q12, q13, q14, q15, q16, q17, q18, Nat.reduceAdd, Bool.not_true, Bool.not_false]
                        apply rg_pure (by rfl) (by kernel_rfl)
                        case hargs => (simp only [List.map_toArray, List.map_cons, List.map_nil, Act.eval, Array.getD_eq_getD_getElem?, List.getElem?_toArray, List.getElem?_cons_zero, List.getElem?_cons_succ, Option.getD_some]; exact rfl)
                        case h => exact fun w hw => wideV_any c4 w
                        case hz => exact (fun _ h => by cases h; exact (sc _ (sc _ (sc _ (sc _ (sc _ (sc _ (sc _ (sc _ (sc _ sn))))))))))
                        simp only [Act.put, Act.eval, q1, q2, q3, q4, q5, q6, q7, q8, q9, q10, q11, q12, q13, q14, q15, q16, q17, q18, Nat.reduceAdd, Bool.not_true, Bool.not_false]
                        apply rg_pureb (by rfl) (by kernel_rfl)
                        case hargs => (simp only [List.map_toArray, List.map_cons, List.map_nil, Act.eval, Array.getD_eq_getD_getElem?, List.getElem?_toArray, List.getElem?_cons_zero, List.getElem?_cons_succ, Option.getD_some]; exact rfl)
                        case h => exact fun w hw => J4.out w
                        case hz => exact (fun _ h => by cases h; exact (sc _ (sc _ (sc _ (sc _ (sc _ (sc _ (sc _ (sc _ (sc _ sn))))))))))
                        intro x h18
                        cases x
                        · (try simp only [decide_eq_true_eq, decide_eq_false_iff_not, Int.not_lt, Int.not_le, beq_iff_eq, beq_eq_false_iff_ne, bne_iff_ne, bne_eq_false_iff_eq, ne_eq, Bool.not_eq_true', Bool.not_eq_false'] at h18)
                          simp only [Act.put, Act.eval, q1, q2, q3, q4, q5, q6, q7, q8, q9, q10, q11, q12, q13, q14, q15, q16, q17, q18, Nat.reduceAdd, Bool.not_true, Bool.not_false]
                          exact absurd ((K4.out (by omega) (by omega) (by omega)).symm.trans h18) (by decide)
                        · (try simp only [decide_eq_true_eq, decide_eq_false_iff_not, Int.not_lt, Int.not_le, beq_iff_eq, beq_eq_false_iff_ne, bne_iff_ne, bne_eq_false_iff_eq, ne_eq, Bool.not_eq_true', Bool.not_eq_false'] at h18)
                          simp only [Act.put, Act.eval, q1, q2, q3, q4, q5, q6, q7, q8, q9, q10, q11, q12, q13, q14, q15, q16, q17, q18, Nat.reduceAdd, Bool.not_true, Bool.not_false]
                          refine rf_pick rfl rfl rfl ?_
                          simp only [Act.put, Act.eval, q1, q2, q3, q4, q5, q6, q7, q8, q9, q10, q11, q12, q13, q14, q15, q16, q17, q18, Nat.reduceAdd, Bool.not_true, Bool.not_false]
                          refine rg_move ?_
                          simp only [Act.put, Act.eval, q1, q2, q3, q4, q5, q6, q7, q8, q9, q10, q11, q12, q13, q14, q15, q16, q17, q18, Nat.reduceAdd, Bool.not_true, Bool.not_false]
                          apply rg_pure (by rfl) (by kernel_rfl)
                          case hargs => (simp only [List.map_toArray, List.map_cons, List.map_nil, Act.eval, Array.getD_eq_getD_getElem?, List.getElem?_toArray, List.getElem?_cons_zero, List.getElem?_cons_succ, Option.getD_some]; exact rfl)
                          case h => exact fun w hw => awake_any w
                          case hz => exact (fun _ h => by cases h; exact (sc _ (sc _ (sc _ (sc _ (sc _ (sc _ (sc _ (sc _ (sc _ sn))))))))))
                          simp only [Act.put, Act.eval, q1, q2, q3, q4, q5, q6, q7, q8, q9, q10, q11, q12, q13, q14, q15, q16, q17, q18, Nat.reduceAdd, Bool.not_true, Bool.not_false]
                          refine rf_pick rfl rfl rfl ?_
                          simp only [Act.put, Act.eval, q1, q2, q3, q4, q5, q6, q7, q8, q9, q10, q11, q12, q13, q14, q15, q16, q17, q18, Nat.reduceAdd, Bool.not_true, Bool.not_false]
                          refine rg_assign ?_
                          simp only [Act.put, Act.eval, q1, q2, q3, q4, q5, q6, q7, q8, q9, q10, q11, q12, q13, q14, q15, q16, q17, q18, Nat.reduceAdd, Bool.not_true, Bool.not_false]
                          refine rg_nil ?_
                          refine ek_next ?_
                          refine wk_ret ?_
                          refine ek_ret (fun w hw => ⟨rfl, _, res_t _ rfl, ?_⟩)
                          (try simp only [Act.put, Act.eval, q1, q2, q3, q4, q5, q6, q7, q8, q9, q10, q11, q12, q13, q14, q15, q16, q17, q18, Nat.reduceAdd, Bool.not_true, Bool.not_false])
                          first | exact ⟨rfl, hw.below⟩ | exact ⟨trivial, hw.below⟩ | exact hw.below
                      · (try simp only [decide_eq_true_eq, decide_eq_false_iff_not, Int.not_lt, Int.not_le, beq_iff_eq, beq_eq_false_iff_ne, bne_iff_ne, bne_eq_false_iff_eq, ne_eq, Bool.not_eq_true', Bool.not_eq_false'] at h17)
                        simp only [Act.put, Act.eval, q1, q2, q3, q4, q5, q6, q7, q8, q9, q10, q11, q12, q13, q14, q15, q16, q17, q18, Nat.reduceAdd, Bool.not_true, Bool.not_false]
                        refine rf_pick rfl rfl rfl ?_
                        simp only [Act.put, Act.eval, q1, q2, q3, q4, q5, q6, q7, q8, q9, q10, q11, q12, q13, q14, q15, q16, q17, q18, Nat.reduceAdd, Bool.not_true, Bool.not_false]
                        refine rg_move ?_
                        simp only [Act.put, Act.eval, q1, q2, q3, q4, q5, q6, q7, q8, q9, q10, q11, q12, q13, q14, q15, q16, q17, q18, Nat.reduceAdd, Bool.not_true, Bool.not_false]
                        refine rg_skip (by rfl) ?_
                        simp only [Act.put, Act.eval, q1, q2, q3, q4, q5, q6, q7, q8, q9, q10, q11, q12, q13, q14, q15, q16, q17, q18, Nat.reduceAdd, Bool.not_true, Bool.not_false]
                        refine rg_skip (by rfl) ?_
                        simp only [Act.put, Act.eval, q1, q2, q3, q4, q5, q6, q7, q8, q9, q10, q11, q12, q13, q14, q15, q16, q17, q18, Nat.reduceAdd, Bool.not_true, Bool.not_false]
                        refine rg_skip_h (by rfl) (fun _ h => by cases h; exact (sc _ (sc _ (sc _ (sc _ (sc _ (sc _ (sc _ (sc _ (sc _ sn)))))))))) ?_
                        simp only [Act.put, Act.eval, q1, q2, q3, q4, q5, q6, q7, q8, q9, q10, q11, q12, q13, q14, q15, q16, q17, q18, Nat.reduceAdd, Bool.not_true, Bool.not_false]
                        refine rg_skip_h (by rfl) (fun _ h => by cases h; exact (sc _ (sc _ (sc _ (sc _ (sc _ (sc _ (sc _ (sc _ (sc _ sn)))))))))) ?_
                        simp only [Act.put, Act.eval, q1, q2, q3, q4, q5, q6, q7, q8, q9, q10, q11, q12, q13, q14, q15, q16, q17, q18, Nat.reduceAdd, Bool.not_true, Bool.not_false]
                        refine rf_pick rfl rfl rfl ?_
                        simp only [Act.put, Act.eval, q1, q2, q3, q4, q5, q6, q7, q8, q9, q10, q11, q12, q13, q14, q15, q16, q17, q18, Nat.reduceAdd, Bool.not_true, Bool.not_false]
                        refine rg_move ?_
                        simp only [Act.put, Act.eval, q1, q2, q3, q4, q5, q6, q7, q8, q9, q10, q11, q12, q13, q14, q15, q16, q17, q18, Nat.reduceAdd, Bool.not_true, Bool.not_false]
                        apply rg_pure (by rfl) (by kernel_rfl)
                        case hargs => (simp only [List.map_toArray, List.map_cons, List.map_nil, Act.eval, Array.getD_eq_getD_getElem?, List.getElem?_toArray, List.getElem?_cons_zero, List.getElem?_cons_succ, Option.getD_some]; exact rfl)
                        case h => exact fun w hw => awake_any w
                        case hz => exact (fun _ h => by cases h; exact (sc _ (sc _ (sc _ (sc _ (sc _ (sc _ (sc _ (sc _ (sc _ sn))))))))))
                        simp only [Act.put, Act.eval, q1, q2, q3, q4, q5, q6, q7, q8, q9, q10, q11, q12, q13, q14, q15, q16, q17, q18, Nat.reduceAdd, Bool.not_true, Bool.not_false]
                        refine rf_pick rfl rfl rfl ?_
                        simp only [Act.put, Act.eval, q1, q2, q3, q4, q5, q6, q7, q8, q9, q10, q11, q12, q13, q14, q15, q16, q17, q18, Nat.reduceAdd, Bool.not_true, Bool.not_false]
                        refine rg_assign ?_
                        simp only [Act.put, Act.eval, q1, q2, q3, q4, q5, q6, q7, q8, q9, q10, q11, q12, q13, q14, q15, q16, q17, q18, Nat.reduceAdd, Bool.not_true, Bool.not_false]
                        refine rg_nil ?_
                        refine ek_next ?_
                        refine wk_ret ?_
                        refine ek_ret (fun w hw => ⟨rfl, _, res_t _ rfl, ?_⟩)
                        (try simp only [Act.put, Act.eval, q1, q2, q3, q4, q5, q6, q7, q8, q9, q10, q11, q12, q13, q14, q15, q16, q17, q18, Nat.reduceAdd, Bool.not_true, Bool.not_false])
                        first | exact ⟨rfl, hw.below⟩ | exact ⟨trivial, hw.below⟩ | exact hw.below
                    · (try simp only [decide_eq_true_eq, decide_eq_false_iff_not, Int.not_lt, Int.not_le, beq_iff_eq, beq_eq_false_iff_ne, bne_iff_ne, bne_eq_false_iff_eq, ne_eq, Bool.not_eq_true', Bool.not_eq_false'] at h16)
                      simp only [Act.put, Act.eval, q1, q2, q3, q4, q5, q6, q7, q8, q9, q10, q11, q12, q13, q14, q15, q16, q17, q18, Nat.reduceAdd, Bool.not_true, Bool.not_false]
                      refine rf_pick rfl rfl rfl ?_
                      simp only [Act.put, Act.eval, q1, q2, q3, q4, q5, q6, q7, q8, q9, q10, q11, q12, q13, q14, q15, q16, q17, q18, Nat.reduceAdd, Bool.not_true, Bool.not_false]
                      refine rg_move ?_
                      simp only [Act.put, Act.eval, q1, q2, q3, q4, q5, q6, q7, q8, q9, q10, q11, q12, q13, q14, q15, q16, q17, q18, Nat.reduceAdd, Bool.not_true, Bool.not_false]
                      refine rg_skip (by rfl) ?_
                      simp only [Act.put, Act.eval, q1, q2, q3, q4, q5, q6, q7, q8, q9, q10, q11, q12, q13, q14, q15, q16, q17, q18, Nat.reduceAdd, Bool.not_true, Bool.not_false]
                      refine rg_skip (by rfl) ?_
                      simp only [Act.put, Act.eval, q1, q2, q3, q4, q5, q6, q7, q8, q9, q10, q11, q12, q13, q14, q15, q16, q17, q18, Nat.reduceAdd, Bool.not_true, Bool.not_false]
                      refine rf_pick rfl rfl rfl ?_
                      simp only [Act.put, Act.eval, q1, q2, q3, q4, q5, q6, q7, q8, q9, q10, q11, q12, q13, q14, q15, q16, q17, q18, Nat.reduceAdd, Bool.not_true, Bool.not_false]
                      refine rg_move ?_
                      simp only [Act.put, Act.eval, q1, q2, q3, q4, q5, q6, q7, q8, q9, q10, q11, q12, q13, q14, q15, q16, q17, q18, Nat.reduceAdd, Bool.not_true, Bool.not_false]
                      refine rg_skip (by rfl) ?_
                      simp only [Act.put, Act.eval, q1, q2, q3, q4, q5, q6, q7, q8, q9, q10, q11, q12, q13, q14, q15, q16, q17, q18, Nat.reduceAdd, Bool.not_true, Bool.not_false]
                      refine rg_skip (by rfl) ?_
                      simp only [Act.put, Act.eval, q1, q2, q3, q4, q5, q6, q7, q8, q9, q10, q11, q12, q13, q14, q15, q16, q17, q18, Nat.reduceAdd, Bool.not_true, Bool.not_false]
                      refine rg_skip_h (by rfl) (fun _ h => by cases h; exact (sc _ (sc _ (sc _ (sc _ (sc _ (sc _ (sc _ (sc _ (sc _ sn)))))))))) ?_
                      simp only [Act.put, Act.eval, q1, q2, q3, q4, q5, q6, q7, q8, q9, q10, q11, q12, q13, q14, q15, q16, q17, q18, Nat.reduceAdd, Bool.not_true, Bool.not_false]
                      refine rg_skip_h (by rfl) (fun _ h => by cases h; exact (sc _ (sc _ (sc _ (sc _ (sc _ (sc _ (sc _ (sc _ (sc _ sn)))))))))) ?_
                      simp only [Act.put, Act.eval, q1, q2, q3, q4, q5, q6, q7, q8, q9, q10, q11, q12, q13, q14, q15, q16, q17, q18, Nat.reduceAdd, Bool.not_true, Bool.not_false]
                      refine rf_pick rfl rfl rfl ?_
                      simp only [Act.put, Act.eval, q1, q2, q3, q4, q5, q6, q7, q8, q9, q10, q11, q12, q13, q14, q15, q16, q17, q18, Nat.reduceAdd, Bool.not_true, Bool.not_false]
                      refine rg_move ?_
                      simp only [Act.put, Act.eval, q1, q2, q3, q4, q5, q6, q7, q8, q9, q10, q11, q12, q13, q14, q15, q16, q17, q18, Nat.reduceAdd, Bool.not_true, Bool.not_false]
                      apply rg_pure (by rfl) (by kernel_rfl)
                      case hargs => (simp only [List.map_toArray, List.map_cons, List.map_nil, Act.eval, Array.getD_eq_getD_getElem?, List.getElem?_toArray, List.getElem?_cons_zero, List.getElem?_cons_succ, Option.getD_some]; exact rfl)
                      case h => exact fun w hw => awake_any w
                      case hz => exact (fun _ h => by cases h; exact (sc _ (sc _ (sc _ (sc _ (sc _ (sc _ (sc _ (sc _ (sc _ sn))))))))))
                      simp only [Act.put, Act.eval, q1, q2, q3, q4, q5, q6, q7, q8, q9, q10, q11, q12, q13, q14, q15, q16, q17, q18, Nat.reduceAdd, Bool.not_true, Bool.not_false]
                      refine rf_pick rfl rfl rfl ?_
                      simp only [Act.put, Act.eval, q1, q2, q3, q4, q5, q6, q7, q8, q9, q10, q11, q12, q13, q14, q15, q16, q17, q18, Nat.reduceAdd, Bool.not_true, Bool.not_false]
                      refine rg_assign ?_
                      simp only [Act.put, Act.eval, q1, q2, q3, q4, q5, q6, q7, q8, q9, q10, q11, q12, q13, q14, q15, q16, q17, q18, Nat.reduceAdd, Bool.not_true, Bool.not_false]
                      refine rg_nil ?_
                      refine ek_next ?_
                      refine wk_ret ?_
                      refine ek_ret (fun w hw => ⟨rfl, _, res_t _ rfl, ?_⟩)
                      (try simp only [Act.put, Act.eval, q1, q2, q3, q4, q5, q6, q7, q8, q9, q10, q11, q12, q13, q14, q15, q16, q17, q18, Nat.reduceAdd, Bool.not_true, Bool.not_false])
                      first | exact ⟨rfl, hw.below⟩ | exact ⟨trivial, hw.below⟩ | exact hw.below
                  · (try simp only [decide_eq_true_eq, decide_eq_false_iff_not, Int.not_lt, Int.not_le, beq_iff_eq, beq_eq_false_iff_ne, bne_iff_ne, bne_eq_false_iff_eq, ne_eq, Bool.not_eq_true', Bool.not_eq_false'] at h15)
                    simp only [Act.put, Act.eval, q1, q2, q3, q4, q5, q6, q7, q8, q9, q10, q11, q12, q13, q14, q15, q16, q17, q18, Nat.reduceAdd, Bool.not_true, Bool.not_false]
                    refine rg_move ?_
                    simp only [Act.put, Act.eval, q1, q2, q3, q4, q5, q6, q7, q8, q9, q10, q11, q12, q13, q14, q15, q16, q17, q18, Nat.reduceAdd, Bool.not_true, Bool.not_false]
                    refine rg_skip (by rfl) ?_
                    simp only [Act.put, Act.eval, q1, q2, q3, q4, q5, q6, q7, q8, q9, q10, q11, q12, q13, q14, q15, q16, q17, q18, Nat.reduceAdd, Bool.not_true, Bool.not_false]
                    refine rg_skip (by rfl) ?_
                    simp only [Act.put, Act.eval, q1, q2, q3, q4, q5, q6, q7, q8, q9, q10, q11, q12, q13, q14, q15, q16, q17, q18, Nat.reduceAdd, Bool.not_true, Bool.not_false]
                    refine rf_pick rfl rfl rfl ?_
                    simp only [Act.put, Act.eval, q1, q2, q3, q4, q5, q6, q7, q8, q9, q10, q11, q12, q13, q14, q15, q16, q17, q18, Nat.reduceAdd, Bool.not_true, Bool.not_false]
                    refine rg_move ?_
                    simp only [Act.put, Act.eval, q1, q2, q3, q4, q5, q6, q7, q8, q9, q10, q11, q12, q13, q14, q15, q16, q17, q18, Nat.reduceAdd, Bool.not_true, Bool.not_false]
                    refine rg_skip (by rfl) ?_
                    simp only [Act.put, Act.eval, q1, q2, q3, q4, q5, q6, q7, q8, q9, q10, q11, q12, q13, q14, q15, q16, q17, q18, Nat.reduceAdd, Bool.not_true, Bool.not_false]
                    refine rg_skip (by rfl) ?_
                    simp only [Act.put, Act.eval, q1, q2, q3, q4, q5, q6, q7, q8, q9, q10, q11, q12, q13, q14, q15, q16, q17, q18, Nat.reduceAdd, Bool.not_true, Bool.not_false]
                    refine rf_pick rfl rfl rfl ?_
                    simp only [Act.put, Act.eval, q1, q2, q3, q4, q5, q6, q7, q8, q9, q10, q11, q12, q13, q14, q15, q16, q17, q18, Nat.reduceAdd, Bool.not_true, Bool.not_false]
                    refine rg_move ?_
                    simp only [Act.put, Act.eval, q1, q2, q3, q4, q5, q6, q7, q8, q9, q10, q11, q12, q13, q14, q15, q16, q17, q18, Nat.reduceAdd, Bool.not_true, Bool.not_false]
                    refine rg_skip (by rfl) ?_
                    simp only [Act.put, Act.eval, q1, q2, q3, q4, q5, q6, q7, q8, q9, q10, q11, q12, q13, q14, q15, q16, q17, q18, Nat.reduceAdd, Bool.not_true, Bool.not_false]
                    refine rg_skip (by rfl) ?_
                    simp only [Act.put, Act.eval, q1, q2, q3, q4, q5, q6, q7, q8, q9, q10, q11, q12, q13, q14, q15, q16, q17, q18, Nat.reduceAdd, Bool.not_true, Bool.not_false]
                    refine rg_skip_h (by rfl) (fun _ h => by cases h; exact (sc _ (sc _ (sc _ (sc _ (sc _ (sc _ (sc _ (sc _ (sc _ sn)))))))))) ?_
                    simp only [Act.put, Act.eval, q1, q2, q3, q4, q5, q6, q7, q8, q9, q10, q11, q12, q13, q14, q15, q16, q17, q18, Nat.reduceAdd, Bool.not_true, Bool.not_false]
                    refine rg_skip_h (by rfl) (fun _ h => by cases h; exact (sc _ (sc _ (sc _ (sc _ (sc _ (sc _ (sc _ (sc _ (sc _ sn)))))))))) ?_
                    simp only [Act.put, Act.eval, q1, q2, q3, q4, q5, q6, q7, q8, q9, q10, q11, q12, q13, q14, q15, q16, q17, q18, Nat.reduceAdd, Bool.not_true, Bool.not_false]
                    refine rf_pick rfl rfl rfl ?_
                    simp only [Act.put, Act.eval, q1, q2, q3, q4, q5, q6, q7, q8, q9, q10, q11, q12, q13, q14, q15, q16, q17, q18, Nat.reduceAdd, Bool.not_true, Bool.not_false]
                    refine rg_move ?_
                    simp only [Act.put, Act.eval, q1, q2, q3, q4, q5, q6, q7, q8, q9, q10, q11, q12, q13, q14, q15, q16, q17, q18, Nat.reduceAdd, Bool.not_true, Bool.not_false]
                    apply rg_pure (by rfl) (by kernel_rfl)
                    case hargs => (simp only [List.map_toArray, List.map_cons, List.map_nil, Act.eval, Array.getD_eq_getD_getElem?, List.getElem?_toArray, List.getElem?_cons_zero, List.getElem?_cons_succ, Option.getD_some]; exact rfl)
                    case h => exact fun w hw => awake_any w
                    case hz => exact (fun _ h => by cases h; exact (sc _ (sc _ (sc _ (sc _ (sc _ (sc _ (sc _ (sc _ (sc _ sn))))))))))
                    simp only [Act.put, Act.eval, q1, q2, q3, q4, q5, q6, q7, q8, q9, q10, q11, q12, q13, q14, q15, q16, q17, q18, Nat.reduceAdd, Bool.not_true, Bool.not_false]
                    refine rf_pick rfl rfl rfl ?_
                    simp only [Act.put, Act.eval, q1, q2, q3, q4, q5, q6, q7, q8, q9, q10, q11, q12, q13, q14, q15, q16, q17, q18, Nat.reduceAdd, Bool.not_true, Bool.not_false]
                    refine rg_assign ?_
                    simp only [Act.put, Act.eval, q1, q2, q3, q4, q5, q6, q7, q8, q9, q10, q11, q12, q13, q14, q15, q16, q17, q18, Nat.reduceAdd, Bool.not_true, Bool.not_false]
                    refine rg_nil ?_
                    refine ek_next ?_
                    refine wk_ret ?_
                    refine ek_ret (fun w hw => ⟨rfl, _, res_t _ rfl, ?_⟩)
                    (try simp only [Act.put, Act.eval, q1, q2, q3, q4, q5, q6, q7, q8, q9, q10, q11, q12, q13, q14, q15, q16, q17, q18, Nat.reduceAdd, Bool.not_true, Bool.not_false])
                    first | exact ⟨rfl, hw.below⟩ | exact ⟨trivial, hw.below⟩ | exact hw.below
    · (try simp only [decide_eq_true_eq, decide_eq_false_iff_not, Int.not_lt, Int.not_le, beq_iff_eq, beq_eq_false_iff_ne, bne_iff_ne, bne_eq_false_iff_eq, ne_eq, Bool.not_eq_true', Bool.not_eq_false'] at h2)
      simp only [Act.put, Act.eval, q1, q2, q3, q4, q5, q6, q7, q8, q9, q10, q11, q12, q13, q14, q15, q16, q17, q18, Nat.reduceAdd, Bool.not_true, Bool.not_false]
      refine rf_pick rfl rfl rfl ?_
      simp only [Act.put, Act.eval, q1, q2, q3, q4, q5, q6, q7, q8, q9, q10, q11, q12, q13, q14, q15, q16, q17, q18, Nat.reduceAdd, Bool.not_true, Bool.not_false]
      refine rg_nil ?_
      refine ek_next ?_
      refine wk_cond_t rfl ?_
      refine wk_seq ?_
      refine wk_region [1, 0] rfl (by kernel_rfl) ?_
      simp only [List.zip_cons_cons, List.zip_nil_right]
      apply rg_pure (by rfl) (by kernel_rfl)
      case hargs => (simp only [List.map_toArray, List.map_cons, List.map_nil, Act.eval, Array.getD_eq_getD_getElem?, List.getElem?_toArray, List.getElem?_cons_zero, List.getElem?_cons_succ, Option.getD_some]; exact rfl)
      case h => exact fun w hw => awake_any w
      case hz => exact (fun _ h => by cases h)
      simp only [Act.put, Act.eval, q1, q2, q3, q4, q5, q6, q7, q8, q9, q10, q11, q12, q13, q14, q15, q16, q17, q18, Nat.reduceAdd, Bool.not_true, Bool.not_false]
      refine rg_assign ?_
      simp only [Act.put, Act.eval, q1, q2, q3, q4, q5, q6, q7, q8, q9, q10, q11, q12, q13, q14, q15, q16, q17, q18, Nat.reduceAdd, Bool.not_true, Bool.not_false]
      refine rg_nil ?_
      refine ek_next ?_
      refine wk_ret ?_
      refine ek_then_ret ?_
      refine ek_ret (fun w hw => ⟨rfl, _, res_t _ rfl, ?_⟩)
      (try simp only [Act.put, Act.eval, q1, q2, q3, q4, q5, q6, q7, q8, q9, q10, q11, q12, q13, q14, q15, q16, q17, q18, Nat.reduceAdd, Bool.not_true, Bool.not_false])
      first | exact ⟨rfl, hw.below⟩ | exact ⟨trivial, hw.below⟩ | exact hw.below
  · (try simp only [decide_eq_true_eq, decide_eq_false_iff_not, Int.not_lt, Int.not_le, beq_iff_eq, beq_eq_false_iff_ne, bne_iff_ne, bne_eq_false_iff_eq, ne_eq, Bool.not_eq_true', Bool.not_eq_false'] at h1)
    simp only [Act.put, Act.eval, q1, q2, q3, q4, q5, q6, q7, q8, q9, q10, q11, q12, q13, q14, q15, q16, q17, q18, Nat.reduceAdd, Bool.not_true, Bool.not_false]
    refine rg_move ?_
    simp only [Act.put, Act.eval, q1, q2, q3, q4, q5, q6, q7, q8, q9, q10, q11, q12, q13, q14, q15, q16, q17, q18, Nat.reduceAdd, Bool.not_true, Bool.not_false]
    refine rg_skip (by rfl) ?_
    simp only [Act.put, Act.eval, q1, q2, q3, q4, q5, q6, q7, q8, q9, q10, q11, q12, q13, q14, q15, q16, q17, q18, Nat.reduceAdd, Bool.not_true, Bool.not_false]
    refine rg_skip (by rfl) ?_
    simp only [Act.put, Act.eval, q1, q2, q3, q4, q5, q6, q7, q8, q9, q10, q11, q12, q13, q14, q15, q16, q17, q18, Nat.reduceAdd, Bool.not_true, Bool.not_false]
    refine rf_pick rfl rfl rfl ?_
    simp only [Act.put, Act.eval, q1, q2, q3, q4, q5, q6, q7, q8, q9, q10, q11, q12, q13, q14, q15, q16, q17, q18, Nat.reduceAdd, Bool.not_true, Bool.not_false]
    refine rg_nil ?_
    refine ek_next ?_
    refine wk_cond_t rfl ?_
    refine wk_seq ?_
    refine wk_region [1, 0] rfl (by kernel_rfl) ?_
    simp only [List.zip_cons_cons, List.zip_nil_right]
    apply rg_pure (by rfl) (by kernel_rfl)
    case hargs => (simp only [List.map_toArray, List.map_cons, List.map_nil, Act.eval, Array.getD_eq_getD_getElem?, List.getElem?_toArray, List.getElem?_cons_zero, List.getElem?_cons_succ, Option.getD_some]; exact rfl)
    case h => exact fun w hw => awake_any w
    case hz => exact (fun _ h => by cases h)
    simp only [Act.put, Act.eval, q1, q2, q3, q4, q5, q6, q7, q8, q9, q10, q11, q12, q13, q14, q15, q16, q17, q18, Nat.reduceAdd, Bool.not_true, Bool.not_false]
    refine rg_assign ?_
    simp only [Act.put, Act.eval, q1, q2, q3, q4, q5, q6, q7, q8, q9, q10, q11, q12, q13, q14, q15, q16, q17, q18, Nat.reduceAdd, Bool.not_true, Bool.not_false]
    refine rg_nil ?_
    refine ek_next ?_
    refine wk_ret ?_
    refine ek_then_ret ?_
    refine ek_ret (fun w hw => ⟨rfl, _, res_t _ rfl, ?_⟩)
    (try simp only [Act.put, Act.eval, q1, q2, q3, q4, q5, q6, q7, q8, q9, q10, q11, q12, q13, q14, q15, q16, q17, q18, Nat.reduceAdd, Bool.not_true, Bool.not_false])
    first | exact ⟨rfl, hw.below⟩ | exact ⟨trivial, hw.below⟩ | exact hw.below

theorem own : ownKnob Try.prog.godebug = none := by kernel_rfl

set_option maxRecDepth 100000 in
theorem lifted (os : Os) (started : os.Started) (H : Type) (enc : TypeId × Value → H) :
    ReturnsInHanded {} Try.checked os 17 .any (Rows.encloseExactSpec.pre6 enc Try.prog Try.f17 Rows.encloseExactRow.domain false) (Rows.encloseExactSpec.post enc Try.prog Try.f17 false true false false) := by
  refine returnsInHanded_of_change (C := Try.checked) own started (by kernel_rfl) Try.func17
    (ChangeSpec.witness6 (enc := enc) (C := Try.checked) false ⟨#[], #[.agg #[.int .i64 0, .int .i64 0, .int .i64 0, .int .i64 0, .int .i64 0], .agg #[.int .i64 0, .int .i64 0, .int .i64 0, .int .i64 0, .int .i64 0]], []⟩ 8 (by kernel_rfl) (by kernel_rfl) (by kernel_rfl) (by kernel_rfl)) ?_
  intro W base args ds gs before hval0 hW hcnd _
  have hval : ∀ (j : Nat) t v, Try.f17.params[j]? = some t → args[j]? = some v → Value.okWide Try.prog W .any base t v := hval0
  have hW' := hW
  obtain ⟨p, q, hA0, hV, rfl, hfz, hnd⟩ := hW
  have hA : DataW.TrodAll enc Try.prog W 0 (fun _ => true) true Try.f17.params.toList args.toList ds p := hA0
  rw [Try.params17] at hA hval
  obtain ⟨rfl, hread⟩ := trodAll_flat (n := 8) (by kernel_rfl) hA
  obtain ⟨v0, vs0, d0, ds0, p0, q0, hargs, rfl, -, h0, r0⟩ := trodAll_cons hA
  obtain ⟨v1, vs1, d1, ds1, p1, q1, rfl, rfl, -, h1, r1⟩ := trodAll_cons r0
  obtain ⟨rfl, rfl, -⟩ := trodAll_nil r1
  obtain rfl : args = #[v0, v1] := by cases args; simp_all
  obtain ⟨rfl, rfl⟩ := trodVars_none hV
  obtain ⟨x0, rfl⟩ := open_num (hval 0 69 v0 rfl rfl)
  obtain ⟨x1, rfl⟩ := open_num (hval 1 69 v1 rfl rfl)
  clear hA0 hval0
  simp only [List.append_nil] at hW'
  refine (walk x0 x1 W).mono fun e W' ⟨he, hg⟩ => ?_
  subst he
  exact ⟨_, rfl, post_flat hW' (fun _ _ _ => (trodAll_cons_mk (shut_bool Try.underlying4 _) trodAll_mk0)) (fun sp => hread _ _ _ _) (fun _ => rfl)
    hg (ok_one (by kernel_rfl) rfl (okWide_bool_mk Try.underlying4 _))⟩

theorem holds : Rows.EncloseExactSaid :=
  OpenClaim.holds_of_wide 17 Try.f17 rfl rfl rfl rfl rfl rfl rfl ⟨rfl, rfl, rfl, rfl, rfl⟩ rfl rfl rfl rfl rfl (by kernel_rfl) Try.func17 closed
    (of_decide_eq_true (by kernel_rfl)) (by unfold Func.isWrapper; rw [if_neg (of_decide_eq_false (by kernel_rfl))]; exact ⟨rfl, rfl⟩)
    (fun os started H enc _ => lifted os started H enc)
#print axioms holds
end LawExact
end Go.Proofs.Ytpbbbfglecbceaa
