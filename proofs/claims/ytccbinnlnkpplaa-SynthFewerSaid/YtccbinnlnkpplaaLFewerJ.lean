/- Texts in one: Us2, Pg8, Fw2, Pg6, Pg9, Fw3. -/
import Derived.Test.YtccbinnlnkpplaaLFewerI
namespace Go.Proofs.Ytccbinnlnkpplaa
set_option linter.all false
open Go.RowKit

/-- The bound of a matrix, as the document has it. -/
noncomputable def lstR (n : Int) (xs : List Nm) : Int × Int := if validB n xs = true then (if unB n xs = true then (expo xs, 0) else (0, 22)) else (0, 20)
set_option maxRecDepth 100000 in
set_option maxHeartbeats 1000000 in
theorem sunitary_bad (n : Int) (xs : List Nm) (a : Option Addr) (c : Nat) (hl : xs.length ≤ 1000000) (hv : Hid (validB n xs = false)) (w : World) (hA : AS w a (nms xs)) : Calls Try.prog 64 #[.agg #[.int .i64 n, .slice a xs.length c]] w fun e w' => e = .returned (.tuple #[.int .i64 ((0 : Int)), .int .i64 20]) ∧ Below w.heap.size w w' := by
  go_enter Try.func64, Try.ntmps64
  refine wk_start ?_
  refine wk_seq ?_
  refine wk_region [1, 0, 0] rfl (by kernel_rfl) ?_
  simp only [List.zip_cons_cons, List.zip_nil_right]
  refine rg_new (cs := ?_) (ty := ?_) (by rfl) (fun w => ?_) (fun _ h => by cases h) (fun g1 => ?_); rotate_left 2
  focus (go_simp; rfl)
  simp only [Act.put, Act.eval, qn, qv, Nat.reduceAdd]
  refine rg_assign ?_
  simp only [Act.put, Act.eval, qn, qv, Nat.reduceAdd]
  refine rg_assign ?_
  simp only [Act.put, Act.eval, qn, qv, Nat.reduceAdd]
  refine rg_nil ?_
  refine ek_next ?_
  refine wk_seq ?_
  refine wk_region [0, 1, 0, 0, 0, 0, 0] rfl (by kernel_rfl) ?_
  simp only [List.zip_cons_cons, List.zip_nil_right]
  refine rf_loadR (n := 2) rfl rfl rfl Try.underlying38 rfl (by kernel_rfl) (fun w hw => Kn.hd0 hw) rfl rfl ?_
  simp only [Act.put, Act.eval, qn, qv, Nat.reduceAdd]
  apply rg_pure (by rfl) (by kernel_rfl)
  case hargs => (simp only [qm, qs, Act.eval]; exact rfl)
  case h => exact fun w hw => by have := unitary_any n xs a c hl w (hA.kn0 hw); simp only [hv.out, Bool.and_false, Bool.and_true, Bool.false_and, if_true, if_false, Bool.false_eq_true] at this; exact this
  case hz => exact (fun _ h => by cases h)
  simp only [Act.put, Act.eval, qn, qv, Nat.reduceAdd]
  refine rg_move ?_
  simp only [Act.put, Act.eval, qn, qv, Nat.reduceAdd]
  refine rf_extract rfl rfl rfl rfl ?_
  simp only [Act.put, Act.eval, qn, qv, Nat.reduceAdd]
  refine rf_extract rfl rfl rfl rfl ?_
  simp only [Act.put, Act.eval, qn, qv, Nat.reduceAdd]
  refine rg_assign ?_
  simp only [Act.put, Act.eval, qn, qv, Nat.reduceAdd]
  refine rg_assign ?_
  simp only [Act.put, Act.eval, qn, qv, Nat.reduceAdd]
  refine rg_nil ?_
  refine ek_next ?_
  refine wk_seq ?_
  refine wk_block ?_
  refine wk_seq ?_
  refine wk_region [0, 0, 0] rfl (by kernel_rfl) ?_
  simp only [List.zip_cons_cons, List.zip_nil_right]
  refine rg_move ?_
  simp only [Act.put, Act.eval, qn, qv, Nat.reduceAdd]
  refine rfb_neq rfl rfl rfl rfl ?_
  intro x h1
  cases x
  · (try simp only [decide_eq_true_eq, decide_eq_false_iff_not, Int.not_lt, Int.not_le, beq_iff_eq, beq_eq_false_iff_ne, bne_iff_ne, bne_eq_false_iff_eq, ne_eq, Bool.not_eq_true', Bool.not_eq_false'] at h1)
    simp only [Act.put, Act.eval, qn, qv, Nat.reduceAdd]
    refine rg_assign ?_
    simp only [Act.put, Act.eval, qn, qv, Nat.reduceAdd]
    refine rg_nil ?_
    refine ek_next ?_
    refine wk_cond_f rfl ?_
    refine wk_seq ?_
    refine wk_region [0, 0, 0] rfl (by kernel_rfl) ?_
    simp only [List.zip_cons_cons, List.zip_nil_right]
    refine rg_move ?_
    simp only [Act.put, Act.eval, qn, qv, Nat.reduceAdd]
    refine rf_not rfl rfl rfl ?_
    simp only [Act.put, Act.eval, qn, qv, Nat.reduceAdd]
    refine rg_assign ?_
    simp only [Act.put, Act.eval, qn, qv, Nat.reduceAdd]
    refine rg_nil ?_
    refine ek_next ?_
    refine wk_cond (t := _) rfl (fun h2 => ?_) (fun h2 => ?_)
    · (try simp only [decide_eq_true_eq, decide_eq_false_iff_not, Bool.not_eq_true', Bool.not_eq_false', Int.not_lt, Int.not_le] at h2)
      refine wk_seq ?_
      refine wk_region [0, 0] rfl (by kernel_rfl) ?_
      simp only [List.zip_cons_cons, List.zip_nil_right]
      refine rg_assign ?_
      simp only [Act.put, Act.eval, qn, qv, Nat.reduceAdd]
      refine rg_assign ?_
      simp only [Act.put, Act.eval, qn, qv, Nat.reduceAdd]
      refine rg_nil ?_
      refine ek_next ?_
      refine wk_ret ?_
      refine ek_block_ret ?_
      refine ek_then_ret ?_
      refine ek_ret (fun w hw => ⟨rfl, _, res_tt _ _ rfl, ?_⟩)
      (try simp only [Act.put, Act.eval, qn, qv, Nat.reduceAdd])
      first | exact ⟨rfl, hw.below⟩ | exact ⟨trivial, hw.below⟩ | exact hw.below | (exfalso; simp_all)
    · (try simp only [decide_eq_true_eq, decide_eq_false_iff_not, Bool.not_eq_true', Bool.not_eq_false', Int.not_lt, Int.not_le] at h2)
      refine wk_skip ?_
      refine ek_block ?_
      refine ek_next ?_
      refine wk_seq ?_
      refine wk_region [0, 1, 0, 0, 0, 0] rfl (by kernel_rfl) ?_
      simp only [List.zip_cons_cons, List.zip_nil_right]
      refine rf_loadR (n := 2) rfl rfl rfl Try.underlying38 rfl (by kernel_rfl) (fun w hw => Kn.hd0 hw) rfl rfl ?_
      simp only [Act.put, Act.eval, qn, qv, Nat.reduceAdd]
      apply rg_pure (by rfl) (by kernel_rfl)
      case hargs => (simp only [qm, qs, Act.eval]; exact rfl)
      case h => exact fun w hw => by have := mExponent_any n xs a c hl w (hA.kn0 hw); simp only [expR, hv.out, if_true] at this; exact this
      case hz => exact (fun _ h => by cases h)
      simp only [Act.put, Act.eval, qn, qv, Nat.reduceAdd]
      refine rf_extract rfl rfl rfl rfl ?_
      simp only [Act.put, Act.eval, qn, qv, Nat.reduceAdd]
      refine rf_extract rfl rfl rfl rfl ?_
      simp only [Act.put, Act.eval, qn, qv, Nat.reduceAdd]
      refine rg_assign ?_
      simp only [Act.put, Act.eval, qn, qv, Nat.reduceAdd]
      refine rg_assign ?_
      simp only [Act.put, Act.eval, qn, qv, Nat.reduceAdd]
      refine rg_nil ?_
      refine ek_next ?_
      refine wk_ret ?_
      refine ek_ret (fun w hw => ⟨rfl, _, res_tt _ _ rfl, ?_⟩)
      (try simp only [Act.put, Act.eval, qn, qv, Nat.reduceAdd])
      first | exact ⟨rfl, hw.below⟩ | exact ⟨trivial, hw.below⟩ | exact hw.below | (exfalso; simp_all)
  · (try simp only [decide_eq_true_eq, decide_eq_false_iff_not, Int.not_lt, Int.not_le, beq_iff_eq, beq_eq_false_iff_ne, bne_iff_ne, bne_eq_false_iff_eq, ne_eq, Bool.not_eq_true', Bool.not_eq_false'] at h1)
    simp only [Act.put, Act.eval, qn, qv, Nat.reduceAdd]
    refine rg_assign ?_
    simp only [Act.put, Act.eval, qn, qv, Nat.reduceAdd]
    refine rg_nil ?_
    refine ek_next ?_
    refine wk_cond_t rfl ?_
    refine wk_seq ?_
    refine wk_region [0, 0, 0] rfl (by kernel_rfl) ?_
    simp only [List.zip_cons_cons, List.zip_nil_right]
    refine rg_move ?_
    simp only [Act.put, Act.eval, qn, qv, Nat.reduceAdd]
    refine rg_assign ?_
    simp only [Act.put, Act.eval, qn, qv, Nat.reduceAdd]
    refine rg_assign ?_
    simp only [Act.put, Act.eval, qn, qv, Nat.reduceAdd]
    refine rg_nil ?_
    refine ek_next ?_
    refine wk_ret ?_
    refine ek_block_ret ?_
    refine ek_then_ret ?_
    refine ek_ret (fun w hw => ⟨rfl, _, res_tt _ _ rfl, ?_⟩)
    (try simp only [Act.put, Act.eval, qn, qv, Nat.reduceAdd])
    first | exact ⟨rfl, hw.below⟩ | exact ⟨trivial, hw.below⟩ | exact hw.below | (exfalso; simp_all)

set_option maxRecDepth 100000 in
set_option maxHeartbeats 1000000 in
theorem sunitary_non (n : Int) (xs : List Nm) (a : Option Addr) (c : Nat) (hl : xs.length ≤ 1000000) (hv : Hid (validB n xs = true)) (hu : Hid (unB n xs = false)) (w : World) (hA : AS w a (nms xs)) : Calls Try.prog 64 #[.agg #[.int .i64 n, .slice a xs.length c]] w fun e w' => e = .returned (.tuple #[.int .i64 ((0 : Int)), .int .i64 22]) ∧ Below w.heap.size w w' := by
  go_enter Try.func64, Try.ntmps64
  refine wk_start ?_
  refine wk_seq ?_
  refine wk_region [1, 0, 0] rfl (by kernel_rfl) ?_
  simp only [List.zip_cons_cons, List.zip_nil_right]
  refine rg_new (cs := ?_) (ty := ?_) (by rfl) (fun w => ?_) (fun _ h => by cases h) (fun g1 => ?_); rotate_left 2
  focus (go_simp; rfl)
  simp only [Act.put, Act.eval, qn, qv, Nat.reduceAdd]
  refine rg_assign ?_
  simp only [Act.put, Act.eval, qn, qv, Nat.reduceAdd]
  refine rg_assign ?_
  simp only [Act.put, Act.eval, qn, qv, Nat.reduceAdd]
  refine rg_nil ?_
  refine ek_next ?_
  refine wk_seq ?_
  refine wk_region [0, 1, 0, 0, 0, 0, 0] rfl (by kernel_rfl) ?_
  simp only [List.zip_cons_cons, List.zip_nil_right]
  refine rf_loadR (n := 2) rfl rfl rfl Try.underlying38 rfl (by kernel_rfl) (fun w hw => Kn.hd0 hw) rfl rfl ?_
  simp only [Act.put, Act.eval, qn, qv, Nat.reduceAdd]
  apply rg_pure (by rfl) (by kernel_rfl)
  case hargs => (simp only [qm, qs, Act.eval]; exact rfl)
  case h => exact fun w hw => by have := unitary_any n xs a c hl w (hA.kn0 hw); simp only [hv.out, hu.out, Bool.and_false, Bool.and_true, Bool.false_and, if_true, if_false, Bool.false_eq_true] at this; exact this
  case hz => exact (fun _ h => by cases h)
  simp only [Act.put, Act.eval, qn, qv, Nat.reduceAdd]
  refine rg_move ?_
  simp only [Act.put, Act.eval, qn, qv, Nat.reduceAdd]
  refine rf_extract rfl rfl rfl rfl ?_
  simp only [Act.put, Act.eval, qn, qv, Nat.reduceAdd]
  refine rf_extract rfl rfl rfl rfl ?_
  simp only [Act.put, Act.eval, qn, qv, Nat.reduceAdd]
  refine rg_assign ?_
  simp only [Act.put, Act.eval, qn, qv, Nat.reduceAdd]
  refine rg_assign ?_
  simp only [Act.put, Act.eval, qn, qv, Nat.reduceAdd]
  refine rg_nil ?_
  refine ek_next ?_
  refine wk_seq ?_
  refine wk_block ?_
  refine wk_seq ?_
  refine wk_region [0, 0, 0] rfl (by kernel_rfl) ?_
  simp only [List.zip_cons_cons, List.zip_nil_right]
  refine rg_move ?_
  simp only [Act.put, Act.eval, qn, qv, Nat.reduceAdd]
  refine rfb_neq rfl rfl rfl rfl ?_
  intro x h1
  cases x
  · (try simp only [decide_eq_true_eq, decide_eq_false_iff_not, Int.not_lt, Int.not_le, beq_iff_eq, beq_eq_false_iff_ne, bne_iff_ne, bne_eq_false_iff_eq, ne_eq, Bool.not_eq_true', Bool.not_eq_false'] at h1)
    simp only [Act.put, Act.eval, qn, qv, Nat.reduceAdd]
    refine rg_assign ?_
    simp only [Act.put, Act.eval, qn, qv, Nat.reduceAdd]
    refine rg_nil ?_
    refine ek_next ?_
    refine wk_cond_f rfl ?_
    refine wk_seq ?_
    refine wk_region [0, 0, 0] rfl (by kernel_rfl) ?_
    simp only [List.zip_cons_cons, List.zip_nil_right]
    refine rg_move ?_
    simp only [Act.put, Act.eval, qn, qv, Nat.reduceAdd]
    refine rf_not rfl rfl rfl ?_
    simp only [Act.put, Act.eval, qn, qv, Nat.reduceAdd]
    refine rg_assign ?_
    simp only [Act.put, Act.eval, qn, qv, Nat.reduceAdd]
    refine rg_nil ?_
    refine ek_next ?_
    refine wk_cond (t := _) rfl (fun h2 => ?_) (fun h2 => ?_)
    · (try simp only [decide_eq_true_eq, decide_eq_false_iff_not, Bool.not_eq_true', Bool.not_eq_false', Int.not_lt, Int.not_le] at h2)
      refine wk_seq ?_
      refine wk_region [0, 0] rfl (by kernel_rfl) ?_
      simp only [List.zip_cons_cons, List.zip_nil_right]
      refine rg_assign ?_
      simp only [Act.put, Act.eval, qn, qv, Nat.reduceAdd]
      refine rg_assign ?_
      simp only [Act.put, Act.eval, qn, qv, Nat.reduceAdd]
      refine rg_nil ?_
      refine ek_next ?_
      refine wk_ret ?_
      refine ek_block_ret ?_
      refine ek_then_ret ?_
      refine ek_ret (fun w hw => ⟨rfl, _, res_tt _ _ rfl, ?_⟩)
      (try simp only [Act.put, Act.eval, qn, qv, Nat.reduceAdd])
      first | exact ⟨rfl, hw.below⟩ | exact ⟨trivial, hw.below⟩ | exact hw.below | (exfalso; simp_all)
    · (try simp only [decide_eq_true_eq, decide_eq_false_iff_not, Bool.not_eq_true', Bool.not_eq_false', Int.not_lt, Int.not_le] at h2)
      refine wk_skip ?_
      refine ek_block ?_
      refine ek_next ?_
      refine wk_seq ?_
      refine wk_region [0, 1, 0, 0, 0, 0] rfl (by kernel_rfl) ?_
      simp only [List.zip_cons_cons, List.zip_nil_right]
      refine rf_loadR (n := 2) rfl rfl rfl Try.underlying38 rfl (by kernel_rfl) (fun w hw => Kn.hd0 hw) rfl rfl ?_
      simp only [Act.put, Act.eval, qn, qv, Nat.reduceAdd]
      apply rg_pure (by rfl) (by kernel_rfl)
      case hargs => (simp only [qm, qs, Act.eval]; exact rfl)
      case h => exact fun w hw => by have := mExponent_any n xs a c hl w (hA.kn0 hw); simp only [expR, hv.out, if_true] at this; exact this
      case hz => exact (fun _ h => by cases h)
      simp only [Act.put, Act.eval, qn, qv, Nat.reduceAdd]
      refine rf_extract rfl rfl rfl rfl ?_
      simp only [Act.put, Act.eval, qn, qv, Nat.reduceAdd]
      refine rf_extract rfl rfl rfl rfl ?_
      simp only [Act.put, Act.eval, qn, qv, Nat.reduceAdd]
      refine rg_assign ?_
      simp only [Act.put, Act.eval, qn, qv, Nat.reduceAdd]
      refine rg_assign ?_
      simp only [Act.put, Act.eval, qn, qv, Nat.reduceAdd]
      refine rg_nil ?_
      refine ek_next ?_
      refine wk_ret ?_
      refine ek_ret (fun w hw => ⟨rfl, _, res_tt _ _ rfl, ?_⟩)
      (try simp only [Act.put, Act.eval, qn, qv, Nat.reduceAdd])
      first | exact ⟨rfl, hw.below⟩ | exact ⟨trivial, hw.below⟩ | exact hw.below | (exfalso; simp_all)
  · (try simp only [decide_eq_true_eq, decide_eq_false_iff_not, Int.not_lt, Int.not_le, beq_iff_eq, beq_eq_false_iff_ne, bne_iff_ne, bne_eq_false_iff_eq, ne_eq, Bool.not_eq_true', Bool.not_eq_false'] at h1)
    simp only [Act.put, Act.eval, qn, qv, Nat.reduceAdd]
    refine rg_assign ?_
    simp only [Act.put, Act.eval, qn, qv, Nat.reduceAdd]
    refine rg_nil ?_
    refine ek_next ?_
    refine wk_cond_t rfl ?_
    refine wk_seq ?_
    refine wk_region [0, 0, 0] rfl (by kernel_rfl) ?_
    simp only [List.zip_cons_cons, List.zip_nil_right]
    refine rg_move ?_
    simp only [Act.put, Act.eval, qn, qv, Nat.reduceAdd]
    refine rg_assign ?_
    simp only [Act.put, Act.eval, qn, qv, Nat.reduceAdd]
    refine rg_assign ?_
    simp only [Act.put, Act.eval, qn, qv, Nat.reduceAdd]
    refine rg_nil ?_
    refine ek_next ?_
    refine wk_ret ?_
    refine ek_block_ret ?_
    refine ek_then_ret ?_
    refine ek_ret (fun w hw => ⟨rfl, _, res_tt _ _ rfl, ?_⟩)
    (try simp only [Act.put, Act.eval, qn, qv, Nat.reduceAdd])
    first | exact ⟨rfl, hw.below⟩ | exact ⟨trivial, hw.below⟩ | exact hw.below | (exfalso; simp_all)

set_option maxRecDepth 100000 in
set_option maxHeartbeats 1000000 in
theorem sunitary_yes (n : Int) (xs : List Nm) (a : Option Addr) (c : Nat) (hl : xs.length ≤ 1000000) (hv : Hid (validB n xs = true)) (hu : Hid (unB n xs = true)) (w : World) (hA : AS w a (nms xs)) : Calls Try.prog 64 #[.agg #[.int .i64 n, .slice a xs.length c]] w fun e w' => e = .returned (.tuple #[.int .i64 (expo xs), .int .i64 0]) ∧ Below w.heap.size w w' := by
  go_enter Try.func64, Try.ntmps64
  refine wk_start ?_
  refine wk_seq ?_
  refine wk_region [1, 0, 0] rfl (by kernel_rfl) ?_
  simp only [List.zip_cons_cons, List.zip_nil_right]
  refine rg_new (cs := ?_) (ty := ?_) (by rfl) (fun w => ?_) (fun _ h => by cases h) (fun g1 => ?_); rotate_left 2
  focus (go_simp; rfl)
  simp only [Act.put, Act.eval, qn, qv, Nat.reduceAdd]
  refine rg_assign ?_
  simp only [Act.put, Act.eval, qn, qv, Nat.reduceAdd]
  refine rg_assign ?_
  simp only [Act.put, Act.eval, qn, qv, Nat.reduceAdd]
  refine rg_nil ?_
  refine ek_next ?_
  refine wk_seq ?_
  refine wk_region [0, 1, 0, 0, 0, 0, 0] rfl (by kernel_rfl) ?_
  simp only [List.zip_cons_cons, List.zip_nil_right]
  refine rf_loadR (n := 2) rfl rfl rfl Try.underlying38 rfl (by kernel_rfl) (fun w hw => Kn.hd0 hw) rfl rfl ?_
  simp only [Act.put, Act.eval, qn, qv, Nat.reduceAdd]
  apply rg_pure (by rfl) (by kernel_rfl)
  case hargs => (simp only [qm, qs, Act.eval]; exact rfl)
  case h => exact fun w hw => by have := unitary_any n xs a c hl w (hA.kn0 hw); simp only [hv.out, hu.out, Bool.and_false, Bool.and_true, Bool.false_and, if_true, if_false, Bool.false_eq_true] at this; exact this
  case hz => exact (fun _ h => by cases h)
  simp only [Act.put, Act.eval, qn, qv, Nat.reduceAdd]
  refine rg_move ?_
  simp only [Act.put, Act.eval, qn, qv, Nat.reduceAdd]
  refine rf_extract rfl rfl rfl rfl ?_
  simp only [Act.put, Act.eval, qn, qv, Nat.reduceAdd]
  refine rf_extract rfl rfl rfl rfl ?_
  simp only [Act.put, Act.eval, qn, qv, Nat.reduceAdd]
  refine rg_assign ?_
  simp only [Act.put, Act.eval, qn, qv, Nat.reduceAdd]
  refine rg_assign ?_
  simp only [Act.put, Act.eval, qn, qv, Nat.reduceAdd]
  refine rg_nil ?_
  refine ek_next ?_
  refine wk_seq ?_
  refine wk_block ?_
  refine wk_seq ?_
  refine wk_region [0, 0, 0] rfl (by kernel_rfl) ?_
  simp only [List.zip_cons_cons, List.zip_nil_right]
  refine rg_move ?_
  simp only [Act.put, Act.eval, qn, qv, Nat.reduceAdd]
  refine rfb_neq rfl rfl rfl rfl ?_
  intro x h1
  cases x
  · (try simp only [decide_eq_true_eq, decide_eq_false_iff_not, Int.not_lt, Int.not_le, beq_iff_eq, beq_eq_false_iff_ne, bne_iff_ne, bne_eq_false_iff_eq, ne_eq, Bool.not_eq_true', Bool.not_eq_false'] at h1)
    simp only [Act.put, Act.eval, qn, qv, Nat.reduceAdd]
    refine rg_assign ?_
    simp only [Act.put, Act.eval, qn, qv, Nat.reduceAdd]
    refine rg_nil ?_
    refine ek_next ?_
    refine wk_cond_f rfl ?_
    refine wk_seq ?_
    refine wk_region [0, 0, 0] rfl (by kernel_rfl) ?_
    simp only [List.zip_cons_cons, List.zip_nil_right]
    refine rg_move ?_
    simp only [Act.put, Act.eval, qn, qv, Nat.reduceAdd]
    refine rf_not rfl rfl rfl ?_
    simp only [Act.put, Act.eval, qn, qv, Nat.reduceAdd]
    refine rg_assign ?_
    simp only [Act.put, Act.eval, qn, qv, Nat.reduceAdd]
    refine rg_nil ?_
    refine ek_next ?_
    refine wk_cond (t := _) rfl (fun h2 => ?_) (fun h2 => ?_)
    · (try simp only [decide_eq_true_eq, decide_eq_false_iff_not, Bool.not_eq_true', Bool.not_eq_false', Int.not_lt, Int.not_le] at h2)
      refine wk_seq ?_
      refine wk_region [0, 0] rfl (by kernel_rfl) ?_
      simp only [List.zip_cons_cons, List.zip_nil_right]
      refine rg_assign ?_
      simp only [Act.put, Act.eval, qn, qv, Nat.reduceAdd]
      refine rg_assign ?_
      simp only [Act.put, Act.eval, qn, qv, Nat.reduceAdd]
      refine rg_nil ?_
      refine ek_next ?_
      refine wk_ret ?_
      refine ek_block_ret ?_
      refine ek_then_ret ?_
      refine ek_ret (fun w hw => ⟨rfl, _, res_tt _ _ rfl, ?_⟩)
      (try simp only [Act.put, Act.eval, qn, qv, Nat.reduceAdd])
      first | exact ⟨rfl, hw.below⟩ | exact ⟨trivial, hw.below⟩ | exact hw.below | (exfalso; simp_all)
    · (try simp only [decide_eq_true_eq, decide_eq_false_iff_not, Bool.not_eq_true', Bool.not_eq_false', Int.not_lt, Int.not_le] at h2)
      refine wk_skip ?_
      refine ek_block ?_
      refine ek_next ?_
      refine wk_seq ?_
      refine wk_region [0, 1, 0, 0, 0, 0] rfl (by kernel_rfl) ?_
      simp only [List.zip_cons_cons, List.zip_nil_right]
      refine rf_loadR (n := 2) rfl rfl rfl Try.underlying38 rfl (by kernel_rfl) (fun w hw => Kn.hd0 hw) rfl rfl ?_
      simp only [Act.put, Act.eval, qn, qv, Nat.reduceAdd]
      apply rg_pure (by rfl) (by kernel_rfl)
      case hargs => (simp only [qm, qs, Act.eval]; exact rfl)
      case h => exact fun w hw => by have := mExponent_any n xs a c hl w (hA.kn0 hw); simp only [expR, hv.out, if_true] at this; exact this
      case hz => exact (fun _ h => by cases h)
      simp only [Act.put, Act.eval, qn, qv, Nat.reduceAdd]
      refine rf_extract rfl rfl rfl rfl ?_
      simp only [Act.put, Act.eval, qn, qv, Nat.reduceAdd]
      refine rf_extract rfl rfl rfl rfl ?_
      simp only [Act.put, Act.eval, qn, qv, Nat.reduceAdd]
      refine rg_assign ?_
      simp only [Act.put, Act.eval, qn, qv, Nat.reduceAdd]
      refine rg_assign ?_
      simp only [Act.put, Act.eval, qn, qv, Nat.reduceAdd]
      refine rg_nil ?_
      refine ek_next ?_
      refine wk_ret ?_
      refine ek_ret (fun w hw => ⟨rfl, _, res_tt _ _ rfl, ?_⟩)
      (try simp only [Act.put, Act.eval, qn, qv, Nat.reduceAdd])
      first | exact ⟨rfl, hw.below⟩ | exact ⟨trivial, hw.below⟩ | exact hw.below | (exfalso; simp_all)
  · (try simp only [decide_eq_true_eq, decide_eq_false_iff_not, Int.not_lt, Int.not_le, beq_iff_eq, beq_eq_false_iff_ne, bne_iff_ne, bne_eq_false_iff_eq, ne_eq, Bool.not_eq_true', Bool.not_eq_false'] at h1)
    simp only [Act.put, Act.eval, qn, qv, Nat.reduceAdd]
    refine rg_assign ?_
    simp only [Act.put, Act.eval, qn, qv, Nat.reduceAdd]
    refine rg_nil ?_
    refine ek_next ?_
    refine wk_cond_t rfl ?_
    refine wk_seq ?_
    refine wk_region [0, 0, 0] rfl (by kernel_rfl) ?_
    simp only [List.zip_cons_cons, List.zip_nil_right]
    refine rg_move ?_
    simp only [Act.put, Act.eval, qn, qv, Nat.reduceAdd]
    refine rg_assign ?_
    simp only [Act.put, Act.eval, qn, qv, Nat.reduceAdd]
    refine rg_assign ?_
    simp only [Act.put, Act.eval, qn, qv, Nat.reduceAdd]
    refine rg_nil ?_
    refine ek_next ?_
    refine wk_ret ?_
    refine ek_block_ret ?_
    refine ek_then_ret ?_
    refine ek_ret (fun w hw => ⟨rfl, _, res_tt _ _ rfl, ?_⟩)
    (try simp only [Act.put, Act.eval, qn, qv, Nat.reduceAdd])
    first | exact ⟨rfl, hw.below⟩ | exact ⟨trivial, hw.below⟩ | exact hw.below | (exfalso; simp_all)

theorem sunitary_any (n : Int) (xs : List Nm) (a : Option Addr) (c : Nat) (hl : xs.length ≤ 1000000) (w : World) (hA : AS w a (nms xs)) : Calls Try.prog 64 #[.agg #[.int .i64 n, .slice a xs.length c]] w fun e w' => e = .returned (.tuple #[.int .i64 (lstR n xs).1, .int .i64 (lstR n xs).2]) ∧ Below w.heap.size w w' := by
  unfold lstR
  rcases hv : validB n xs with _ | _
  · exact sunitary_bad n xs a c hl (Lib.hid hv) w hA
  · rcases hu : unB n xs with _ | _
    · exact sunitary_non n xs a c hl (Lib.hid hv) (Lib.hid hu) w hA
    · exact sunitary_yes n xs a c hl (Lib.hid hv) (Lib.hid hu) w hA
set_option maxRecDepth 100000 in
set_option maxHeartbeats 1000000 in
theorem sleast_any (n : Int) (xs : List Nm) (a : Option Addr) (c : Nat) (hl : xs.length ≤ 1000000) (w : World) (hA : AS w a (nms xs)) : Calls Try.prog 23 #[.agg #[.int .i64 n, .slice a xs.length c]] w fun e w' => e = .returned (.tuple #[.int .i64 (lstR n xs).1, .int .i64 (lstR n xs).2]) ∧ Below w.heap.size w w' := by
  go_enter Try.func23, Try.ntmps23
  refine wk_start ?_
  refine wk_seq ?_
  refine wk_region [1, 0, 0] rfl (by kernel_rfl) ?_
  simp only [List.zip_cons_cons, List.zip_nil_right]
  refine rg_new (cs := ?_) (ty := ?_) (by rfl) (fun w => ?_) (fun _ h => by cases h) (fun g1 => ?_); rotate_left 2
  focus (go_simp; rfl)
  simp only [Act.put, Act.eval, qn, qv, Nat.reduceAdd]
  refine rg_assign ?_
  simp only [Act.put, Act.eval, qn, qv, Nat.reduceAdd]
  refine rg_assign ?_
  simp only [Act.put, Act.eval, qn, qv, Nat.reduceAdd]
  refine rg_nil ?_
  refine ek_next ?_
  refine wk_seq ?_
  refine wk_region [0, 1, 0, 0, 0, 0] rfl (by kernel_rfl) ?_
  simp only [List.zip_cons_cons, List.zip_nil_right]
  refine rf_loadR (n := 2) rfl rfl rfl Try.underlying38 rfl (by kernel_rfl) (fun w hw => Kn.hd0 hw) rfl rfl ?_
  simp only [Act.put, Act.eval, qn, qv, Nat.reduceAdd]
  apply rg_pure (by rfl) (by kernel_rfl)
  case hargs => (simp only [qm, qs, Act.eval]; exact rfl)
  case h => exact fun w hw => sunitary_any n xs a c hl w (hA.kn0 hw)
  case hz => exact (fun _ h => by cases h)
  simp only [Act.put, Act.eval, qn, qv, Nat.reduceAdd]
  refine rf_extract rfl rfl rfl rfl ?_
  simp only [Act.put, Act.eval, qn, qv, Nat.reduceAdd]
  refine rf_extract rfl rfl rfl rfl ?_
  simp only [Act.put, Act.eval, qn, qv, Nat.reduceAdd]
  refine rg_assign ?_
  simp only [Act.put, Act.eval, qn, qv, Nat.reduceAdd]
  refine rg_assign ?_
  simp only [Act.put, Act.eval, qn, qv, Nat.reduceAdd]
  refine rg_nil ?_
  refine ek_next ?_
  refine wk_ret ?_
  refine ek_ret (fun w hw => ⟨rfl, _, res_tt _ _ rfl, ?_⟩)
  (try simp only [Act.put, Act.eval, qn, qv, Nat.reduceAdd])
  first | exact ⟨rfl, hw.below⟩ | exact ⟨trivial, hw.below⟩ | exact hw.below | (exfalso; simp_all)

end Go.Proofs.Ytccbinnlnkpplaa
namespace Go.Proofs.Ytccbinnlnkpplaa
set_option linter.all false
open Go.RowKit

theorem exl_loop {B w : World} {F : List Nat} {s : List Blk} {l : Nat} {r : Loop} (K : Kn B F ((l, .loop r) :: s) w) : ∃ r', r' = r := ⟨_, rfl⟩
theorem fold_zipK {γ : Type} (f : γ → Nat × Value → γ) (t : γ) (p : Nat) (v : Value) : Array.foldl f t (#[p].zip #[v]) = f t (p, v) := by
  have e : (#[p].zip #[v]) = #[(p, v)] := by rw [List.zip_toArray]; rfl
  rw [e]; simp
/-- N numbers of a list from i on. -/
def chunkL (zs : List Nm) (i N : Nat) : List Nm := (List.range N).map fun k => nm zs (i + k)
theorem chunkL_len (zs : List Nm) (i N : Nat) : (chunkL zs i N).length = N := by simp [chunkL]
theorem chunkL_nm {zs : List Nm} {i N k : Nat} (h : k < N) : nm (chunkL zs i N) k = nm zs (i + k) := by
  show ((chunkL zs i N).getD k _) = _
  unfold chunkL
  rw [List.getD_eq_getElem?_getD, List.getElem?_map, List.getElem?_range h]; rfl
theorem chunk_as {w : World} {b i N : Nat} {zs : List Nm} {r : List Value} (h : Hd w b 45 (NmE.flat zs ++ r).toArray) (hl : i + N ≤ zs.length) : AS w (some ⟨b, 0 + i * 5, none⟩) (nms (chunkL zs i N)) := fun _ => by
  refine ⟨b, _, rfl, h.lt, fun j hj => ?_⟩
  have hf : (nms (chunkL zs i N)).length = N * 5 := (NmE.flat_len _).trans (by rw [chunkL_len])
  have hd := Nat.div_add_mod j 5
  have hm5 := Nat.mod_lt j (show 0 < 5 by omega)
  have hk : j / 5 < N := by omega
  have h1 := NmE.get (chunkL zs i N) (j / 5) (j % 5) (by rw [chunkL_len]; exact hk) hm5
  have h2 := NmE.get zs (i + j / 5) (j % 5) (by omega) hm5
  have e1 : NmE.at (chunkL zs i N) (j / 5) = NmE.at zs (i + j / 5) := chunkL_nm hk
  rw [e1, ← h2] at h1
  have e2 : j / 5 * NmE.sz + j % 5 = j := by show j / 5 * 5 + j % 5 = j; omega
  have e3 : (i + j / 5) * NmE.sz + j % 5 = 0 + i * 5 + j := by show (i + j / 5) * 5 + j % 5 = _; omega
  rw [e2, e3] at h1
  have hzl := NmE.flat_len zs
  have hlt : 0 + i * 5 + j < (NmE.flat zs).length := by rw [hzl]; show _ < zs.length * 5; omega
  rw [h.cell, List.getElem?_toArray, List.getElem?_append_left hlt, h1]
/-- The blocks when j rows have been copied. -/
def ChC (N lp gp gw bz : Nat) (r : Loop) (zs : List Nm) (rz : List Value) (j : Nat) (s : List Blk) : Prop := ∃ (ra : Option Addr) (rc : Nat) (rs : List RW) (uo : List Blk),
  s = (lp, .loop r) :: (gp, .cells #[.pointer (some ⟨gw, 0, none⟩)] 128) :: (gw, .cells #[.slice ra j rc, .slice none 0 0] 131) :: (bz, .cells (NmE.flat zs ++ rz).toArray 45) :: (rwB rs ++ (uo ++ [])) ∧
  Own 36 1 uo (.slice ra j rc) j (rwV N rs) ∧ rs.length = j ∧ ∀ i x, rs[i]? = some x → x.l.length = N ∧ ∀ k, k < N → nm x.l k = nm zs (i * N + k)
theorem rw_snoc_get {rs : List RW} {x q : RW} {i : Nat} (h : (rs ++ [x])[i]? = some q) : i = rs.length ∧ q = x ∨ rs[i]? = some q := by
  rcases (by omega : i < rs.length ∨ i = rs.length ∨ rs.length < i) with h1 | h1 | h1
  · rw [List.getElem?_append_left h1] at h; exact .inr h
  · subst h1
    rw [List.getElem?_append_right (Nat.le_refl _), Nat.sub_self] at h
    exact .inl ⟨rfl, (Option.some.inj h).symm⟩
  rw [List.getElem?_eq_none (by simp; omega)] at h; cases h
/-- The error of Program. -/
noncomputable def askE (n : Int) (xs : List Nm) : Int := if validB n xs = true then (if n > 4 ∨ expo xs > mostN n.toNat then 4 else if unB n xs = true then 0 else 22) else 20
/-- What is said of a program's items. -/
def ProgL (N : Nat) (xs : List Nm) (L : List It) : Prop := (∀ x ∈ L, fitB N x = true) ∧ L.length ≤ 5000 ∧ EqT N (actQ L fun i k => Q4.conj (tb N xs k i)) dl
set_option maxRecDepth 100000 in
set_option maxHeartbeats 1000000 in
theorem prog_invalid (n : Int) (xs : List Nm) (a : Option Addr) (c : Nat) (hl : xs.length ≤ 1000000) (hv : Hid (validB n xs = false)) (w : World) (hA : AS w a (nms xs)) : Calls Try.prog 59 #[.agg #[.int .i64 n, .slice a xs.length c]] w fun e w' => RetS w [] 20 e w' := by
  refine calls_marks Try.func59 rfl ?_
  simp only [Try.ntmps59, List.size_toArray, List.length_cons, List.length_nil, Nat.reduceAdd, Nat.reduceSub, Array.replicate_succ, Array.replicate_zero, List.push_toArray, List.append_toArray, List.nil_append, List.cons_append]
  refine wk_seq ?_
  refine wk_region [1, 0, 0] rfl (by kernel_rfl) ?_
  simp only [qy]
  refine rg_new (cs := ?_) (ty := ?_) (by rfl) (fun w => ?_) (fun _ h => by cases h) (fun g1 => ?_); rotate_left 2
  focus (go_simp; rfl)
  simp only [qz]
  refine rg_assign ?_
  simp only [qz]
  refine rg_assign ?_
  simp only [qz]
  refine rg_nil (ek_next (wk_seq (wk_seq ?_)))
  refine wk_region [0, 1, 0] rfl (by kernel_rfl) ?_
  simp only [qy]
  refine rf_loadR (n := 2) rfl rfl rfl Try.underlying38 rfl (by kernel_rfl) (fun w hw => Kn.hd0 hw) rfl rfl ?_
  simp only [qz]
  apply rg_pure (by rfl) (by kernel_rfl)
  case hargs => (simp only [qm, qs, Act.eval]; exact rfl)
  case h => exact fun w hw => by have := mvalid_any n xs a c hl w (hA.kn0 hw); rw [hv.out] at this; exact this
  case hz => exact (fun _ h => by cases h)
  simp only [qz]
  refine rf_not rfl rfl rfl ?_
  simp only [qz]
  refine rg_nil (ek_next (wk_cond_t rfl (wk_seq ?_)))
  refine wk_region [0, 0] rfl (by kernel_rfl) ?_
  simp only [qy]
  refine rg_assign ?_
  simp only [qz]
  refine rg_assign ?_
  simp only [qz]
  refine rg_nil (ek_next (wk_ret (ek_then_ret ?_)))
  refine ek_retM0 (fun w hw => ⟨_, res_tt _ _ rfl, ?_⟩)
  (try simp only [qz])
  exact ⟨.slice none 0 0, [], (by first | rfl | trivial), OwnT.nil, .nil hw.below⟩

set_option maxRecDepth 100000 in
set_option maxHeartbeats 1000000 in
theorem prog_big (N : Nat) (xs : List Nm) (a : Option Addr) (c : Nat) (hl : xs.length ≤ 1000000) (hv : Hid (validB (N : Int) xs = true)) (hN : (N : Int) > 4) (w : World) (hA : AS w a (nms xs)) : Calls Try.prog 59 #[.agg #[.int .i64 N, .slice a xs.length c]] w fun e w' => RetS w [] 4 e w' := by
  have hex : Hid (expR (N : Int) xs = (expo xs, 0)) := Lib.hid (by unfold expR; rw [hv.out, if_pos rfl])
  refine calls_marks Try.func59 rfl ?_
  simp only [Try.ntmps59, List.size_toArray, List.length_cons, List.length_nil, Nat.reduceAdd, Nat.reduceSub, Array.replicate_succ, Array.replicate_zero, List.push_toArray, List.append_toArray, List.nil_append, List.cons_append]
  refine wk_seq ?_
  refine wk_region [1, 0, 0] rfl (by kernel_rfl) ?_
  simp only [qy]
  refine rg_new (cs := ?_) (ty := ?_) (by rfl) (fun w => ?_) (fun _ h => by cases h) (fun g1 => ?_); rotate_left 2
  focus (go_simp; rfl)
  simp only [qz]
  refine rg_assign ?_
  simp only [qz]
  refine rg_assign ?_
  simp only [qz]
  refine rg_nil (ek_next (wk_seq (wk_seq ?_)))
  refine wk_region [0, 1, 0] rfl (by kernel_rfl) ?_
  simp only [qy]
  refine rf_loadR (n := 2) rfl rfl rfl Try.underlying38 rfl (by kernel_rfl) (fun w hw => Kn.hd0 hw) rfl rfl ?_
  simp only [qz]
  apply rg_pure (by rfl) (by kernel_rfl)
  case hargs => (simp only [qm, qs, Act.eval]; exact rfl)
  case h => exact fun w hw => by have := mvalid_any (N : Int) xs a c hl w (hA.kn0 hw); rw [hv.out] at this; exact this
  case hz => exact (fun _ h => by cases h)
  simp only [qz]
  refine rf_not rfl rfl rfl ?_
  simp only [qz]
  refine rg_nil (ek_next (wk_cond_f rfl (wk_skip (ek_next (wk_seq ?_)))))
  refine wk_region [0, 1, 0, 0, 0, 0, 0] rfl (by kernel_rfl) ?_
  simp only [qy]
  refine rf_loadR (n := 2) rfl rfl rfl Try.underlying38 rfl (by kernel_rfl) (fun w hw => Kn.hd0 hw) rfl rfl ?_
  simp only [qz]
  apply rg_pure (by rfl) (by kernel_rfl)
  case hargs => (simp only [qm, qs, Act.eval]; exact rfl)
  case h => exact fun w hw => by have := mExponent_any (N : Int) xs a c hl w (hA.kn0 hw); rw [hex.out] at this; exact this
  case hz => exact (fun _ h => by cases h)
  simp only [qz]
  refine rg_move ?_
  simp only [qz]
  refine rf_extract rfl rfl rfl rfl ?_
  simp only [qz]
  refine rf_extract rfl rfl rfl rfl ?_
  simp only [qz]
  refine rg_assign ?_
  simp only [qz]
  refine rg_assign ?_
  simp only [qz]
  refine rg_nil (ek_next (wk_seq (wk_seq ?_)))
  refine wk_region [0, 0, 0, 0, 0, 0, 0, 1, 0, 0] rfl (by kernel_rfl) ?_
  simp only [qy]
  refine rf_field (n := 0) (j := 0) rfl rfl rfl Try.underlying38 rfl (by kernel_rfl) rfl ?_
  simp only [qz]
  refine rf_load rfl rfl rfl Try.underlying3 rfl (fun w hw => (Kn.hd0 hw).at rfl) ?_
  simp only [qz]
  refine rfb_gtr rfl rfl rfl rfl ?_
  intro x h1
  obtain rfl : x = true := by (refine h1.symm.trans ?_; exact decide_eq_true (by omega))
  clear h1
  simp only [qz]
  refine rg_move ?_
  simp only [qz]
  refine rg_skip (by rfl) ?_
  simp only [qz]
  refine rg_skip (by rfl) ?_
  simp only [qz]
  refine rg_skip (by rfl) ?_
  simp only [qz]
  refine rg_skip_h (by rfl) (fun _ h => by cases h) ?_
  simp only [qz]
  refine rg_skip (by rfl) ?_
  simp only [qz]
  refine rf_pick rfl rfl rfl ?_
  simp only [qz]
  refine rg_nil (ek_next (wk_cond_t rfl (wk_seq ?_)))
  refine wk_region [0, 0] rfl (by kernel_rfl) ?_
  simp only [qy]
  refine rg_assign ?_
  simp only [qz]
  refine rg_assign ?_
  simp only [qz]
  refine rg_nil (ek_next (wk_ret (ek_then_ret ?_)))
  refine ek_retM0 (fun w hw => ⟨_, res_tt _ _ rfl, ?_⟩)
  (try simp only [qz])
  exact ⟨.slice none 0 0, [], (by first | rfl | trivial), OwnT.nil, .nil hw.below⟩

set_option maxRecDepth 100000 in
set_option maxHeartbeats 1000000 in
theorem prog_limit (N : Nat) (xs : List Nm) (a : Option Addr) (c : Nat) (hl : xs.length ≤ 1000000) (hv : Hid (validB (N : Int) xs = true)) (hN : ¬ (N : Int) > 4) (hk : expo xs > mostN N) (w : World) (hA : AS w a (nms xs)) : Calls Try.prog 59 #[.agg #[.int .i64 N, .slice a xs.length c]] w fun e w' => RetS w [] 4 e w' := by
  have hex : Hid (expR (N : Int) xs = (expo xs, 0)) := Lib.hid (by unfold expR; rw [hv.out, if_pos rfl])
  refine calls_marks Try.func59 rfl ?_
  simp only [Try.ntmps59, List.size_toArray, List.length_cons, List.length_nil, Nat.reduceAdd, Nat.reduceSub, Array.replicate_succ, Array.replicate_zero, List.push_toArray, List.append_toArray, List.nil_append, List.cons_append]
  refine wk_seq ?_
  refine wk_region [1, 0, 0] rfl (by kernel_rfl) ?_
  simp only [qy]
  refine rg_new (cs := ?_) (ty := ?_) (by rfl) (fun w => ?_) (fun _ h => by cases h) (fun g1 => ?_); rotate_left 2
  focus (go_simp; rfl)
  simp only [qz]
  refine rg_assign ?_
  simp only [qz]
  refine rg_assign ?_
  simp only [qz]
  refine rg_nil (ek_next (wk_seq (wk_seq ?_)))
  refine wk_region [0, 1, 0] rfl (by kernel_rfl) ?_
  simp only [qy]
  refine rf_loadR (n := 2) rfl rfl rfl Try.underlying38 rfl (by kernel_rfl) (fun w hw => Kn.hd0 hw) rfl rfl ?_
  simp only [qz]
  apply rg_pure (by rfl) (by kernel_rfl)
  case hargs => (simp only [qm, qs, Act.eval]; exact rfl)
  case h => exact fun w hw => by have := mvalid_any (N : Int) xs a c hl w (hA.kn0 hw); rw [hv.out] at this; exact this
  case hz => exact (fun _ h => by cases h)
  simp only [qz]
  refine rf_not rfl rfl rfl ?_
  simp only [qz]
  refine rg_nil (ek_next (wk_cond_f rfl (wk_skip (ek_next (wk_seq ?_)))))
  refine wk_region [0, 1, 0, 0, 0, 0, 0] rfl (by kernel_rfl) ?_
  simp only [qy]
  refine rf_loadR (n := 2) rfl rfl rfl Try.underlying38 rfl (by kernel_rfl) (fun w hw => Kn.hd0 hw) rfl rfl ?_
  simp only [qz]
  apply rg_pure (by rfl) (by kernel_rfl)
  case hargs => (simp only [qm, qs, Act.eval]; exact rfl)
  case h => exact fun w hw => by have := mExponent_any (N : Int) xs a c hl w (hA.kn0 hw); rw [hex.out] at this; exact this
  case hz => exact (fun _ h => by cases h)
  simp only [qz]
  refine rg_move ?_
  simp only [qz]
  refine rf_extract rfl rfl rfl rfl ?_
  simp only [qz]
  refine rf_extract rfl rfl rfl rfl ?_
  simp only [qz]
  refine rg_assign ?_
  simp only [qz]
  refine rg_assign ?_
  simp only [qz]
  refine rg_nil (ek_next (wk_seq (wk_seq ?_)))
  refine wk_region [0, 0, 0, 0, 0, 0, 0, 1, 0, 0] rfl (by kernel_rfl) ?_
  simp only [qy]
  refine rf_field (n := 0) (j := 0) rfl rfl rfl Try.underlying38 rfl (by kernel_rfl) rfl ?_
  simp only [qz]
  refine rf_load rfl rfl rfl Try.underlying3 rfl (fun w hw => (Kn.hd0 hw).at rfl) ?_
  simp only [qz]
  refine rfb_gtr rfl rfl rfl rfl ?_
  intro x h1
  obtain rfl : x = false := by (refine h1.symm.trans ?_; exact decide_eq_false (by omega))
  clear h1
  simp only [qz]
  refine rg_move ?_
  simp only [qz]
  apply rg_soft_g
  case hg => rfl
  case hy => (intro w hw; go_simp; (try go_bits); exact Yld.mk _ _)
  simp only [qz]
  refine rf_field (n := 0) (j := 0) rfl rfl rfl Try.underlying38 rfl (by kernel_rfl) rfl ?_
  simp only [qz]
  refine rf_load rfl rfl rfl Try.underlying3 rfl (fun w hw => (Kn.hd0 hw).at rfl) ?_
  simp only [qz]
  apply rg_pure (by rfl) (by kernel_rfl)
  case hargs => (simp only [qm, qs, Act.eval]; exact rfl)
  case h => exact fun w hw => most_any N (by omega) w
  case hz => exact (fun _ h => by cases h)
  simp only [qz]
  refine rfb_gtr rfl rfl rfl rfl ?_
  intro x h2
  obtain rfl : x = true := by (refine h2.symm.trans ?_; exact decide_eq_true (by omega))
  clear h2
  simp only [qz]
  refine rf_pick rfl rfl rfl ?_
  simp only [qz]
  refine rg_nil (ek_next (wk_cond_t rfl (wk_seq ?_)))
  refine wk_region [0, 0] rfl (by kernel_rfl) ?_
  simp only [qy]
  refine rg_assign ?_
  simp only [qz]
  refine rg_assign ?_
  simp only [qz]
  refine rg_nil (ek_next (wk_ret (ek_then_ret ?_)))
  refine ek_retM0 (fun w hw => ⟨_, res_tt _ _ rfl, ?_⟩)
  (try simp only [qz])
  exact ⟨.slice none 0 0, [], (by first | rfl | trivial), OwnT.nil, .nil hw.below⟩

set_option maxRecDepth 100000 in
set_option maxHeartbeats 1000000 in
theorem prog_non (N : Nat) (xs : List Nm) (a : Option Addr) (c : Nat) (hl : xs.length ≤ 1000000) (hv : Hid (validB (N : Int) xs = true)) (hN : ¬ (N : Int) > 4) (hk : ¬ expo xs > mostN N) (hu : Hid (unB (N : Int) xs = false)) (w : World) (hA : AS w a (nms xs)) : Calls Try.prog 59 #[.agg #[.int .i64 N, .slice a xs.length c]] w fun e w' => RetS w [] 22 e w' := by
  have hex : Hid (expR (N : Int) xs = (expo xs, 0)) := Lib.hid (by unfold expR; rw [hv.out, if_pos rfl])
  refine calls_marks Try.func59 rfl ?_
  simp only [Try.ntmps59, List.size_toArray, List.length_cons, List.length_nil, Nat.reduceAdd, Nat.reduceSub, Array.replicate_succ, Array.replicate_zero, List.push_toArray, List.append_toArray, List.nil_append, List.cons_append]
  refine wk_seq ?_
  refine wk_region [1, 0, 0] rfl (by kernel_rfl) ?_
  simp only [qy]
  refine rg_new (cs := ?_) (ty := ?_) (by rfl) (fun w => ?_) (fun _ h => by cases h) (fun g1 => ?_); rotate_left 2
  focus (go_simp; rfl)
  simp only [qz]
  refine rg_assign ?_
  simp only [qz]
  refine rg_assign ?_
  simp only [qz]
  refine rg_nil (ek_next (wk_seq (wk_seq ?_)))
  refine wk_region [0, 1, 0] rfl (by kernel_rfl) ?_
  simp only [qy]
  refine rf_loadR (n := 2) rfl rfl rfl Try.underlying38 rfl (by kernel_rfl) (fun w hw => Kn.hd0 hw) rfl rfl ?_
  simp only [qz]
  apply rg_pure (by rfl) (by kernel_rfl)
  case hargs => (simp only [qm, qs, Act.eval]; exact rfl)
  case h => exact fun w hw => by have := mvalid_any (N : Int) xs a c hl w (hA.kn0 hw); rw [hv.out] at this; exact this
  case hz => exact (fun _ h => by cases h)
  simp only [qz]
  refine rf_not rfl rfl rfl ?_
  simp only [qz]
  refine rg_nil (ek_next (wk_cond_f rfl (wk_skip (ek_next (wk_seq ?_)))))
  refine wk_region [0, 1, 0, 0, 0, 0, 0] rfl (by kernel_rfl) ?_
  simp only [qy]
  refine rf_loadR (n := 2) rfl rfl rfl Try.underlying38 rfl (by kernel_rfl) (fun w hw => Kn.hd0 hw) rfl rfl ?_
  simp only [qz]
  apply rg_pure (by rfl) (by kernel_rfl)
  case hargs => (simp only [qm, qs, Act.eval]; exact rfl)
  case h => exact fun w hw => by have := mExponent_any (N : Int) xs a c hl w (hA.kn0 hw); rw [hex.out] at this; exact this
  case hz => exact (fun _ h => by cases h)
  simp only [qz]
  refine rg_move ?_
  simp only [qz]
  refine rf_extract rfl rfl rfl rfl ?_
  simp only [qz]
  refine rf_extract rfl rfl rfl rfl ?_
  simp only [qz]
  refine rg_assign ?_
  simp only [qz]
  refine rg_assign ?_
  simp only [qz]
  refine rg_nil (ek_next (wk_seq (wk_seq ?_)))
  refine wk_region [0, 0, 0, 0, 0, 0, 0, 1, 0, 0] rfl (by kernel_rfl) ?_
  simp only [qy]
  refine rf_field (n := 0) (j := 0) rfl rfl rfl Try.underlying38 rfl (by kernel_rfl) rfl ?_
  simp only [qz]
  refine rf_load rfl rfl rfl Try.underlying3 rfl (fun w hw => (Kn.hd0 hw).at rfl) ?_
  simp only [qz]
  refine rfb_gtr rfl rfl rfl rfl ?_
  intro x h1
  obtain rfl : x = false := by (refine h1.symm.trans ?_; exact decide_eq_false (by omega))
  clear h1
  simp only [qz]
  refine rg_move ?_
  simp only [qz]
  apply rg_soft_g
  case hg => rfl
  case hy => (intro w hw; go_simp; (try go_bits); exact Yld.mk _ _)
  simp only [qz]
  refine rf_field (n := 0) (j := 0) rfl rfl rfl Try.underlying38 rfl (by kernel_rfl) rfl ?_
  simp only [qz]
  refine rf_load rfl rfl rfl Try.underlying3 rfl (fun w hw => (Kn.hd0 hw).at rfl) ?_
  simp only [qz]
  apply rg_pure (by rfl) (by kernel_rfl)
  case hargs => (simp only [qm, qs, Act.eval]; exact rfl)
  case h => exact fun w hw => most_any N (by omega) w
  case hz => exact (fun _ h => by cases h)
  simp only [qz]
  refine rfb_gtr rfl rfl rfl rfl ?_
  intro x h2
  obtain rfl : x = false := by (refine h2.symm.trans ?_; exact decide_eq_false (by omega))
  clear h2
  simp only [qz]
  refine rf_pick rfl rfl rfl ?_
  simp only [qz]
  refine rg_nil (ek_next (wk_cond_f rfl (wk_skip (ek_next (wk_seq (wk_seq ?_))))))
  refine wk_region [0, 1, 0, 0, 0, 0, 0] rfl (by kernel_rfl) ?_
  simp only [qy]
  refine rf_loadR (n := 2) rfl rfl rfl Try.underlying38 rfl (by kernel_rfl) (fun w hw => Kn.hd0 hw) rfl rfl ?_
  simp only [qz]
  apply rg_pure (by rfl) (by kernel_rfl)
  case hargs => (simp only [qm, qs, Act.eval]; exact rfl)
  case h => exact fun w hw => sunitary_non (N : Int) xs a c hl hv hu w (hA.kn0 hw)
  case hz => exact (fun _ h => by cases h)
  simp only [qz]
  refine rg_move ?_
  simp only [qz]
  refine rf_extract rfl rfl rfl rfl ?_
  simp only [qz]
  refine rf_extract rfl rfl rfl rfl ?_
  simp only [qz]
  refine rg_assign ?_
  simp only [qz]
  refine rg_assign ?_
  simp only [qz]
  refine rg_nil (ek_next (wk_seq ?_))
  refine wk_region [0, 0] rfl (by kernel_rfl) ?_
  simp only [qy]
  refine rg_move ?_
  simp only [qz]
  refine rf_neq (b := true) rfl rfl rfl rfl (by decide) ?_
  simp only [qz]
  refine rg_nil (ek_next (wk_cond_t rfl (wk_seq ?_)))
  refine wk_region [0, 0, 0] rfl (by kernel_rfl) ?_
  simp only [qy]
  refine rg_move ?_
  simp only [qz]
  refine rg_assign ?_
  simp only [qz]
  refine rg_assign ?_
  simp only [qz]
  refine rg_nil (ek_next (wk_ret (ek_then_ret ?_)))
  refine ek_retM0 (fun w hw => ⟨_, res_tt _ _ rfl, ?_⟩)
  (try simp only [qz])
  exact ⟨.slice none 0 0, [], (by first | rfl | trivial), OwnT.nil, .nil hw.below⟩

end Go.Proofs.Ytccbinnlnkpplaa
namespace Go.Proofs.Ytccbinnlnkpplaa
set_option linter.all false
open Go.RowKit

/-- The blocks when j items have been turned round. -/
def InC (lp g7 : Nat) (r : Loop) (xs : List It) (j : Nat) (s : List Blk) : Prop := ∃ (va : Option Addr) (vc : Nat) (u : List Blk),
  s = (lp, .loop r) :: (g7, .cells #[.slice va (invS xs j).length vc] 32) :: (u ++ []) ∧ OwnT u (.slice va (invS xs j).length vc) (invS xs j)
set_option maxRecDepth 100000 in
set_option maxHeartbeats 1000000 in
theorem minverse_any (N : Nat) (xs : List It) (a : Option Addr) (c : Nat) (hN1 : 1 ≤ N) (hN6 : N ≤ 6) (hx : xs.length ≤ 1000) (hlx : xs.length ≤ 5000) (hf : ∀ x ∈ xs, fitB N x = true) (w : World) (hA : AS w a (its xs)) : Calls Try.prog 57 #[.int .i64 N, .slice a xs.length c] w fun e w' => RetS w (invS xs xs.length) 0 e w' := by
  refine calls_marks Try.func57 rfl ?_
  simp only [Try.ntmps57, List.size_toArray, List.length_cons, List.length_nil, Nat.reduceAdd, Nat.reduceSub, Array.replicate_succ, Array.replicate_zero, List.push_toArray, List.append_toArray, List.nil_append, List.cons_append]
  refine wk_seq ?_
  refine wk_region [0, 0] rfl (by kernel_rfl) ?_
  simp only [qy]
  refine rg_assign ?_
  simp only [qz]
  refine rg_assign ?_
  simp only [qz]
  refine rg_nil (ek_next (wk_seq (wk_seq ?_)))
  refine wk_region [0, 0, 1, 0] rfl (by kernel_rfl) ?_
  simp only [qy]
  refine rg_move ?_
  simp only [qz]
  refine rg_move ?_
  simp only [qz]
  apply rg_pure (by rfl) (by kernel_rfl)
  case hargs => (simp only [qm, qs, Act.eval]; exact rfl)
  case h => exact fun w hw => by have := mcheck_any (N : Int) xs a c w (hA.kn0 hw); rw [itemE_fits hN1 hN6 hlx hf] at this; exact this
  case hz => exact (fun _ h => by cases h)
  simp only [qz]
  refine rg_assign ?_
  simp only [qz]
  refine rg_nil (ek_next (wk_seq ?_))
  refine wk_region [0, 0] rfl (by kernel_rfl) ?_
  simp only [qy]
  refine rg_move ?_
  simp only [qz]
  refine rf_neq (b := false) rfl rfl rfl rfl (by decide) ?_
  simp only [qz]
  refine rg_nil (ek_next (wk_cond_f rfl (wk_skip (ek_next (wk_seq ?_)))))
  refine wk_region [1] rfl (by kernel_rfl) ?_
  simp only [qy]
  refine rg_new (cs := ?_) (ty := ?_) (by rfl) (fun w => ?_) (fun _ h => by cases h) (fun g1 => ?_); rotate_left 2
  focus (go_simp; rfl)
  simp only [qz]
  refine rg_nil (ek_next (wk_seq (wk_seq ?_)))
  refine wk_region [0, 1] rfl (by kernel_rfl) ?_
  simp only [qy]
  refine rg_move ?_
  simp only [qz]
  apply rg_made (T := fun v u => ∃ gs, v = .func (.func 152) #[] #[.pointer (some ⟨gs, 0, none⟩)] ∧ u = [(gs, .cells #[.slice a xs.length c] 32)]) (by rfl) (by kernel_rfl)
  case hargs => (simp only [qm, qs, Act.eval]; exact rfl)
  case h => exact fun w hw => (backward_any xs a c w).mono (fun e w' ⟨gs, he, hm⟩ => ⟨_, _, he, ⟨gs, rfl, rfl⟩, hm⟩)
  case hz => exact (fun _ h => by cases h)
  rintro v1 u1 ⟨gs, rfl, rfl⟩
  simp only [List.cons_append, List.nil_append]
  simp only [qz]
  refine rg_nil (ek_next (wk_block ?_))
  refine wk_rangeFunc (f := 152) (caps := #[.pointer (some ⟨gs, 0, none⟩)]) rfl (by kernel_rfl) ?_
  intro fn dd lp w1 K1
  obtain ⟨r, hr⟩ := exl_loop K1
  rw [← hr] at K1
  have K2 := K1.perm ((perm_at (l := [_, _]) (perm_at (l := [_]) (List.Perm.refl _))).cons _)
  have K3 := Kn.self (v := [_, _, _]) (rest := [_]) K2
  have hR : RoundsB xs lp r (InC lp g1 r xs) := by
    subst hr
    refine ⟨rfl, fun j s ⟨va, vc, u, e, _⟩ => by subst e; simp, ?_⟩
    intro R B F j k s rest w hk hj ⟨va, vc, u, hs, hO⟩ K
    subst hs
    simp only [List.cons_append, List.append_assoc, List.nil_append] at K
    have hil := invS_len xs j
    have hfx := it_kind (its_memF hf hk)
    have hkj : xs.length - 1 - j = k := by omega
    refine roundIn_kn2 rfl ?_ K
    simp only [fold_zipB]
    simp only [qz]
    refine wk_region [1, 1] rfl (by kernel_rfl) ?_
    simp only [qy]
    refine rg_new (cs := ?_) (ty := ?_) (by rfl) (fun w => ?_) (fun _ h => by cases h) (fun g2 => ?_); rotate_left 2
    focus (go_simp; rfl)
    simp only [qz]
    refine rf_storeR (n := 4) rfl rfl (by kernel_rfl) rfl rfl (UpdR.here _ _ _ (Nat.le_of_ble_eq_true rfl)) (fun _ h => by cases h) ?_
    simp only [qz, Nat.reduceAdd]
    refine rg_nil ?_
    refine ek_asg2 (Rep.there _ (Rep.here _)) ?_
    refine wk_block (wk_seq ?_)
    refine wk_region [0, 0, 0, 1, 1] rfl (by kernel_rfl) ?_
    simp only [qy]
    refine rf_field (n := 0) (j := 1) rfl rfl rfl Try.underlying80 rfl (by kernel_rfl) rfl ?_
    simp only [qz]
    refine rf_load rfl rfl rfl Try.underlying3 rfl (fun w hw => (Kn.hd0 hw).at rfl) ?_
    simp only [qz]
    refine rf_build (cs := fun a => #[a.eval (.const (.int .i64 1)), a.eval (.tmp 22), a.eval (.const (.int .i64 4)), .string ⟨#[]⟩]) rfl rfl (by kernel_rfl) ?_
    simp only [qz]
    refine rg_new (cs := ?_) (ty := ?_) (by rfl) (fun w => ?_) (fun _ h => by cases h) (fun g3 => ?_); rotate_left 2
    focus (go_simp; rfl)
    simp only [qz]
    refine rf_storeR (n := 4) rfl rfl (by kernel_rfl) rfl rfl (UpdR.here _ _ _ (Nat.le_of_ble_eq_true rfl)) (fun _ h => by cases h) ?_
    simp only [qz, Nat.reduceAdd]
    refine rg_nil (ek_next (wk_seq ?_))
    refine wk_region [0, 0] rfl (by kernel_rfl) ?_
    simp only [qy]
    refine rf_field (n := 0) (j := 0) rfl rfl rfl Try.underlying80 rfl (by kernel_rfl) rfl ?_
    simp only [qz]
    refine rf_load rfl rfl rfl Try.underlying3 rfl (fun w hw => (Kn.hd0 (Kn.tl hw)).at rfl) ?_
    simp only [qz]
    refine rg_nil (ek_next (wk_block (wk_seq ?_)))
    refine wk_region [0, 0] rfl (by kernel_rfl) ?_
    simp only [qy]
    refine rfb_eql rfl rfl rfl rfl ?_
    intro x h1
    cases x
    · (try simp only [qd, ne_eq] at h1)
      simp only [qz]
      refine rg_assign ?_
      simp only [qz]
      refine rg_nil (ek_next (wk_cond_f rfl (wk_seq ?_)))
      refine wk_region [0, 0] rfl (by kernel_rfl) ?_
      simp only [qy]
      refine rfb_eql rfl rfl rfl rfl ?_
      intro x h2
      cases x
      · (try simp only [qd, ne_eq] at h2)
        simp only [qz]
        refine rg_assign ?_
        simp only [qz]
        refine rg_nil (ek_next (wk_cond_f rfl ?_))
        refine wk_region [0, 0, 1, 1, 1] rfl (by kernel_rfl) ?_
        simp only [qy]
        refine rf_load rfl rfl rfl Try.underlying32 rfl (fun w hw => (Kn.hd0 (Kn.tl (Kn.tl (Kn.tl hw)))).at rfl) ?_
        simp only [qz]
        refine rf_loadR (n := 4) rfl rfl rfl Try.underlying80 rfl (by kernel_rfl) (fun w hw => Kn.hd0 (Kn.tl hw)) rfl rfl ?_
        simp only [qz]
        refine rg_newS (cs := ?_) (ty := ?_) (n := 1) (c := 1) (by rfl) (fun w => ?_) (fun _ h => by cases h) (fun g4 => ?_); rotate_left 2
        focus (go_simp; rfl)
        simp only [qz]
        refine rg_appendT (xs := invS xs j) (x := (it xs k)) (by rfl) rfl hO rfl (by omega) (perm_atU (l := [_, _, _, _, _]) (u := u) (List.Perm.refl _)) (fun w hw => Kn.hd0 hw) (fun _ h => by cases h) (fun uQ vQ hOQ => ?_)
        have he1 : invI (it xs k) = [(it xs k)] := by (unfold invI; rw [if_neg h1, if_neg h2])
        rw [← he1, show invS xs j ++ invI (it xs k) = invS xs (j + 1) by rw [invS, hkj]] at hOQ
        obtain ⟨aQ, cQ, rfl, -⟩ := Own.val hOQ
        simp only [qz]
        refine rf_store rfl rfl (by kernel_rfl) rfl rfl (UpdR.app _ (UpdR.there _ (UpdR.there _ (UpdR.there _ (UpdR.there _ (UpdR.here _ _ _ (Nat.le_of_ble_eq_true rfl))))))) (fun _ h => by cases h) ?_
        simp only [qz]
        refine rg_nil (ek_block (ek_block ?_))
        refine ek_perm ((((((((((List.Perm.refl _).cons _).trans (List.Perm.swap _ _ _)).cons _).trans (List.Perm.swap _ _ _)).cons _).trans (List.Perm.swap _ _ _)).append_left _).trans (List.perm_middle (l₁ := uQ))).trans (((((((((((List.Perm.refl _).cons _).trans (List.Perm.swap _ _ _)).cons _).trans (List.Perm.swap _ _ _)).cons _).trans (List.Perm.swap _ _ _)).append_left _).trans (List.perm_middle (l₁ := uQ))).trans ((List.Perm.refl _).cons _)).cons _)) ?_
        refine ek_sub (sc _ (sc _ (List.Sublist.append_left (sk _ (sk _ (sk _ (List.Sublist.refl _)))) _))) ?_
        refine ek_roundEnd (Rep.here _) (fun w hw => ⟨_, rfl, ⟨aQ, cQ, uQ, rfl, hOQ⟩, Kn.to (by (try simp only [List.append_assoc, List.cons_append, List.nil_append]); (try rfl)) hw⟩)
      · (try simp only [qd, ne_eq] at h2)
        simp only [qz]
        refine rg_assign ?_
        simp only [qz]
        refine rg_nil (ek_next (wk_cond_t rfl ?_))
        refine wk_region [0, 0, 0, 0, 1, 1, 1] rfl (by kernel_rfl) ?_
        simp only [qy]
        refine rf_load rfl rfl rfl Try.underlying32 rfl (fun w hw => (Kn.hd0 (Kn.tl (Kn.tl (Kn.tl hw)))).at rfl) ?_
        simp only [qz]
        refine rf_loadR (n := 4) rfl rfl rfl Try.underlying80 rfl (by kernel_rfl) (fun w hw => Kn.hd0 hw) rfl rfl ?_
        simp only [qz]
        refine rf_loadR (n := 4) rfl rfl rfl Try.underlying80 rfl (by kernel_rfl) (fun w hw => Kn.hd0 (Kn.tl hw)) rfl rfl ?_
        simp only [qz]
        refine rf_loadR (n := 4) rfl rfl rfl Try.underlying80 rfl (by kernel_rfl) (fun w hw => Kn.hd0 hw) rfl rfl ?_
        simp only [qz]
        refine rg_newS (cs := ?_) (ty := ?_) (n := 3) (c := 3) (by rfl) (fun w => ?_) (fun _ h => by cases h) (fun g5 => ?_); rotate_left 2
        focus (go_simp; rfl)
        simp only [qz]
        have hyy : it xs k = ⟨2, (it xs k).at_, (it xs k).n, (it xs k).name⟩ := by rw [← h2]
        refine rg_appT3 (xs := invS xs j) (x := halfI (it xs k)) (y := ⟨2, (it xs k).at_, (it xs k).n, (it xs k).name⟩) (z := halfI (it xs k)) (by rfl) rfl hO rfl (by omega) (perm_atU (l := [_, _, _, _, _]) (u := u) (List.Perm.refl _)) (fun w hw => Kn.hd0 hw) (fun _ h => by cases h) (fun uQ vQ hOQ => ?_)
        have he1 : invI (it xs k) = [halfI (it xs k), ⟨2, (it xs k).at_, (it xs k).n, (it xs k).name⟩, halfI (it xs k)] := by (rw [← hyy]; unfold invI; rw [if_neg h1, if_pos h2])
        rw [← he1, show invS xs j ++ invI (it xs k) = invS xs (j + 1) by rw [invS, hkj]] at hOQ
        obtain ⟨aQ, cQ, rfl, -⟩ := Own.val hOQ
        simp only [qz]
        refine rf_store rfl rfl (by kernel_rfl) rfl rfl (UpdR.app _ (UpdR.there _ (UpdR.there _ (UpdR.there _ (UpdR.there _ (UpdR.here _ _ _ (Nat.le_of_ble_eq_true rfl))))))) (fun _ h => by cases h) ?_
        simp only [qz]
        refine rg_nil (ek_block (ek_block ?_))
        refine ek_perm ((((((((((List.Perm.refl _).cons _).trans (List.Perm.swap _ _ _)).cons _).trans (List.Perm.swap _ _ _)).cons _).trans (List.Perm.swap _ _ _)).append_left _).trans (List.perm_middle (l₁ := uQ))).trans (((((((((((List.Perm.refl _).cons _).trans (List.Perm.swap _ _ _)).cons _).trans (List.Perm.swap _ _ _)).cons _).trans (List.Perm.swap _ _ _)).append_left _).trans (List.perm_middle (l₁ := uQ))).trans ((List.Perm.refl _).cons _)).cons _)) ?_
        refine ek_sub (sc _ (sc _ (List.Sublist.append_left (sk _ (sk _ (sk _ (List.Sublist.refl _)))) _))) ?_
        refine ek_roundEnd (Rep.here _) (fun w hw => ⟨_, rfl, ⟨aQ, cQ, uQ, rfl, hOQ⟩, Kn.to (by (try simp only [List.append_assoc, List.cons_append, List.nil_append]); (try rfl)) hw⟩)
    · (try simp only [qd, ne_eq] at h1)
      simp only [qz]
      refine rg_assign ?_
      simp only [qz]
      refine rg_nil (ek_next (wk_cond_t rfl (wk_seq ?_)))
      refine wk_region [0, 0, 0, 0, 1] rfl (by kernel_rfl) ?_
      simp only [qy]
      refine rf_field (n := 0) (j := 2) rfl rfl rfl Try.underlying80 rfl (by kernel_rfl) rfl ?_
      simp only [qz]
      refine rf_load rfl rfl rfl Try.underlying3 rfl (fun w hw => (Kn.hd0 (Kn.tl hw)).at rfl) ?_
      simp only [qz]
      refine rf_sub rfl rfl rfl rfl (wrap_ok (by omega) (by omega)) ?_
      simp only [qz]
      refine rf_field (n := 0) (j := 2) rfl rfl rfl Try.underlying80 rfl (by kernel_rfl) rfl ?_
      simp only [qz]
      refine rf_store rfl rfl (by kernel_rfl) rfl rfl (UpdR.there _ (UpdR.here _ _ _ (Nat.le_of_ble_eq_true rfl))) (fun _ h => by cases h) ?_
      simp only [qz]
      refine rg_nil (ek_next ?_)
      refine wk_region [0, 0, 1, 1, 1] rfl (by kernel_rfl) ?_
      simp only [qy]
      refine rf_load rfl rfl rfl Try.underlying32 rfl (fun w hw => (Kn.hd0 (Kn.tl (Kn.tl (Kn.tl hw)))).at rfl) ?_
      simp only [qz]
      refine rf_loadR (n := 4) rfl rfl rfl Try.underlying80 rfl (by kernel_rfl) (fun w hw => Kn.hd0 (Kn.tl hw)) rfl rfl ?_
      simp only [qz]
      refine rg_newS (cs := ?_) (ty := ?_) (n := 1) (c := 1) (by rfl) (fun w => ?_) (fun _ h => by cases h) (fun g6 => ?_); rotate_left 2
      focus (go_simp; rfl)
      simp only [qz]
      refine rg_appendT (xs := invS xs j) (x := ⟨1, (it xs k).at_, 8 - (it xs k).n, (it xs k).name⟩) (by rfl) rfl hO rfl (by omega) (perm_atU (l := [_, _, _, _, _]) (u := u) (List.Perm.refl _)) (fun w hw => Kn.hd0 hw) (fun _ h => by cases h) (fun uQ vQ hOQ => ?_)
      have he1 : invI (it xs k) = [⟨1, (it xs k).at_, 8 - (it xs k).n, (it xs k).name⟩] := by (unfold invI; rw [if_pos h1, h1])
      rw [← he1, show invS xs j ++ invI (it xs k) = invS xs (j + 1) by rw [invS, hkj]] at hOQ
      obtain ⟨aQ, cQ, rfl, -⟩ := Own.val hOQ
      simp only [qz]
      refine rf_store rfl rfl (by kernel_rfl) rfl rfl (UpdR.app _ (UpdR.there _ (UpdR.there _ (UpdR.there _ (UpdR.there _ (UpdR.here _ _ _ (Nat.le_of_ble_eq_true rfl))))))) (fun _ h => by cases h) ?_
      simp only [qz]
      refine rg_nil (ek_block (ek_block ?_))
      refine ek_perm ((((((((((List.Perm.refl _).cons _).trans (List.Perm.swap _ _ _)).cons _).trans (List.Perm.swap _ _ _)).cons _).trans (List.Perm.swap _ _ _)).append_left _).trans (List.perm_middle (l₁ := uQ))).trans (((((((((((List.Perm.refl _).cons _).trans (List.Perm.swap _ _ _)).cons _).trans (List.Perm.swap _ _ _)).cons _).trans (List.Perm.swap _ _ _)).append_left _).trans (List.perm_middle (l₁ := uQ))).trans ((List.Perm.refl _).cons _)).cons _)) ?_
      refine ek_sub (sc _ (sc _ (List.Sublist.append_left (sk _ (sk _ (sk _ (List.Sublist.refl _)))) _))) ?_
      refine ek_roundEnd (Rep.here _) (fun w hw => ⟨_, rfl, ⟨aQ, cQ, uQ, rfl, hOQ⟩, Kn.to (by (try simp only [List.append_assoc, List.cons_append, List.nil_append]); (try rfl)) hw⟩)
  have hpend : r.pending = none := by subst hr; rfl
  have hst : r.state ≠ .busy := by (subst hr; simp)
  clear hr
  have hC0 : InC lp g1 r xs 0 [(lp, .loop r), (g1, .cells #[.slice none 0 0] 32)] := ⟨none, 0, [], rfl, OwnT.nil⟩
  refine (backward1_any xs a c lp gs (by omega) r _ hR _ _ hC0 (fun h0 => hA.fresh (fun e => by have := its_len xs; rw [e] at this; simp at this; omega) K1 (by simp)) w1 (hA.kn0 K1) K3).mono ?_
  rintro e w2 ⟨rfl, s', ⟨va, vc, u, rfl, hO⟩, hK⟩
  have K4 := Kn.effApp (v := [_, _, _]) (rest := [_]) K2 hK
  simp only [List.cons_append, List.append_assoc, List.nil_append] at K4
  refine ⟨_, _, r, _, rfl, K4, Rep.here _, hst, ?_⟩
  rw [hpend]
  refine ek_block (ek_next (wk_seq (wk_seq ?_)))
  have hil := invS_len xs xs.length
  refine wk_region [0, 0, 0] rfl (by kernel_rfl) ?_
  simp only [qy]
  refine rf_load rfl rfl rfl Try.underlying32 rfl (fun w hw => (Kn.hd0 (Kn.tl hw)).at rfl) ?_
  simp only [qz]
  refine rf_len rfl rfl rfl Try.underlying32 ?_
  simp only [qz]
  refine rfb_gtr rfl rfl rfl rfl ?_
  intro x h1
  obtain rfl : x = false := by (refine h1.symm.trans ?_; exact decide_eq_false (by omega))
  clear h1
  simp only [qz]
  refine rg_nil (ek_next (wk_cond_f rfl (wk_skip (ek_next (wk_seq ?_)))))
  refine wk_region [0, 0, 0] rfl (by kernel_rfl) ?_
  simp only [qy]
  refine rf_load rfl rfl rfl Try.underlying32 rfl (fun w hw => (Kn.hd0 (Kn.tl hw)).at rfl) ?_
  simp only [qz]
  refine rg_assign ?_
  simp only [qz]
  refine rg_assign ?_
  simp only [qz]
  refine rg_nil (ek_next (wk_ret ?_))
  refine ek_retM1 (Rep.there _ (Rep.there _ (Rep.app _ (Rep.there _ (Rep.here _))))) (fun w hw => ⟨_, res_tt _ _ rfl, ?_⟩)
  (try simp only [qz])
  exact ⟨_, u, (by first | rfl | trivial), hO, hw.made (List.Sublist.cons _ (List.Sublist.cons _ (List.sublist_append_left _ _)))⟩

end Go.Proofs.Ytccbinnlnkpplaa
namespace Go.Proofs.Ytccbinnlnkpplaa
set_option linter.all false
open Go.RowKit

set_option maxRecDepth 100000 in
set_option maxHeartbeats 1000000 in
theorem wcolumn_any (N col gw W : Nat) (B : Int) (M0 : Tb) (z : Zt) (L : List It) (s : List Blk) (hS : WS N gw z L s) (hN : N ≤ 4) (hN4 : N ≤ col + 4) (hB : N = col + 4 → B ≤ 13) (hWW : W ≤ 90000) (hc : col < N) (hR : Rn N col B M0 W z L) (w : World) (hK : Kn w (s.map (·.1)) s w) : Calls Try.prog 111 #[.pointer (some ⟨gw, 0, none⟩), .int .i64 (col : Int)] w fun e w' => e = .returned (.tuple #[]) ∧ ∃ s', Kn w (s.map (·.1)) s' w' ∧ ∃ z' L', WS N gw z' L' s' ∧ PI N (col + 1) z' ∧ Cb N (col + 1) z' ∧ EqT N (vt z') (actQ L' M0) ∧ (∀ x ∈ L', fitB N x = true) ∧ L'.length ≤ W + 4 := by
  have hLl := hR.len
  go_enter Try.func111, Try.ntmps111
  refine wk_startF hK.nil' ?_
  refine wk_seq (wk_seq ?_)
  refine wk_region [0, 0, 1, 0] rfl (by kernel_rfl) ?_
  simp only [qy]
  refine rg_move ?_
  simp only [qz]
  refine rg_move ?_
  simp only [qz]
  apply rg_pure (by rfl) (by kernel_rfl)
  case hargs => (simp only [qm, qs, Act.eval]; exact rfl)
  case h => exact fun w hw => wexpo_any N col gw z L s hS (by omega) (by omega) hc w (Kn.self hw)
  case hz => exact (fun _ h => by cases h)
  simp only [qz]
  refine rg_assign ?_
  simp only [qz]
  refine rg_nil (ek_next (wk_block ?_))
  refine wk_loopF [4, 11, 12, 13, 14, 15, 16, 17, 18, 19] (fun mz f s => ∃ (y : Zt) (M : List It) (uV : List Blk), f 4 = .int .i64 (expZ y col (N - col)) ∧ s = (uV ++ []) ∧ mz = muZ N col y ∧ WS N gw y M uV ∧ Rn N col B M0 W y M) ((fun (y : Zt) (M : List It) (uV : List Blk) => muZ N col y) (z) (L) (s)) ?_ (by kernel_rfl) ?_
  · exact ⟨z, L, s, rfl, rfl, rfl, hS, hR⟩
  rintro mz f1 s ⟨y, M, uV, hs1_4, rfl, hn, hd1, hd2⟩
  simp only [Act.putF, List.foldl_cons, List.foldl_nil, hs1_4, Act.put, Act.eval, q1, q2, q3, q4, q5, q6, q7, q8, q9, q10, q11, q12, q13, q14, q15, q16, q17, q18, Nat.reduceAdd, Bool.not_true, Bool.not_false]
  clear hs1_4
  have hW := hd1
  have hRn := hd2
  clear hd1 hd2
  have hML := hRn.len
  refine wk_seq (wk_seq ?_)
  refine wk_region [0, 0] rfl (by kernel_rfl) ?_
  simp only [qy]
  refine rg_move ?_
  simp only [qz]
  refine rfb_gtr rfl rfl rfl rfl ?_
  intro x h1
  cases x
  · (try simp only [qd, ne_eq] at h1)
    simp only [qz]
    refine rg_nil (ek_next (wk_cond_f rfl (wk_exit (ek_then_exit (ek_then_exit (ek_block_exit (ek_next (wk_seq ?_))))))))
    obtain ⟨a, hca, haN, hane, hzer⟩ := hRn.unit hc (by omega)
    obtain ⟨go, oc, ro, rs, ia, ic, u, hse, hrl, hoc, hlen, hval, hO, hok⟩ := hW.open_
    rw [hse]
    refine wk_region [0, 0] rfl (by kernel_rfl) ?_
    simp only [qy]
    refine rg_move ?_
    simp only [qz]
    refine rg_assign ?_
    simp only [qz]
    refine rg_nil (ek_next (wk_seq (wk_block ?_)))
    refine wk_loopF [5, 21, 22, 23, 24, 25, 26, 27, 28, 29, 30, 31, 32, 33, 34] (fun mz f s => ∃ (i : Nat), f 5 = .int .i64 i ∧ s = ((gw, .cells #[.slice (some ⟨go, 0, none⟩) N oc, .slice ia M.length ic] 131) :: ((go, .cells (rwV N rs ++ ro).toArray 36) :: (rwB rs ++ (u ++ [])))) ∧ mz = N - i ∧ col ≤ i ∧ i ≤ a) ((fun (i : Nat) => N - i) (col)) ?_ (by kernel_rfl) ?_
    · exact ⟨col, rfl, rfl, rfl, by omega, hca⟩
    rintro mz f2 s ⟨i, hs2_5, rfl, hn, he1, he2⟩
    simp only [Act.putF, List.foldl_cons, List.foldl_nil, hs2_5, Act.put, Act.eval, q1, q2, q3, q4, q5, q6, q7, q8, q9, q10, q11, q12, q13, q14, q15, q16, q17, q18, Nat.reduceAdd, Bool.not_true, Bool.not_false]
    clear hs2_5
    obtain ⟨⟨b1, c1, l1, r1⟩, hx1⟩ : ∃ x, rs[i]? = some x := ⟨rs[i]'(by omega), List.getElem?_eq_getElem (by omega)⟩
    have hl1 : l1.length = N := hlen ⟨b1, c1, l1, r1⟩ (List.mem_of_getElem? hx1)
    have hz1 : nm l1 col = y (i) col := hval _ _ hx1 col hc
    refine wk_seq (wk_seq ?_)
    refine wk_region [0, 0, 0, 0, 0, 0, 0, 0, 0, 0, 0, 0] rfl (by kernel_rfl) ?_
    simp only [qy]
    refine rg_move ?_
    simp only [qz]
    apply rg_soft
    case hy => (intro w hw; go_simp; (try go_bits); exact Yld.mk _ _)
    simp only [qz]
    refine rf_field (n := 0) (j := 0) rfl rfl rfl Try.underlying131 rfl (by kernel_rfl) rfl ?_
    simp only [qz]
    refine rf_load rfl rfl rfl Try.underlying129 rfl (fun w hw => (Kn.hd0 hw).at rfl) ?_
    simp only [qz]
    refine rg_move ?_
    simp only [qz]
    refine rf_indexS (n := i) (sz := 1) (j := i) rfl rfl rfl rfl Try.underlying129 (by kernel_rfl) (by omega) (by omega) (by omega) ?_
    simp only [qz]
    refine rf_load (v := .slice (some ⟨b1, 0, none⟩) N c1) rfl rfl rfl Try.underlying36 rfl (fun w hw => Kn.outer (Kn.tl hw) (hx1)) ?_
    simp only [qz]
    refine rg_move ?_
    simp only [qz]
    refine rf_indexS (n := col) (sz := 5) (j := 0 + col * 5) rfl rfl rfl rfl Try.underlying36 (by kernel_rfl) (by omega) (by omega) rfl ?_
    simp only [qz]
    refine rf_loadC (n := 5) (vs := [.int .i64 (y i col).a, .int .i64 (y i col).b, .int .i64 (y i col).c, .int .i64 (y i col).d, .int .i64 (y i col).k]) rfl rfl rfl Try.underlying45 rfl (by kernel_rfl) rfl (fun w hw => atN_range (by have := Kn.row (Kn.tl (Kn.tl hw)) hx1 (k := col) (by rw [hl1]; exact hc); rw [hz1] at this; exact this)) ?_
    simp only [qz]
    refine rf_build (cs := fun a => #[.int .i64 0, .int .i64 0, .int .i64 0, .int .i64 0, .int .i64 0]) rfl rfl (by kernel_rfl) ?_
    simp only [qz]
    refine rfb_eqN (y i col) (Nm.zero) rfl rfl rfl rfl ?_
    intro x h2
    cases x
    · (try simp only [qd, ne_eq] at h2)
      simp only [qz]
      refine rg_nil (ek_next (wk_cond_f rfl (wk_exit (ek_then_exit (ek_then_exit (ek_block_exit (ek_next (wk_seq ?_))))))))
      obtain rfl : i = a := Decidable.byContradiction fun hn => h2 (hzer i (by omega) hn)
      rw [← hse]
      refine wk_region [0, 0, 0, 1] rfl (by kernel_rfl) ?_
      simp only [qy]
      refine rg_move ?_
      simp only [qz]
      refine rg_move ?_
      simp only [qz]
      refine rg_move ?_
      simp only [qz]
      refine rg_eff (T := fun uY => WS N gw (bsZ i y (i - col)) (M ++ bsL i (i - col)) uY) (vb := uV) (rest := []) (by rfl) (by kernel_rfl) (by simp only [qm, qs, Act.eval]; try rfl) (List.Perm.refl _) (fun w hw => wbeside_any N i col gw y M uV hW (by omega) (by omega) hca haN w hw) (fun uY hTuY => ?_)
      simp only [qz]
      refine rg_nil (ek_next (wk_seq ?_))
      obtain ⟨hpi, hbnd, hact, hfit, hlen3, hun, hz0⟩ := hRn.beside hN hc hca haN hane (by omega)
      obtain ⟨go2, oc2, ro2, rs2, ia2, ic2, u2, hse2, hrl2, hoc2, hlen2, hval2, hO2, hok2⟩ := hTuY.open_
      rw [hse2]
      refine wk_region [0, 0, 1, 1] rfl (by kernel_rfl) ?_
      simp only [qy]
      refine rf_build (cs := fun a => #[a.eval (.const (.int .i64 1)), .int .i64 0, .int .i64 0, .int .i64 0]) rfl rfl (by kernel_rfl) ?_
      simp only [qz]
      refine rf_build (cs := fun a => #[cellAt (a.eval (.tmp 39)) 0, cellAt (a.eval (.tmp 39)) 1, cellAt (a.eval (.tmp 39)) 2, cellAt (a.eval (.tmp 39)) 3, .int .i64 0]) rfl rfl (by kernel_rfl) ?_
      simp only [qz]
      refine rg_new (cs := ?_) (ty := ?_) (by rfl) (fun w => ?_) (fun _ h => by cases h) (fun g1 => ?_); rotate_left 2
      focus (go_simp; rfl)
      simp only [qz]
      refine rf_storeR (n := 5) rfl rfl (by kernel_rfl) rfl rfl (UpdR.here _ _ _ (Nat.le_of_ble_eq_true rfl)) (fun _ h => by cases h) ?_
      simp only [qz, Nat.reduceAdd]
      refine rg_nil (ek_next (wk_seq ?_))
      refine wk_region [0] rfl (by kernel_rfl) ?_
      simp only [qy]
      refine rg_move ?_
      simp only [qz]
      refine rg_nil (ek_next (wk_block ?_))
      refine wk_loopF [7, 41, 42, 43, 44, 45, 46, 47, 48, 49, 50, 51, 52, 53, 54, 55, 56, 57, 58, 59, 60, 61, 62, 63, 64, 65] (fun mz f s => ∃ (n : Nat), f 41 = .int .i64 n ∧ s = ((g1, .cells #[.int .i64 1, .int .i64 0, .int .i64 0, .int .i64 0, .int .i64 0] 45) :: ((gw, .cells #[.slice (some ⟨go2, 0, none⟩) N oc2, .slice ia2 (M ++ bsL i (i - col)).length ic2] 131) :: ((go2, .cells (rwV N rs2 ++ ro2).toArray 36) :: (rwB rs2 ++ (u2 ++ []))))) ∧ mz = 8 - n ∧ n ≤ 8 ∧ (∀ j, j < n → turnM j (bsZ i y (i - col) col col) ≠ Nm.one)) ((fun (n : Nat) => 8 - n) (0)) ?_ (by kernel_rfl) ?_
      · exact ⟨0, rfl, rfl, rfl, by omega, (fun j y1 => absurd y1 (by omega))⟩
      rintro mz f3 s ⟨n, hs3_41, rfl, hn, hx1, hx2⟩
      simp only [Act.putF, List.foldl_cons, List.foldl_nil, hs3_41, Act.put, Act.eval, q1, q2, q3, q4, q5, q6, q7, q8, q9, q10, q11, q12, q13, q14, q15, q16, q17, q18, Nat.reduceAdd, Bool.not_true, Bool.not_false]
      clear hs3_41
      refine wk_seq ?_
      refine wk_region [0] rfl (by kernel_rfl) ?_
      simp only [qy]
      refine rfb_lss rfl rfl rfl rfl ?_
      intro x h3
      cases x
      · (try simp only [qd, ne_eq] at h3)
        simp only [qz]
        refine rg_nil (ek_next (wk_seq (wk_cond_f rfl (wk_exit (ek_then_exit (ek_then_exit (ek_block_exit ?_)))))))
        exfalso
        obtain ⟨n', hn8, hn1⟩ := hun
        exact hx2 n' (by omega) hn1
      (try simp only [qd, ne_eq] at h3)
      simp only [qz]
      refine rg_nil (ek_next (wk_seq (wk_cond_t rfl (wk_skip (ek_next (wk_seq (wk_block (wk_seq ?_))))))))
      refine wk_region [0, 0] rfl (by kernel_rfl) ?_
      simp only [qy]
      refine rg_move ?_
      simp only [qz]
      refine rg_assign ?_
      simp only [qz]
      refine rg_nil (ek_next (wk_seq ?_))
      obtain ⟨⟨b3, c3, l3, r3⟩, hx3⟩ : ∃ x, rs2[col]? = some x := ⟨rs2[col]'(by omega), List.getElem?_eq_getElem (by omega)⟩
      have hl3 : l3.length = N := hlen2 ⟨b3, c3, l3, r3⟩ (List.mem_of_getElem? hx3)
      have hz3 : nm l3 col = (bsZ i y (i - col)) (col) col := hval2 _ _ hx3 col hc
      have hok3 := hok2 col col (by omega) (by omega)
      refine wk_draws _ _ [(0, 0), (1, 0), (2, 0), (3, 0), (4, 0), (5, 0), (6, 0), (7, 0), (8, 0), (9, 0), (10, 0), (15, 0), (11, 1), (12, 0), (13, 0), (14, 1), (16, 0)] [] (by kernel_rfl) (by kernel_rfl) (fun c d v a w h => by cases d <;> exact h) ((sc _ (sc _ (sc _ (List.Sublist.append_left (List.Sublist.append_left sn _) _))))) (fun e => by first | exact absurd e (by decide) | rfl) ?_
      simp only [List.map_cons, List.map_nil, List.getD_cons_zero, List.getD_cons_succ]
      refine rg_move ?_
      simp only [qz]
      apply rg_soft
      case hy => (intro w hw; go_simp; (try go_bits); exact Yld.mk _ _)
      simp only [qz]
      refine rf_field (n := 0) (j := 0) rfl rfl rfl Try.underlying131 rfl (by kernel_rfl) rfl ?_
      simp only [qz]
      refine rf_load rfl rfl rfl Try.underlying129 rfl (fun w hw => (Kn.hd0 (Kn.tl hw)).at rfl) ?_
      simp only [qz]
      refine rg_move ?_
      simp only [qz]
      refine rf_indexS (n := col) (sz := 1) (j := col) rfl rfl rfl rfl Try.underlying129 (by kernel_rfl) (by omega) (by omega) (by omega) ?_
      simp only [qz]
      refine rf_load (v := .slice (some ⟨b3, 0, none⟩) N c3) rfl rfl rfl Try.underlying36 rfl (fun w hw => Kn.outer (Kn.tl (Kn.tl hw)) (hx3)) ?_
      simp only [qz]
      refine rg_move ?_
      simp only [qz]
      refine rf_indexS (n := col) (sz := 5) (j := 0 + col * 5) rfl rfl rfl rfl Try.underlying36 (by kernel_rfl) (by omega) (by omega) rfl ?_
      simp only [qz]
      refine rf_loadC (n := 5) (vs := [.int .i64 (bsZ i y (i - col) col col).a, .int .i64 (bsZ i y (i - col) col col).b, .int .i64 (bsZ i y (i - col) col col).c, .int .i64 (bsZ i y (i - col) col col).d, .int .i64 (bsZ i y (i - col) col col).k]) rfl rfl rfl Try.underlying45 rfl (by kernel_rfl) rfl (fun w hw => atN_range (by have := Kn.row (Kn.tl (Kn.tl (Kn.tl hw))) hx3 (k := col) (by rw [hl3]; exact hc); rw [hz3] at this; exact this)) ?_
      simp only [qz]
      refine rg_move ?_
      simp only [qz]
      refine rf_loadR (n := 5) rfl rfl rfl Try.underlying45 rfl (by kernel_rfl) (fun w hw => Kn.hd0 hw) rfl rfl ?_
      simp only [qz]
      apply rg_pure (by rfl) (by kernel_rfl)
      case hargs => (simp only [qm, qs, Act.eval]; exact rfl)
      case h => exact fun w hw => amTurnM (bsZ i y (i - col) col col) n (by omega) hok3 w
      case hz => exact (fun _ h => by cases h; exact (sc _ (sc _ (sc _ (List.Sublist.append_left (List.Sublist.append_left sn _) _)))))
      simp only [qz]
      refine rf_extract rfl rfl rfl rfl ?_
      simp only [qz]
      refine rf_extract rfl rfl rfl rfl ?_
      simp only [qz]
      apply rg_pure (by rfl) (by kernel_rfl)
      case hargs => (simp only [qm, qs, Act.eval]; exact rfl)
      case h => exact fun w hw => must_any (turnM n (bsZ i y (i - col) col col)) 0 w
      case hz => exact (fun _ h => by cases h; exact (sc _ (sc _ (sc _ (List.Sublist.append_left (List.Sublist.append_left sn _) _)))))
      simp only [qz]
      refine rfb_eqN (turnM n (bsZ i y (i - col) col col)) (Nm.one) rfl rfl rfl rfl ?_
      intro x h4
      cases x
      · (try simp only [qd, ne_eq] at h4)
        simp only [qz]
        refine rg_nil (ek_next (wk_cond_f rfl (wk_skip (ek_block (ek_next ?_)))))
        refine wk_region [0, 0] rfl (by kernel_rfl) ?_
        simp only [qy]
        refine rf_add rfl rfl rfl rfl (wrap_ok (by omega) (by omega)) ?_
        simp only [qz]
        refine rg_move ?_
        simp only [qz]
        refine rg_nil ?_
        refine ek_roundF (8 - (n + 1)) (by omega) (by kernel_rfl) ?_
        exact ⟨n + 1, rfl, by rfl, by rfl, by omega, (fun j y1 => if e : j = n then e ▸ h4 else hx2 j (by omega))⟩
      (try simp only [qd, ne_eq] at h4)
      simp only [qz]
      refine rg_nil (ek_next (wk_cond_t rfl (wk_seq ?_)))
      rw [← hse2]
      refine wk_region [0, 0, 0, 1] rfl (by kernel_rfl) ?_
      simp only [qy]
      refine rg_move ?_
      simp only [qz]
      refine rg_move ?_
      simp only [qz]
      refine rg_move ?_
      simp only [qz]
      refine rg_eff (T := fun uZ => WS N gw (phZ col n (bsZ i y (i - col))) (if n = 0 then (M ++ bsL i (i - col)) else (M ++ bsL i (i - col)) ++ [phsI ((col : Int) + 1) n]) uZ) (vb := uY) (rest := [(g1, .cells #[.int .i64 1, .int .i64 0, .int .i64 0, .int .i64 0, .int .i64 0] 45)]) (by rfl) (by kernel_rfl) (by simp only [qm, qs, Act.eval]; try rfl) (perm_atU (l := [_]) (u := uY) (List.Perm.refl _)) (fun w hw => wphase_any N col gw (bsZ i y (i - col)) (M ++ bsL i (i - col)) uY hTuY (by omega) (by omega) hc n n (by omega) w hw) (fun uZ hTuZ => ?_)
      simp only [qz]
      refine rg_nil (ek_next (wk_ret (ek_block_ret (ek_then_ret (ek_then_ret (ek_block_ret ?_))))))
      refine ek_sub (List.Sublist.append_left (sk _ sn) _) ?_
      refine ek_ret (fun w hw => ⟨rfl, _, res_0 rfl, ?_⟩)
      (try simp only [qz])
      obtain ⟨r1, r2, r3, r4, r5⟩ := Rn.last hN4 hB hc hpi hbnd hact hfit (show n < 8 by omega) h4 hz0
      exact ⟨(by first | rfl | trivial), _, hw.of_nil, _, _, hTuZ, r1, r2, r3, r4, by omega⟩
    (try simp only [qd, ne_eq] at h2)
    simp only [qz]
    refine rg_nil (ek_next (wk_cond_t rfl (wk_skip (ek_next (wk_block ?_)))))
    refine wk_region [0, 0, 0] rfl (by kernel_rfl) ?_
    simp only [qy]
    refine rg_move ?_
    simp only [qz]
    refine rf_add rfl rfl rfl rfl (wrap_ok (by omega) (by omega)) ?_
    simp only [qz]
    refine rg_assign ?_
    simp only [qz]
    refine rg_nil (ek_block ?_)
    refine ek_roundF (N - (i + 1)) (by omega) (by kernel_rfl) ?_
    exact ⟨i + 1, rfl, by rfl, by rfl, by omega, (by rcases (by omega : i = a ∨ i < a) with e | e; exact absurd (e ▸ h2) hane; omega)⟩
  (try simp only [qd, ne_eq] at h1)
  simp only [qz]
  refine rg_nil (ek_next (wk_cond_t rfl (wk_skip (ek_next (wk_seq (wk_block ?_))))))
  refine wk_region [0, 0, 0, 1] rfl (by kernel_rfl) ?_
  simp only [qy]
  refine rg_move ?_
  simp only [qz]
  refine rg_move ?_
  simp only [qz]
  refine rg_move ?_
  simp only [qz]
  obtain ⟨K, hKe⟩ : ∃ K : Nat, expZ y col (N - col) = K := ⟨(expZ y col (N - col)).toNat, by omega⟩
  have hEx := expZ_exp (N := N) (z := y) (show col ≤ N by omega)
  refine rg_eff (T := fun uX => ∃ y2 M2, WS N gw y2 M2 uX ∧ PairR N col (expZ y col (N - col)) y M y2 M2) (vb := uV) (rest := []) (by rfl) (by kernel_rfl) (by simp only [qm, qs, Act.eval]; try rfl) (List.Perm.refl _) (fun w hw => wpair_any N col gw (expZ y col (N - col)) y M uV hW (by omega) (by omega) hc w hw) (fun uX hTuX => ?_)
  simp only [qz]
  obtain ⟨y2, M2, hW2, hP2⟩ := hTuX
  rw [hKe] at hP2 hEx
  have hR2 := hRn.pair hN hc (by omega) hEx hP2
  refine rg_nil (ek_block (ek_next ?_))
  refine wk_region [0, 0, 1, 0] rfl (by kernel_rfl) ?_
  simp only [qy]
  refine rg_move ?_
  simp only [qz]
  refine rg_move ?_
  simp only [qz]
  apply rg_pure (by rfl) (by kernel_rfl)
  case hargs => (simp only [qm, qs, Act.eval]; exact rfl)
  case h => exact fun w hw => wexpo_any N col gw y2 M2 uX hW2 (by omega) (by have := hR2.1.len; omega) hc w (Kn.self hw)
  case hz => exact (fun _ h => by cases h)
  simp only [qz]
  refine rg_assign ?_
  simp only [qz]
  refine rg_nil ?_
  refine ek_roundF (muZ N col y2) (by have := hR2.2; omega) (by kernel_rfl) ?_
  exact ⟨y2, M2, uX, rfl, by rfl, by rfl, hW2, hR2.1⟩

end Go.Proofs.Ytccbinnlnkpplaa
namespace Go.Proofs.Ytccbinnlnkpplaa
set_option linter.all false
open Go.RowKit

theorem dag_k {N : Nat} {xs zs : List Nm} (hv : validB N xs = true) (hz : validB N zs = true) (ht : ∀ i k, i < N → k < N → tb N zs i k = Q4.conj (tb N xs k i)) {i k : Nat} (hi : i < N) (hk : k < N) : (nm zs (i * N + k)).k ≤ expo xs := by
  obtain ⟨N', e, h1, h6, hx, -, ho⟩ := validB_true hv
  obtain rfl : N' = N := by omega
  obtain ⟨N'', e2, -, -, -, -, ho2⟩ := validB_true hz
  have o1 : (nm xs (k * N' + i)).Ok := nm_okA ho _
  have o2 : (nm zs (i * N' + k)).Ok := nm_okA ho2 _
  have h := ht i k hi hk
  unfold tb at h
  rw [← val_conj] at h
  rw [val_ok o2 (conj_ok o1) h]
  show (nm xs (k * N' + i)).k ≤ _
  refine (expo_ok ho).2.2 _ (NmE.at_mem ?_)
  rw [hx]
  exact ix_lt hk hi
theorem cb_start {N : Nat} {z : Zt} {K : Int} (hN : N ≤ 4) (h1 : 1 ≤ N) (hK : K ≤ mostN N) (hz : ∀ i k, i < N → k < N → (z i k).k ≤ K) : Cb N 0 z := by
  rcases (by omega : N = 1 ∨ N = 2 ∨ N = 3 ∨ N = 4) with rfl | rfl | rfl | rfl
  · exact .inl (by omega)
  · exact .inl (by omega)
  · exact .inr ⟨12, .inl ⟨rfl, by omega⟩, fun i k _ hi hk => by have := hz i k hi hk; have e : mostN 3 = 12 := rfl; omega⟩
  exact .inr ⟨4, .inr ⟨rfl, by omega⟩, fun i k _ hi hk => by have := hz i k hi hk; have e : mostN 4 = 4 := rfl; omega⟩
set_option maxRecDepth 100000 in
set_option maxHeartbeats 1000000 in
theorem prog_yes (N : Nat) (xs : List Nm) (a : Option Addr) (c : Nat) (hl : xs.length ≤ 1000000) (hv : Hid (validB (N : Int) xs = true)) (hN : ¬ (N : Int) > 4) (hk : ¬ expo xs > mostN N) (hu : Hid (unB (N : Int) xs = true)) (w : World) (hA : AS w a (nms xs)) : Calls Try.prog 59 #[.agg #[.int .i64 N, .slice a xs.length c]] w fun e w' => ∃ L, ProgL N xs L ∧ RetS w L 0 e w' := by
  have hex : Hid (expR (N : Int) xs = (expo xs, 0)) := Lib.hid (by unfold expR; rw [hv.out, if_pos rfl])
  obtain ⟨-, hN1, hN6', hxl⟩ : True ∧ 1 ≤ N ∧ N ≤ 6 ∧ xs.length = N * N := by
    obtain ⟨N', e, h1, h6, hx, -⟩ := validB_true hv.out
    obtain rfl : N' = N := by omega
    exact ⟨trivial, h1, h6, hx⟩
  obtain ⟨zs, hdg, hzv, hzt⟩ := dagM_ok (N := N) hv.out
  obtain ⟨-, hzl, hzo⟩ : True ∧ zs.length = N * N ∧ allOk zs = true := by
    obtain ⟨N', e, -, -, hx, -, ho⟩ := validB_true hzv
    obtain rfl : N' = N := by omega
    exact ⟨trivial, hx, ho⟩
  have hz36 : zs.length ≤ 36 := by rw [hzl]; exact Nat.mul_le_mul hN6' hN6'
  have hz1 : 1 ≤ zs.length := by rw [hzl]; exact Nat.mul_le_mul hN1 hN1
  replace hzl := Lib.hid hzl
  replace hxl := Lib.hid hxl
  replace hdg := Lib.hid hdg
  refine calls_marks Try.func59 rfl ?_
  simp only [Try.ntmps59, List.size_toArray, List.length_cons, List.length_nil, Nat.reduceAdd, Nat.reduceSub, Array.replicate_succ, Array.replicate_zero, List.push_toArray, List.append_toArray, List.nil_append, List.cons_append]
  refine wk_seq ?_
  refine wk_region [1, 0, 0] rfl (by kernel_rfl) ?_
  simp only [qy]
  refine rg_new (cs := ?_) (ty := ?_) (by rfl) (fun w => ?_) (fun _ h => by cases h) (fun g1 => ?_); rotate_left 2
  focus (go_simp; rfl)
  simp only [qz]
  refine rg_assign ?_
  simp only [qz]
  refine rg_assign ?_
  simp only [qz]
  refine rg_nil (ek_next (wk_seq (wk_seq ?_)))
  refine wk_region [0, 1, 0] rfl (by kernel_rfl) ?_
  simp only [qy]
  refine rf_loadR (n := 2) rfl rfl rfl Try.underlying38 rfl (by kernel_rfl) (fun w hw => Kn.hd0 hw) rfl rfl ?_
  simp only [qz]
  apply rg_pure (by rfl) (by kernel_rfl)
  case hargs => (simp only [qm, qs, Act.eval]; exact rfl)
  case h => exact fun w hw => by have := mvalid_any (N : Int) xs a c hl w (hA.kn0 hw); rw [hv.out] at this; exact this
  case hz => exact (fun _ h => by cases h)
  simp only [qz]
  refine rf_not rfl rfl rfl ?_
  simp only [qz]
  refine rg_nil (ek_next (wk_cond_f rfl (wk_skip (ek_next (wk_seq ?_)))))
  refine wk_region [0, 1, 0, 0, 0, 0, 0] rfl (by kernel_rfl) ?_
  simp only [qy]
  refine rf_loadR (n := 2) rfl rfl rfl Try.underlying38 rfl (by kernel_rfl) (fun w hw => Kn.hd0 hw) rfl rfl ?_
  simp only [qz]
  apply rg_pure (by rfl) (by kernel_rfl)
  case hargs => (simp only [qm, qs, Act.eval]; exact rfl)
  case h => exact fun w hw => by have := mExponent_any (N : Int) xs a c hl w (hA.kn0 hw); rw [hex.out] at this; exact this
  case hz => exact (fun _ h => by cases h)
  simp only [qz]
  refine rg_move ?_
  simp only [qz]
  refine rf_extract rfl rfl rfl rfl ?_
  simp only [qz]
  refine rf_extract rfl rfl rfl rfl ?_
  simp only [qz]
  refine rg_assign ?_
  simp only [qz]
  refine rg_assign ?_
  simp only [qz]
  refine rg_nil (ek_next (wk_seq (wk_seq ?_)))
  refine wk_region [0, 0, 0, 0, 0, 0, 0, 1, 0, 0] rfl (by kernel_rfl) ?_
  simp only [qy]
  refine rf_field (n := 0) (j := 0) rfl rfl rfl Try.underlying38 rfl (by kernel_rfl) rfl ?_
  simp only [qz]
  refine rf_load rfl rfl rfl Try.underlying3 rfl (fun w hw => (Kn.hd0 hw).at rfl) ?_
  simp only [qz]
  refine rfb_gtr rfl rfl rfl rfl ?_
  intro x h1
  obtain rfl : x = false := by (refine h1.symm.trans ?_; exact decide_eq_false (by omega))
  clear h1
  simp only [qz]
  refine rg_move ?_
  simp only [qz]
  apply rg_soft_g
  case hg => rfl
  case hy => (intro w hw; go_simp; (try go_bits); exact Yld.mk _ _)
  simp only [qz]
  refine rf_field (n := 0) (j := 0) rfl rfl rfl Try.underlying38 rfl (by kernel_rfl) rfl ?_
  simp only [qz]
  refine rf_load rfl rfl rfl Try.underlying3 rfl (fun w hw => (Kn.hd0 hw).at rfl) ?_
  simp only [qz]
  apply rg_pure (by rfl) (by kernel_rfl)
  case hargs => (simp only [qm, qs, Act.eval]; exact rfl)
  case h => exact fun w hw => most_any N (by omega) w
  case hz => exact (fun _ h => by cases h)
  simp only [qz]
  refine rfb_gtr rfl rfl rfl rfl ?_
  intro x h2
  obtain rfl : x = false := by (refine h2.symm.trans ?_; exact decide_eq_false (by omega))
  clear h2
  simp only [qz]
  refine rf_pick rfl rfl rfl ?_
  simp only [qz]
  refine rg_nil (ek_next (wk_cond_f rfl (wk_skip (ek_next (wk_seq (wk_seq ?_))))))
  refine wk_region [0, 1, 0, 0, 0, 0, 0] rfl (by kernel_rfl) ?_
  simp only [qy]
  refine rf_loadR (n := 2) rfl rfl rfl Try.underlying38 rfl (by kernel_rfl) (fun w hw => Kn.hd0 hw) rfl rfl ?_
  simp only [qz]
  apply rg_pure (by rfl) (by kernel_rfl)
  case hargs => (simp only [qm, qs, Act.eval]; exact rfl)
  case h => exact fun w hw => sunitary_yes (N : Int) xs a c hl hv hu w (hA.kn0 hw)
  case hz => exact (fun _ h => by cases h)
  simp only [qz]
  refine rg_move ?_
  simp only [qz]
  refine rf_extract rfl rfl rfl rfl ?_
  simp only [qz]
  refine rf_extract rfl rfl rfl rfl ?_
  simp only [qz]
  refine rg_assign ?_
  simp only [qz]
  refine rg_assign ?_
  simp only [qz]
  refine rg_nil (ek_next (wk_seq ?_))
  refine wk_region [0, 0] rfl (by kernel_rfl) ?_
  simp only [qy]
  refine rg_move ?_
  simp only [qz]
  refine rf_neq (b := false) rfl rfl rfl rfl (by decide) ?_
  simp only [qz]
  refine rg_nil (ek_next (wk_cond_f rfl (wk_skip (ek_next (wk_seq ?_)))))
  refine wk_region [0, 1, 0, 0, 0, 1, 1, 0] rfl (by kernel_rfl) ?_
  simp only [qy]
  refine rf_loadR (n := 2) rfl rfl rfl Try.underlying38 rfl (by kernel_rfl) (fun w hw => Kn.hd0 hw) rfl rfl ?_
  simp only [qz]
  apply (rg_retM (n := (N : Int)) (zs := zs) (c := 0)) (by rfl) (by kernel_rfl)
  case hargs => (simp only [qm, qs, Act.eval]; exact rfl)
  case h => exact fun w hw => by have := mdagger_any (N : Int) xs a c hl w (hA.kn0 hw); rw [hdg.out, Int.toNat_natCast] at this; exact this
  case hz => exact (fun _ h => by cases h)
  intro va2 vc2 u2 hO2
  simp only [qz]
  refine rg_move ?_
  simp only [qz]
  refine rf_extract rfl rfl rfl rfl ?_
  simp only [qz]
  refine rf_extract rfl rfl rfl rfl ?_
  simp only [qz]
  refine rg_new (cs := ?_) (ty := ?_) (by rfl) (fun w => ?_) (fun _ h => by cases h) (fun g3 => ?_); rotate_left 2
  focus (go_simp; rfl)
  simp only [qz]
  refine rf_storeR (n := 2) rfl rfl (by kernel_rfl) rfl rfl (UpdR.here _ _ _ (Nat.le_of_ble_eq_true rfl)) (fun _ h => by cases h) ?_
  simp only [qz, Nat.reduceAdd]
  refine rg_assign ?_
  simp only [qz]
  refine rg_nil (ek_next (wk_seq ?_))
  obtain ⟨bz, cz, rz, hu, hvo, hco1, hco2, hco3⟩ := hO2.openM (by omega)
  subst hu
  cases hvo
  simp only [List.cons_append, List.nil_append]
  refine wk_region [0, 1, 1, 1] rfl (by kernel_rfl) ?_
  simp only [qy]
  refine rf_build (cs := fun a => #[.slice none 0 0, .slice none 0 0]) rfl rfl (by kernel_rfl) ?_
  simp only [qz]
  refine rg_new (cs := ?_) (ty := ?_) (by rfl) (fun w => ?_) (fun _ h => by cases h) (fun g4 => ?_); rotate_left 2
  focus (go_simp; rfl)
  simp only [qz]
  refine rg_new (cs := ?_) (ty := ?_) (by rfl) (fun w => ?_) (fun _ h => by cases h) (fun g5 => ?_); rotate_left 2
  focus (go_simp; rfl)
  simp only [qz]
  refine rf_store rfl rfl (by kernel_rfl) rfl rfl (UpdR.here _ _ _ (Nat.le_of_ble_eq_true rfl)) (fun _ h => by cases h) ?_
  simp only [qz]
  refine rg_nil (ek_next (wk_seq (wk_seq ?_)))
  refine wk_region [0, 0, 0, 0, 1] rfl (by kernel_rfl) ?_
  simp only [qy]
  refine rf_field (n := 0) (j := 1) rfl rfl rfl Try.underlying38 rfl (by kernel_rfl) rfl ?_
  simp only [qz]
  refine rf_load rfl rfl rfl Try.underlying36 rfl (fun w hw => (Kn.hd0 (Kn.tl (Kn.tl hw))).at rfl) ?_
  simp only [qz]
  refine rf_field (n := 0) (j := 0) rfl rfl rfl Try.underlying38 rfl (by kernel_rfl) rfl ?_
  simp only [qz]
  refine rf_load rfl rfl rfl Try.underlying3 rfl (fun w hw => (Kn.hd0 (Kn.tl (Kn.tl (Kn.tl (Kn.tl hw))))).at rfl) ?_
  simp only [qz]
  apply rg_made (T := fun v u => ∃ gs gn, v = .func (.func 154) #[] #[.pointer (some ⟨gs, 0, none⟩), .pointer (some ⟨gn, 0, none⟩)] ∧ u = [(gn, .cells #[.int .i64 N] 3), (gs, .cells #[.slice (some ⟨bz, 0, none⟩) zs.length vc2] 36)]) (by rfl) (by kernel_rfl)
  case hargs => (simp only [qm, qs, Act.eval]; exact rfl)
  case h => exact fun w hw => (chunk_any N bz zs.length vc2 hN1 w).mono (fun e w' ⟨gs, gn, he, hm⟩ => ⟨_, _, he, ⟨gs, gn, rfl, rfl⟩, hm⟩)
  case hz => exact (fun _ h => by cases h)
  rintro v1 u1 ⟨gs, gn, rfl, rfl⟩
  simp only [List.cons_append, List.nil_append]
  simp only [qz]
  refine rg_nil (ek_next (wk_block ?_))
  refine wk_rangeFunc (f := 154) (caps := #[.pointer (some ⟨gs, 0, none⟩), .pointer (some ⟨gn, 0, none⟩)]) rfl (by kernel_rfl) ?_
  intro fn dd lp w1 K1
  obtain ⟨r, hr⟩ := exl_loop K1
  rw [← hr] at K1
  have K2 := K1.perm ((perm_at (l := [_, _, _]) (perm_at (l := [_, _, _]) (perm_at (l := [_, _, _, _]) (perm_at (l := [_, _]) (perm_at (l := [_]) (List.Perm.refl _)))))).cons _)
  have K3 := Kn.self (v := [_, _, _, _, _, _]) (rest := [_, _, _]) K2
  have hR : RoundsK N bz lp r (ChC N lp g5 g4 bz r zs rz) := by
    subst hr
    refine ⟨rfl, fun j s ⟨ra, rc, rs, uo, e, _⟩ => by subst e; simp, ?_⟩
    intro R B F j i s rest w hj hi ⟨ra, rc, rs, uo, hs, hOw, hrl, hrv⟩ K
    subst hs
    simp only [List.cons_append, List.append_assoc, List.nil_append] at K
    have hij : i + N ≤ zs.length := by
      have := Nat.mul_le_mul_right N (show j + 1 ≤ N by omega)
      rw [Nat.add_mul, Nat.one_mul, ← hi, ← hzl.out] at this
      exact this
    replace hi := Lib.hid hi
    refine roundIn_kn (Rep.here _) rfl ?_ K
    simp only [fold_zipK]
    simp only [qz]
    refine wk_region [0] rfl (by kernel_rfl) ?_
    simp only [qy]
    refine rg_assign ?_
    simp only [qz]
    refine rg_nil ?_
    refine ek_asg ?_
    refine wk_block ?_
    refine wk_drawsR _ _ [(0, 0), (1, 0), (2, 0), (3, 0), (4, 0), (5, 0), (6, 1), (7, 1), (8, 1), (9, 3), (10, 0), (11, 2)] [11] (by kernel_rfl) (by kernel_rfl) (fun c d v a w h => by cases d <;> exact h) ((sc _ (sc _ (sc _ (sc _ (List.Sublist.append_left ((List.Sublist.refl _).trans (List.sublist_append_right _ _)) _)))))) (fun e => by first | exact absurd e (by decide) | rfl) (by rfl) ?_ ((sc _ (sc _ (sk _ (sc _ (List.Sublist.append_left (List.Sublist.refl _) _))))))
    simp only [List.map_cons, List.map_nil, List.getD_cons_zero, List.getD_cons_succ]
    refine rf_load rfl rfl rfl Try.underlying128 rfl (fun w hw => (Kn.hd0 (Kn.tl hw)).at rfl) ?_
    simp only [qz]
    refine rf_load rfl rfl rfl Try.underlying128 rfl (fun w hw => (Kn.hd0 (Kn.tl hw)).at rfl) ?_
    simp only [qz]
    apply rg_soft
    case hy => (intro w hw; go_simp; (try go_bits); exact Yld.mk _ _)
    simp only [qz]
    refine rf_field (n := 0) (j := 0) rfl rfl rfl Try.underlying131 rfl (by kernel_rfl) rfl ?_
    simp only [qz]
    refine rf_load rfl rfl rfl Try.underlying129 rfl (fun w hw => (Kn.hd0 (Kn.tl (Kn.tl hw))).at rfl) ?_
    simp only [qz]
    refine rg_move ?_
    simp only [qz]
    apply rg_made (T := fun v u => OwnN u v (chunkL zs i N)) (by rfl) (by kernel_rfl)
    case hargs => (simp only [qm, qs, Act.eval]; exact rfl)
    case h => exact fun w hw => (clonek_any N bz (0 + i * 5) N (chunkL zs i N) (Lib.hid (chunkL_len zs i N)) (by omega) w (chunk_as (Kn.hd0 (Kn.tl (Kn.tl (Kn.tl hw)))) hij)).mono (fun e w' ⟨v, u, he, hO, hm⟩ => ⟨v, u, he, hO, hm⟩)
    case hz => exact (fun _ h => by cases h; exact (sc _ (sc _ (sc _ (sc _ (List.Sublist.append_left ((List.Sublist.refl _).trans (List.sublist_append_right _ _)) _))))))
    intro v2 u2 hO2
    obtain ⟨gr, cr, rr, hu2, hv2, hr1, hr2, hr3⟩ := hO2.openM (by rw [chunkL_len]; omega)
    subst hu2
    rw [chunkL_len] at hv2
    subst hv2
    simp only [List.cons_append, List.nil_append]
    simp only [qz]
    refine rg_newS (cs := ?_) (ty := ?_) (n := 1) (c := 1) (by rfl) (fun w => ?_) (fun _ h => by cases h; exact (sk _ (sc _ (sc _ (sc _ (sc _ (List.Sublist.append_left ((List.Sublist.refl _).trans (List.sublist_append_right _ _)) _))))))) (fun g6 => ?_); rotate_left 2
    focus (go_simp; rfl)
    simp only [qz]
    refine rg_appRow (u := uo) (hs := rwV N rs) (n := j) (h := .slice (some ⟨gr, 0, none⟩) N cr) (by rfl) rfl hOw rfl (by omega) rfl ((((((((((((((((List.Perm.refl _).append_left _).trans (List.perm_append_comm_assoc (rwB rs) uo _)).cons _).trans (List.perm_middle (l₁ := uo)).symm).cons _).trans (List.perm_middle (l₁ := uo)).symm).cons _).trans (List.perm_middle (l₁ := uo)).symm).cons _).trans (List.perm_middle (l₁ := uo)).symm).cons _).trans (List.perm_middle (l₁ := uo)).symm).cons _).trans (List.perm_middle (l₁ := uo)).symm).trans ((List.Perm.refl _).append_left _)) (fun w hw => Kn.hd0 hw) (fun _ h => by cases h; exact (sk _ (sk _ (sc _ (sc _ (sc _ (sc _ (List.Sublist.append_left (List.Sublist.refl _) _)))))))) (fun uP aP cP hOP => ?_)
    simp only [qz]
    apply rg_softP
    case hy => (intro w hw; go_simp; (try go_bits); exact Yld.mk _ _)
    simp only [qz]
    refine rf_field (n := 0) (j := 0) rfl rfl rfl Try.underlying131 rfl (by kernel_rfl) rfl ?_
    simp only [qz]
    refine rf_storeM rfl rfl (by kernel_rfl) rfl rfl (UpdR.app _ (UpdR.there _ (UpdR.there _ (UpdR.there _ (UpdR.there _ (UpdR.here _ _ _ (Nat.le_of_ble_eq_true rfl))))))) ((sk _ (sk _ (sc _ (sc _ (sk _ (sc _ (List.Sublist.append_left (List.Sublist.refl _) _))))))).trans (List.sublist_append_right _ _)) ?_
    simp only [qz]
    refine rg_nil ?_
    refine ek_out ?_
    refine ek_block ?_
    refine ek_perm ((((((((List.Perm.refl _).cons _).trans (List.Perm.swap _ _ _)).cons _).trans (List.Perm.swap _ _ _)).append_left _).trans (List.perm_middle (l₁ := uP))).trans (((((((((List.Perm.refl _).cons _).trans (List.Perm.swap _ _ _)).cons _).trans (List.Perm.swap _ _ _)).append_left _).trans (List.perm_middle (l₁ := uP))).trans (((((((((List.Perm.refl _).cons _).trans (List.Perm.swap _ _ _)).cons _).trans (List.Perm.swap _ _ _)).append_left _).trans (List.perm_middle (l₁ := uP))).trans (((((((((List.Perm.refl _).cons _).trans (List.Perm.swap _ _ _)).cons _).trans (List.Perm.swap _ _ _)).append_left _).trans (List.perm_middle (l₁ := uP))).trans (((((((((List.Perm.refl _).cons _).trans (List.perm_middle (l₁ := (rwB rs))).symm).cons _).trans (List.perm_middle (l₁ := (rwB rs))).symm).append_left _).trans (List.perm_append_comm_assoc uP (rwB rs) _)).trans (((((((List.Perm.refl _).cons _).trans (List.Perm.swap _ _ _)).append_left _).trans (List.perm_middle (l₁ := uP))).trans ((List.Perm.refl _).cons _)).append_left _)).cons _)).cons _)).cons _)).cons _)) ?_
    refine ek_sub (sc _ (sc _ (sc _ (sc _ (List.Sublist.append_left (sc _ (List.Sublist.append_left (sk _ (List.Sublist.refl _)) _)) _))))) ?_
    refine ek_roundEnd (Rep.here _) (fun w hw => ⟨_, rfl, ⟨aP, cP, rs ++ [⟨gr, cr, chunkL zs i N, rr⟩], uP, rfl, (by unfold rwV; rw [List.map_append]; exact hOP), by rw [List.length_append, hrl]; rfl, fun i' q hq => ?_⟩, Kn.to ?_ hw⟩)
    · rcases rw_snoc_get hq with ⟨e1, e2⟩ | h
      · subst e2 e1
        refine ⟨chunkL_len _ _ _, fun k hk => ?_⟩
        show nm (chunkL zs i N) k = _
        rw [chunkL_nm hk, hi.out, hrl]
      · exact hrv i' q h
    · simp only [rwB, RW.blk, List.map_append, List.map_cons, List.map_nil, List.append_assoc, List.cons_append, List.nil_append]
  have hpend : r.pending = none := by subst hr; rfl
  have hst : r.state ≠ .busy := by (subst hr; simp)
  clear hr
  have hC0 : ChC N lp g5 g4 bz r zs rz 0 [(lp, .loop r), (g5, .cells #[.pointer (some ⟨g4, 0, none⟩)] 128), (g4, .cells #[.slice none 0 0, .slice none 0 0] 131), (bz, .cells (NmE.flat zs ++ rz).toArray 45)] := ⟨none, 0, [], [], rfl, Own.nil _ _, rfl, fun i x h => by simp at h⟩
  refine (chunk1_any N zs.length bz vc2 lp gs gn hN1 hN6' hzl hz36 hco1 r _ hR _ _ hC0 w1 K3).mono ?_
  rintro e w2 ⟨rfl, s', ⟨ra, rc, rs, uo, rfl, hOw, hrl, hrv⟩, hK⟩
  have K4 := Kn.effApp (v := [_, _, _, _, _, _]) (rest := [_, _, _]) K2 hK
  simp only [List.cons_append, List.append_assoc, List.nil_append] at K4
  refine ⟨_, _, r, _, rfl, K4, Rep.here _, hst, ?_⟩
  rw [hpend]
  refine ek_block (ek_next (wk_seq (wk_seq ?_)))
  obtain ⟨go, oc, ro, hu, hv', hrl2⟩ := hOw.open1 (by omega)
  subst hu
  cases hv'
  obtain ⟨ao, co, heo, hoc⟩ := Own.val hOw
  cases heo
  simp only [List.cons_append, List.nil_append]
  have hW0 : WS N g4 (fun i k => nm zs (i * N + k)) [] ((g4, .cells #[.slice (some ⟨go, 0, none⟩) N rc, .slice none 0 0] 131) :: (go, .cells (rwV N rs ++ ro).toArray 36) :: (rwB rs ++ ([] ++ [])))   := ⟨go, rc, ro, rs, none, 0, [], rfl, hrl, hoc, fun x hx => (by obtain ⟨i, hi⟩ := List.getElem?_of_mem hx; exact (hrv i x hi).1), fun i x hx k hk => (hrv i x hx).2 k hk, OwnT.nil, fun i k hi hk => nm_okA hzo _⟩
  refine wk_perm (perm_at (l := [_, _]) ((((((((((List.Perm.refl _).append_left _).trans (List.perm_middle (l₁ := (rwB rs)))).cons _).trans (List.Perm.swap _ _ _)).cons _).trans (List.Perm.swap _ _ _)).cons _).trans (List.Perm.swap _ _ _)).trans ((perm_atU (l := [_, _, _]) (u := (rwB rs)) (perm_at (l := [_]) (perm_at (l := [_, _, _, _, _, _]) (perm_at (l := [_, _, _, _]) (List.Perm.refl _))))).cons _))) ?_
  refine wk_sub (sc _ (sc _ (List.Sublist.append_left (sc _ (sc _ (sc _ (sk _ (sk _ (sk _ (sk _ (sk _ sn)))))))) _))) ?_
  have hpi0 : PI N 0 (fun i k => nm zs (i * N + k)) := ⟨fun i k hi hk => nm_okA hzo _, unC_congr (b := fun i k => Q4.conj (tb N xs k i)) (fun i k hi hk => hzt i k hi hk) (unC_dag ((unB_C hv.out).1 hu.out)), fun i c _ hc => absurd hc (by omega)⟩
  have hk40 := expo_ok (validB_true hv.out).choose_spec.2.2.2.2.2
  have hkz : ∀ i k, i < N → k < N → (nm zs (i * N + k)).k ≤ expo xs := fun i k hi hk => dag_k hv.out hzv hzt hi hk
  have hcb0 : Cb N 0 (fun i k => nm zs (i * N + k)) := cb_start (by omega) hN1 (show expo xs ≤ mostN N by omega) hkz
  have hact0 : EqT N (vt (fun i k => nm zs (i * N + k))) (actQ [] fun i k => Q4.conj (tb N xs k i)) := fun i k hi hk => hzt i k hi hk
  refine wk_region [0, 0, 0] rfl (by kernel_rfl) ?_
  simp only [qy]
  refine rf_field (n := 0) (j := 0) rfl rfl rfl Try.underlying38 rfl (by kernel_rfl) rfl ?_
  simp only [qz]
  refine rf_load rfl rfl rfl Try.underlying3 rfl (fun w hw => (Kn.hd0 (Kn.tl (Kn.tlU (Kn.tl (Kn.tl hw))))).at rfl) ?_
  simp only [qz]
  refine rg_move ?_
  simp only [qz]
  refine rg_nil (ek_next (wk_block ?_))
  refine wk_loopF [12, 65, 66, 67, 68, 69, 70, 71] (fun mz f s => ∃ (col : Nat) (z : Zt) (L : List It) (uV : List Blk), f 65 = .int .i64 col ∧ s = (uV ++ ((g5, .cells #[.pointer (some ⟨g4, 0, none⟩)] 128) :: ((g1, .cells #[.int .i64 N, .slice a xs.length c] 38) :: ((dd, .deferred (some [])) :: [])))) ∧ mz = N - col ∧ col ≤ N ∧ WS N g4 z L uV ∧ PI N col z ∧ Cb N col z ∧ EqT N (vt z) (actQ L fun i k => Q4.conj (tb N xs k i)) ∧ (∀ x ∈ L, fitB N x = true) ∧ L.length ≤ 700 * col) ((fun (col : Nat) (z : Zt) (L : List It) (uV : List Blk) => N - col) (0) ((fun i k => nm zs (i * N + k))) ([]) (((g4, .cells #[.slice (some ⟨go, 0, none⟩) N rc, .slice none 0 0] 131) :: (go, .cells (rwV N rs ++ ro).toArray 36) :: (rwB rs ++ ([] ++ []))))) ?_ (by kernel_rfl) ?_
  · exact ⟨0, (fun i k => nm zs (i * N + k)), [], ((g4, .cells #[.slice (some ⟨go, 0, none⟩) N rc, .slice none 0 0] 131) :: (go, .cells (rwV N rs ++ ro).toArray 36) :: (rwB rs ++ ([] ++ []))), rfl, (by simp only [List.cons_append, List.append_assoc, List.nil_append]), rfl, by omega, hW0, hpi0, hcb0, hact0, (fun x hx => by cases hx), (by simp)⟩
  rintro mz f1 s ⟨col, z, L, uV, hs1_65, rfl, hn, hd1, hd2, hd3, hd4, hd5, hd6, hd7⟩
  simp only [Act.putF, List.foldl_cons, List.foldl_nil, hs1_65, Act.put, Act.eval, q1, q2, q3, q4, q5, q6, q7, q8, q9, q10, q11, q12, q13, q14, q15, q16, q17, q18, Nat.reduceAdd, Bool.not_true, Bool.not_false]
  clear hs1_65
  refine wk_seq ?_
  refine wk_region [0] rfl (by kernel_rfl) ?_
  simp only [qy]
  refine rfb_lss rfl rfl rfl rfl ?_
  intro x h3
  cases x
  · (try simp only [qd, ne_eq] at h3)
    simp only [qz]
    refine rg_nil (ek_next (wk_seq (wk_cond_f rfl (wk_exit (ek_then_exit (ek_then_exit (ek_block_exit (ek_next (wk_seq ?_)))))))))
    obtain rfl : col = N := by omega
    obtain ⟨go3, oc3, ro3, rs3, ia3, ic3, u3, hse3, hrl3, hoc3, hlen3, hval3, hO3, hok3⟩ := hd2.open_
    refine wk_perm ((((List.Perm.refl _).append_left _).trans (List.perm_middle (l₁ := uV))).trans (((((List.Perm.refl _).append_left _).trans (List.perm_middle (l₁ := uV))).trans (((((List.Perm.refl _).append_left _).trans (List.perm_middle (l₁ := uV))).trans ((List.Perm.refl _).cons _)).cons _)).cons _)) ?_
    rw [hse3]
    refine wk_region [0, 0, 0, 0, 0, 0] rfl (by kernel_rfl) ?_
    simp only [qy]
    refine rf_load rfl rfl rfl Try.underlying128 rfl (fun w hw => (Kn.hd0 hw).at rfl) ?_
    simp only [qz]
    apply rg_soft
    case hy => (intro w hw; go_simp; (try go_bits); exact Yld.mk _ _)
    simp only [qz]
    refine rf_field (n := 0) (j := 1) rfl rfl rfl Try.underlying131 rfl (by kernel_rfl) rfl ?_
    simp only [qz]
    refine rf_load rfl rfl rfl Try.underlying32 rfl (fun w hw => (Kn.hd0 (Kn.tl (Kn.tl (Kn.tl hw)))).at rfl) ?_
    simp only [qz]
    refine rg_assign ?_
    simp only [qz]
    refine rg_assign ?_
    simp only [qz]
    refine rg_nil (ek_next (wk_ret ?_))
    refine ek_retM1 (Rep.there _ (Rep.there _ (Rep.here _))) (fun w hw => ⟨_, res_tt _ _ rfl, ?_⟩)
    (try simp only [qz])
    exact ⟨L, ⟨hd6, by omega, fun i k hi hk => (hd5 i k hi hk).symm.trans (hd3.idc i k hi hk hk)⟩, _, u3, (by first | rfl | trivial), hO3, hw.made (List.Sublist.cons _ (List.Sublist.cons _ (List.Sublist.cons _ (List.Sublist.cons _ (List.Sublist.cons _ ((List.sublist_append_left _ _).trans (List.sublist_append_right _ _)))))))⟩
  (try simp only [qd, ne_eq] at h3)
  simp only [qz]
  refine rg_nil (ek_next (wk_seq (wk_cond_t rfl (wk_skip (ek_next (wk_seq (wk_block (wk_seq ?_))))))))
  refine wk_region [0, 0] rfl (by kernel_rfl) ?_
  simp only [qy]
  refine rg_move ?_
  simp only [qz]
  refine rg_assign ?_
  simp only [qz]
  refine rg_nil (ek_next ?_)
  obtain ⟨B, hB, hB13⟩ := hd4.bnd hd3
  have hmu := muZ_le hd3 (show col < N by omega)
  have hmu2 : muZ N col z ≤ 320 := Nat.le_trans hmu (by have := Nat.mul_le_mul_right 80 (show N ≤ 4 by omega); omega)
  refine wk_region [0, 0, 1] rfl (by kernel_rfl) ?_
  simp only [qy]
  refine rf_load rfl rfl rfl Try.underlying128 rfl (fun w hw => (Kn.hd0 (Kn.tlU hw)).at rfl) ?_
  simp only [qz]
  refine rg_move ?_
  simp only [qz]
  refine rg_eff (T := fun uX => ∃ z2 L2, WS N g4 z2 L2 uX ∧ PI N (col + 1) z2 ∧ Cb N (col + 1) z2 ∧ EqT N (vt z2) (actQ L2 fun i k => Q4.conj (tb N xs k i)) ∧ (∀ x ∈ L2, fitB N x = true) ∧ L2.length ≤ 700 * col + 640 + 4) (vb := uV) (rest := _) (by rfl) (by kernel_rfl) (by simp only [qm, qs, Act.eval]; try rfl) (List.Perm.refl _) (fun w hw => wcolumn_any N col g4 (700 * col + 640) B _ z L uV hd2 (by omega) (by omega) (fun h => hB13 (by omega)) (by omega) (by omega) ⟨hd3, hB, hd5, hd6, by omega⟩ w hw) (fun uX hTuX => ?_)
  simp only [qz]
  obtain ⟨z2, L2, hW2, hp2, hc2, ha2, hf2, hl2⟩ := hTuX
  refine rg_nil (ek_block (ek_next ?_))
  refine wk_region [0, 0] rfl (by kernel_rfl) ?_
  simp only [qy]
  refine rf_add rfl rfl rfl rfl (wrap_ok (by omega) (by omega)) ?_
  simp only [qz]
  refine rg_move ?_
  simp only [qz]
  refine rg_nil ?_
  refine ek_roundF (N - (col + 1)) (by omega) (by kernel_rfl) ?_
  exact ⟨col + 1, z2, L2, uX, rfl, by rfl, by rfl, by omega, hW2, hp2, hc2, ha2, hf2, (by omega)⟩

end Go.Proofs.Ytccbinnlnkpplaa
namespace Go.Proofs.Ytccbinnlnkpplaa
set_option linter.all false
open Go.RowKit

/-- A program, or the first error. -/
theorem prog_any (n : Int) (xs : List Nm) (a : Option Addr) (c : Nat) (hl : xs.length ≤ 1000000) (w : World) (hA : AS w a (nms xs)) : Calls Try.prog 59 #[.agg #[.int .i64 n, .slice a xs.length c]] w fun e w' =>
    ∃ L, ((askE n xs = 0 → ProgL n.toNat xs L) ∧ (askE n xs ≠ 0 → L = [])) ∧ RetS w L (askE n xs) e w' := by
  by_cases hv : validB n xs = true
  · obtain ⟨N, rfl, -⟩ := validB_true hv
    have e0 : askE N xs = if (N : Int) > 4 ∨ expo xs > mostN N then 4 else if unB N xs = true then 0 else 22 := by unfold askE; rw [if_pos hv, Int.toNat_natCast]
    rw [Int.toNat_natCast]
    by_cases h4 : (N : Int) > 4
    · rw [e0, if_pos (.inl h4)]
      exact (prog_big N xs a c hl (Lib.hid hv) h4 w hA).mono fun e w' h => ⟨[], ⟨(fun e => by cases e), fun _ => rfl⟩, h⟩
    · by_cases hk : expo xs > mostN N
      · rw [e0, if_pos (.inr hk)]
        exact (prog_limit N xs a c hl (Lib.hid hv) h4 hk w hA).mono fun e w' h => ⟨[], ⟨(fun e => by cases e), fun _ => rfl⟩, h⟩
      · rw [e0, if_neg (fun h => h.elim h4 hk)]
        by_cases hu : unB N xs = true
        · rw [if_pos hu]
          exact (prog_yes N xs a c hl (Lib.hid hv) h4 hk (Lib.hid hu) w hA).mono fun e w' ⟨L, hP, h⟩ => ⟨L, ⟨fun _ => hP, fun e => absurd rfl e⟩, h⟩
        · rw [if_neg hu]
          exact (prog_non N xs a c hl (Lib.hid hv) h4 hk (Lib.hid (by simpa using hu)) w hA).mono fun e w' h => ⟨[], ⟨(fun e => by cases e), fun _ => rfl⟩, h⟩
  · have e0 : askE n xs = 20 := by unfold askE; rw [if_neg hv]
    rw [e0]
    exact (prog_invalid n xs a c hl (Lib.hid (by simpa using hv)) w hA).mono fun e w' h => ⟨[], ⟨(fun e => by cases e), fun _ => rfl⟩, h⟩
section
variable {R : Option Nat} {ops : Array Oper} {Q : Exit → Act → World → Prop} {B : World} {F : List Nat} {s0 : Option (List Blk × List Blk)}
variable {l : List (Oper × Nat)} {a : Act} {s S : List Blk} {d : Option Tmp} {op : Op} {t : TypeId} {p : String} {af : Array Edge} {v : Value}
theorem rg_retP {T : List It → Prop} {f : Nat} {cargs : Array Operand} {at_ : Array TypeId} {args : Array Value} {cc : Int} {P : Program} {gd : Option (Nat × Bool)} (hg : Region.wanted ⟨d, .call ⟨.value (.func f), cargs, at_⟩, t, p, af, gd⟩ (yielded ops a.tmps) = true) (hgo : isGo P f = true)
    (h : ∀ w, Kn B F s w → Calls P f args w fun e w' => ∃ L, T L ∧ RetS w L cc e w') (hargs : cargs.map a.eval = args)
    (hz : ∀ z ∈ s0, z.1.Sublist s) (k : ∀ (L : List It) (va : Option Addr) (vc : Nat) (u : List Blk), T L → OwnT u (.slice va L.length vc) L → Rg R P ops Q B F s0 l (a.put d (.tuple #[.slice va L.length vc, .int .i64 cc])) (u ++ s)) :
    Rg R P ops Q B F s0 ((⟨d, .call ⟨.value (.func f), cargs, at_⟩, t, p, af, gd⟩, 1) :: l) a s :=
  rg_call hg hgo hargs fun w K => (h w K).mono fun e w' ⟨L, hT, v, u, he, hO, hm⟩ => by
    obtain ⟨a', c', rfl, -⟩ := Own.val hO
    exact ⟨_, u ++ s, he, K.add hm, fun z hz' => (hz z hz').trans (List.sublist_append_right _ _), k L a' c' u hT hO⟩
end
theorem mat_len {N : Nat} {m : List Nm} (hv : validB N m = true) : m.length ≤ 36 := by
  obtain ⟨N', e, h1, h6, hx, h36, -⟩ := validB_true hv
  exact h36
theorem lst_eq {N : Nat} {m : List Nm} (hv : validB N m = true) (hu : unB N m = true) : lstR N m = (expo m, 0) := by unfold lstR; rw [if_pos hv, if_pos hu]
theorem ask_cases {N : Nat} {m : List Nm} (hv : validB N m = true) (hu : unB N m = true) : askE N m = 0 ∨ askE N m = 4 := by
  unfold askE
  rw [if_pos hv, if_pos hu]
  split
  · exact .inr rfl
  exact .inl rfl
/-- The matrix of the inverse circuit is the adjoint. -/
theorem inv_eq {N : Nat} {xs : List It} {m d x : List Nm} (h1 : 1 ≤ N) (h6 : N ≤ 6) (hf : ∀ x ∈ xs, fitB N x = true) (hm : matS N xs xs.length = .ok m) (hdv : validB N d = true) (hd : ∀ i k, i < N → k < N → tb N d i k = Q4.conj (tb N m k i))
    (hx : matS N (invS xs xs.length) (invS xs xs.length).length = .ok x) : x = d := by
  obtain ⟨mv, -, me, -⟩ := mat_facts h1 h6 hf hm
  obtain ⟨xv, -, xe, -⟩ := mat_facts h1 h6 (invS_fit hf _ (Nat.le_refl _)) hx
  refine tb_ext xv hdv fun i k hi hk => ?_
  rw [xe i k hi hk, inv_dag hf i k hi hk, hd i k hi hk, me k i hk hi]
/-- The matrix of a program is the one that it was made of. -/
theorem prog_eq {N : Nat} {x y : List Nm} {L : List It} (h1 : 1 ≤ N) (h6 : N ≤ 6) (hv : validB N x = true) (hu : unB N x = true) (hP : ProgL N x L) (hy : matS N L L.length = .ok y) : y = x := by
  obtain ⟨yv, -, ye, -⟩ := mat_facts h1 h6 hP.1 hy
  refine tb_ext yv hv fun i k hi hk => ?_
  rw [ye i k hi hk]
  exact prog_mat (l := []) hP.1 hv hu hP.2.2 i k hi hk
set_option maxRecDepth 100000 in
set_option maxHeartbeats 1000000 in
theorem synthFewer_any (n : Int) (xs : List It) (a : Option Addr) (c : Nat) (w : World) (hA : AS w a (its xs)) : Calls Try.prog 13 #[.int .i64 n, .slice a xs.length c] w fun e w' => e = .returned (.bool true) ∧ Below w.heap.size w w' := by
  go_enter Try.func13, Try.ntmps13
  refine wk_start ?_
  refine wk_seq ?_
  refine wk_region [0] rfl (by kernel_rfl) ?_
  simp only [qy]
  refine rg_assign ?_
  simp only [qz]
  refine rg_nil (ek_next (wk_seq (wk_seq ?_)))
  refine wk_region [0, 0, 0, 0, 0, 0, 0, 0, 0, 0, 0, 0, 0, 0, 1, 0, 0] rfl (by kernel_rfl) ?_
  simp only [qy]
  refine rg_move ?_
  simp only [qz]
  refine rf_len rfl rfl rfl Try.underlying32 ?_
  simp only [qz]
  refine rfb_gtr rfl rfl rfl rfl ?_
  intro x h1
  cases x
  · (try simp only [qd, ne_eq] at h1)
    simp only [qz]
    refine rg_move ?_
    simp only [qz]
    apply rg_soft_g
    case hg => rfl
    case hy => (intro w hw; go_simp; (try go_bits); exact Yld.mk _ _)
    simp only [qz]
    refine rfb_lss rfl rfl rfl rfl ?_
    intro x h2
    cases x
    · (try simp only [qd, ne_eq] at h2)
      simp only [qz]
      refine rf_pick rfl rfl rfl ?_
      simp only [qz]
      refine rg_move ?_
      simp only [qz]
      apply rg_soft_g
      case hg => rfl
      case hy => (intro w hw; go_simp; (try go_bits); exact Yld.mk _ _)
      simp only [qz]
      refine rfb_gtr rfl rfl rfl rfl ?_
      intro x h3
      cases x
      · (try simp only [qd, ne_eq] at h3)
        simp only [qz]
        refine rf_pick rfl rfl rfl ?_
        simp only [qz]
        refine rg_move ?_
        simp only [qz]
        apply rg_soft_g
        case hg => rfl
        case hy => (intro w hw; go_simp; (try go_bits); exact Yld.mk _ _)
        simp only [qz]
        apply rg_soft_g
        case hg => rfl
        case hy => (intro w hw; go_simp; (try go_bits); exact Yld.mk _ _)
        simp only [qz]
        apply rg_pureb (by rfl) (by kernel_rfl)
        case hargs => (simp only [qm, qs, Act.eval]; exact rfl)
        case h => exact fun w hw => rvalidItems_any xs a c n w (hA.kn0 hw)
        case hz => exact (fun _ h => by cases h)
        intro x h4
        cases x
        · (try simp only [qd, ne_eq] at h4)
          simp only [qz]
          refine rf_not rfl rfl rfl ?_
          simp only [qz]
          refine rf_pick rfl rfl rfl ?_
          simp only [qz]
          refine rg_nil (ek_next (wk_cond_t rfl (wk_seq ?_)))
          refine wk_region [1, 0] rfl (by kernel_rfl) ?_
          simp only [qy]
          apply rg_pure (by rfl) (by kernel_rfl)
          case hargs => (simp only [qm, qs, Act.eval]; exact rfl)
          case h => exact fun w hw => sane_any w
          case hz => exact (fun _ h => by cases h)
          simp only [qz]
          refine rg_assign ?_
          simp only [qz]
          refine rg_nil (ek_next (wk_ret (ek_then_ret ?_)))
          refine ek_ret (fun w hw => ⟨rfl, _, res_t _ rfl, ?_⟩)
          (try simp only [qz])
          first | exact ⟨rfl, hw.below⟩ | exact ⟨trivial, hw.below⟩ | exact hw.below
        (try simp only [qd, ne_eq] at h4)
        simp only [qz]
        obtain ⟨N, rfl, hN1, hN6, hlx, hf, hie⟩ := fits_of h4
        have hfi := invS_fit hf xs.length (Nat.le_refl _)
        have hli := invS_len xs xs.length
        refine rf_not rfl rfl rfl ?_
        simp only [qz]
        refine rf_pick rfl rfl rfl ?_
        simp only [qz]
        refine rg_nil (ek_next (wk_cond_f rfl (wk_skip (ek_next (wk_seq ?_)))))
        refine wk_region [0, 0, 1, 0, 0, 0, 1, 1, 0] rfl (by kernel_rfl) ?_
        simp only [qy]
        refine rg_move ?_
        simp only [qz]
        refine rg_move ?_
        simp only [qz]
        rcases hm1 : matS N xs xs.length with c1 | m1
        · have hc1 := matS_lim hN1 hN6 hf _ (Nat.le_refl _) hm1
          subst hc1
          apply (rg_retM (n := 0) (zs := []) (c := 4)) (by rfl) (by kernel_rfl)
          case hargs => (simp only [qm, qs, Act.eval]; exact rfl)
          case h => exact fun w hw => by have := matrixOf_any (N : Int) xs a c w (hA.kn0 hw); rw [matO_S hN1 hN6 hlx hf, hm1, Int.toNat_natCast] at this; exact this
          case hz => exact (fun _ h => by cases h)
          intro va1 vc1 u1 hO1
          simp only [qz]
          refine rg_move ?_
          simp only [qz]
          refine rf_extract rfl rfl rfl rfl ?_
          simp only [qz]
          refine rf_extract rfl rfl rfl rfl ?_
          simp only [qz]
          refine rg_new (cs := ?_) (ty := ?_) (by rfl) (fun w => ?_) (fun _ h => by cases h) (fun g2 => ?_); rotate_left 2
          focus (go_simp; rfl)
          simp only [qz]
          refine rf_storeR (n := 2) rfl rfl (by kernel_rfl) rfl rfl (UpdR.here _ _ _ (Nat.le_of_ble_eq_true rfl)) (fun _ h => by cases h) ?_
          simp only [qz, Nat.reduceAdd]
          refine rg_assign ?_
          simp only [qz]
          refine rg_nil (ek_next (wk_seq (wk_seq ?_)))
          refine wk_region [0, 0] rfl (by kernel_rfl) ?_
          simp only [qy]
          refine rg_move ?_
          simp only [qz]
          refine rf_neq (b := true) rfl rfl rfl rfl (by decide) ?_
          simp only [qz]
          refine rg_nil (ek_next (wk_cond_t rfl (wk_seq ?_)))
          refine wk_region [0, 0, 0, 1, 0, 0] rfl (by kernel_rfl) ?_
          simp only [qy]
          refine rg_move ?_
          simp only [qz]
          refine rf_eql (b := true) rfl rfl rfl rfl (by decide) ?_
          simp only [qz]
          refine rg_move ?_
          simp only [qz]
          apply rg_pure (by rfl) (by kernel_rfl)
          case hargs => (simp only [qm, qs, Act.eval]; exact rfl)
          case h => exact fun w hw => sane_any w
          case hz => exact (fun _ h => by cases h)
          simp only [qz]
          refine rf_pick rfl rfl rfl ?_
          simp only [qz]
          refine rg_assign ?_
          simp only [qz]
          refine rg_nil (ek_next (wk_ret (ek_then_ret ?_)))
          refine ek_ret (fun w hw => ⟨rfl, _, res_t _ rfl, ?_⟩)
          (try simp only [qz])
          first | exact ⟨rfl, hw.below⟩ | exact ⟨trivial, hw.below⟩ | exact hw.below
        obtain ⟨hv1, hu1, he1, hx1⟩ := mat_facts hN1 hN6 hf hm1
        have hl1 := mat_len hv1
        apply (rg_retM (n := (N : Int)) (zs := m1) (c := 0)) (by rfl) (by kernel_rfl)
        case hargs => (simp only [qm, qs, Act.eval]; exact rfl)
        case h => exact fun w hw => by have := matrixOf_any (N : Int) xs a c w (hA.kn0 hw); rw [matO_S hN1 hN6 hlx hf, hm1, Int.toNat_natCast] at this; exact this
        case hz => exact (fun _ h => by cases h)
        intro va3 vc3 u3 hO3
        simp only [qz]
        refine rg_move ?_
        simp only [qz]
        refine rf_extract rfl rfl rfl rfl ?_
        simp only [qz]
        refine rf_extract rfl rfl rfl rfl ?_
        simp only [qz]
        refine rg_new (cs := ?_) (ty := ?_) (by rfl) (fun w => ?_) (fun _ h => by cases h) (fun g4 => ?_); rotate_left 2
        focus (go_simp; rfl)
        simp only [qz]
        refine rf_storeR (n := 2) rfl rfl (by kernel_rfl) rfl rfl (UpdR.here _ _ _ (Nat.le_of_ble_eq_true rfl)) (fun _ h => by cases h) ?_
        simp only [qz, Nat.reduceAdd]
        refine rg_assign ?_
        simp only [qz]
        refine rg_nil (ek_next (wk_seq (wk_seq ?_)))
        refine wk_region [0, 0] rfl (by kernel_rfl) ?_
        simp only [qy]
        refine rg_move ?_
        simp only [qz]
        refine rf_neq (b := false) rfl rfl rfl rfl (by decide) ?_
        simp only [qz]
        refine rg_nil (ek_next (wk_cond_f rfl (wk_skip (ek_next (wk_seq ?_)))))
        refine wk_region [0, 1, 0, 0, 0, 0, 0] rfl (by kernel_rfl) ?_
        simp only [qy]
        refine rf_loadR (n := 2) rfl rfl rfl Try.underlying38 rfl (by kernel_rfl) (fun w hw => Kn.hd0 hw) rfl rfl ?_
        simp only [qz]
        apply rg_pure (by rfl) (by kernel_rfl)
        case hargs => (simp only [qm, qs, Act.eval]; exact rfl)
        case h => exact fun w hw => by have := sleast_any (N : Int) m1 va3 vc3 (by omega) w (OwnN.asM hO3 (Kn.tl hw)); rw [lst_eq hv1 hu1] at this; exact this
        case hz => exact (fun _ h => by cases h)
        simp only [qz]
        refine rg_move ?_
        simp only [qz]
        refine rf_extract rfl rfl rfl rfl ?_
        simp only [qz]
        refine rf_extract rfl rfl rfl rfl ?_
        simp only [qz]
        refine rg_assign ?_
        simp only [qz]
        refine rg_assign ?_
        simp only [qz]
        refine rg_nil (ek_next (wk_seq (wk_seq ?_)))
        refine wk_region [0, 0, 0, 0, 0, 1, 0, 0] rfl (by kernel_rfl) ?_
        simp only [qy]
        refine rg_move ?_
        simp only [qz]
        refine rf_neq (b := false) rfl rfl rfl rfl (by decide) ?_
        simp only [qz]
        refine rg_move ?_
        simp only [qz]
        apply rg_soft_g
        case hg => rfl
        case hy => (intro w hw; go_simp; (try go_bits); exact Yld.mk _ _)
        simp only [qz]
        apply rg_soft_g
        case hg => rfl
        case hy => (intro w hw; go_simp; (try go_bits); exact Yld.mk _ _)
        simp only [qz]
        apply rg_pure (by rfl) (by kernel_rfl)
        case hargs => (simp only [qm, qs, Act.eval]; exact rfl)
        case h => exact fun w hw => rcouplers_any xs a c (by omega) w (hA.kn0 hw)
        case hz => exact (fun _ h => by cases h)
        simp only [qz]
        refine rfb_gtr rfl rfl rfl rfl ?_
        intro x h5
        obtain rfl : x = false := by (refine h5.symm.trans ?_; exact decide_eq_false (by omega))
        clear h5
        simp only [qz]
        refine rf_pick rfl rfl rfl ?_
        simp only [qz]
        refine rg_nil (ek_next (wk_cond_f rfl (wk_skip (ek_next (wk_seq ?_)))))
        refine wk_region [0, 0, 1, 0, 0, 0, 0, 0] rfl (by kernel_rfl) ?_
        simp only [qy]
        refine rg_move ?_
        simp only [qz]
        refine rg_move ?_
        simp only [qz]
        apply rg_retS (by rfl) (by kernel_rfl)
        case hargs => (simp only [qm, qs, Act.eval]; exact rfl)
        case h => exact fun w hw => minverse_any N xs a c hN1 hN6 (by omega) hlx hf w (hA.kn0 hw)
        case hz => exact (fun _ h => by cases h)
        intro vaI vcI uI hOI
        simp only [qz]
        refine rg_move ?_
        simp only [qz]
        refine rf_extract rfl rfl rfl rfl ?_
        simp only [qz]
        refine rf_extract rfl rfl rfl rfl ?_
        simp only [qz]
        refine rg_assign ?_
        simp only [qz]
        refine rg_assign ?_
        simp only [qz]
        refine rg_nil (ek_next (wk_seq ?_))
        refine wk_region [0, 1, 0, 0, 0, 1, 1, 0] rfl (by kernel_rfl) ?_
        simp only [qy]
        refine rf_loadR (n := 2) rfl rfl rfl Try.underlying38 rfl (by kernel_rfl) (fun w hw => Kn.hd0 (Kn.tlU hw)) rfl rfl ?_
        simp only [qz]
        obtain ⟨zs, hdg, hzv, hzt⟩ := dagM_ok (N := N) hv1
        have hzl := mat_len hzv
        apply (rg_retM (n := (N : Int)) (zs := zs) (c := 0)) (by rfl) (by kernel_rfl)
        case hargs => (simp only [qm, qs, Act.eval]; exact rfl)
        case h => exact fun w hw => by have := mdagger_any (N : Int) m1 va3 vc3 (by omega) w (OwnN.asM hO3 (Kn.tl (Kn.tlU hw))); rw [hdg, Int.toNat_natCast] at this; exact this
        case hz => exact (fun _ h => by cases h)
        intro va5 vc5 u5 hO5
        simp only [qz]
        refine rg_move ?_
        simp only [qz]
        refine rf_extract rfl rfl rfl rfl ?_
        simp only [qz]
        refine rf_extract rfl rfl rfl rfl ?_
        simp only [qz]
        refine rg_new (cs := ?_) (ty := ?_) (by rfl) (fun w => ?_) (fun _ h => by cases h) (fun g6 => ?_); rotate_left 2
        focus (go_simp; rfl)
        simp only [qz]
        refine rf_storeR (n := 2) rfl rfl (by kernel_rfl) rfl rfl (UpdR.here _ _ _ (Nat.le_of_ble_eq_true rfl)) (fun _ h => by cases h) ?_
        simp only [qz, Nat.reduceAdd]
        refine rg_assign ?_
        simp only [qz]
        refine rg_nil (ek_next (wk_seq (wk_seq ?_)))
        refine wk_region [0, 0, 0, 0, 0, 0] rfl (by kernel_rfl) ?_
        simp only [qy]
        refine rg_move ?_
        simp only [qz]
        refine rf_neq (b := false) rfl rfl rfl rfl (by decide) ?_
        simp only [qz]
        refine rg_move ?_
        simp only [qz]
        apply rg_soft_g
        case hg => rfl
        case hy => (intro w hw; go_simp; (try go_bits); exact Yld.mk _ _)
        simp only [qz]
        refine rf_neq (b := false) rfl rfl rfl rfl (by decide) ?_
        simp only [qz]
        refine rf_pick rfl rfl rfl ?_
        simp only [qz]
        refine rg_nil (ek_next (wk_cond_f rfl (wk_skip (ek_next (wk_seq ?_)))))
        refine wk_region [0, 0, 1, 0, 0, 0, 1, 1, 0] rfl (by kernel_rfl) ?_
        simp only [qy]
        refine rg_move ?_
        simp only [qz]
        refine rg_move ?_
        simp only [qz]
        rcases hm2 : matS N (invS xs xs.length) (invS xs xs.length).length with c2 | m2
        · have hc2 := matS_lim hN1 hN6 hfi _ (Nat.le_refl _) hm2
          subst hc2
          apply (rg_retM (n := 0) (zs := []) (c := 4)) (by rfl) (by kernel_rfl)
          case hargs => (simp only [qm, qs, Act.eval]; exact rfl)
          case h => exact fun w hw => by have := matrixOf_any (N : Int) (invS xs xs.length) vaI vcI w (OwnT.asT hOI (Kn.tlU (Kn.tl hw))); rw [matO_S hN1 hN6 (by omega) hfi, hm2, Int.toNat_natCast] at this; exact this
          case hz => exact (fun _ h => by cases h)
          intro va7 vc7 u7 hO7
          simp only [qz]
          refine rg_move ?_
          simp only [qz]
          refine rf_extract rfl rfl rfl rfl ?_
          simp only [qz]
          refine rf_extract rfl rfl rfl rfl ?_
          simp only [qz]
          refine rg_new (cs := ?_) (ty := ?_) (by rfl) (fun w => ?_) (fun _ h => by cases h) (fun g8 => ?_); rotate_left 2
          focus (go_simp; rfl)
          simp only [qz]
          refine rf_storeR (n := 2) rfl rfl (by kernel_rfl) rfl rfl (UpdR.here _ _ _ (Nat.le_of_ble_eq_true rfl)) (fun _ h => by cases h) ?_
          simp only [qz, Nat.reduceAdd]
          refine rg_assign ?_
          simp only [qz]
          refine rg_nil (ek_next (wk_seq (wk_seq ?_)))
          refine wk_region [0, 0] rfl (by kernel_rfl) ?_
          simp only [qy]
          refine rg_move ?_
          simp only [qz]
          refine rf_neq (b := true) rfl rfl rfl rfl (by decide) ?_
          simp only [qz]
          refine rg_nil (ek_next (wk_cond_t rfl (wk_seq ?_)))
          refine wk_region [0, 0, 0, 1, 0, 0] rfl (by kernel_rfl) ?_
          simp only [qy]
          refine rg_move ?_
          simp only [qz]
          refine rf_eql (b := true) rfl rfl rfl rfl (by decide) ?_
          simp only [qz]
          refine rg_move ?_
          simp only [qz]
          apply rg_pure (by rfl) (by kernel_rfl)
          case hargs => (simp only [qm, qs, Act.eval]; exact rfl)
          case h => exact fun w hw => sane_any w
          case hz => exact (fun _ h => by cases h)
          simp only [qz]
          refine rf_pick rfl rfl rfl ?_
          simp only [qz]
          refine rg_assign ?_
          simp only [qz]
          refine rg_nil (ek_next (wk_ret (ek_then_ret ?_)))
          refine ek_ret (fun w hw => ⟨rfl, _, res_t _ rfl, ?_⟩)
          (try simp only [qz])
          first | exact ⟨rfl, hw.below⟩ | exact ⟨trivial, hw.below⟩ | exact hw.below
        obtain ⟨hv2, hu2, he2, hx2⟩ := mat_facts hN1 hN6 hfi hm2
        have hl2 := mat_len hv2
        apply (rg_retM (n := (N : Int)) (zs := m2) (c := 0)) (by rfl) (by kernel_rfl)
        case hargs => (simp only [qm, qs, Act.eval]; exact rfl)
        case h => exact fun w hw => by have := matrixOf_any (N : Int) (invS xs xs.length) vaI vcI w (OwnT.asT hOI (Kn.tlU (Kn.tl hw))); rw [matO_S hN1 hN6 (by omega) hfi, hm2, Int.toNat_natCast] at this; exact this
        case hz => exact (fun _ h => by cases h)
        intro va9 vc9 u9 hO9
        simp only [qz]
        refine rg_move ?_
        simp only [qz]
        refine rf_extract rfl rfl rfl rfl ?_
        simp only [qz]
        refine rf_extract rfl rfl rfl rfl ?_
        simp only [qz]
        refine rg_new (cs := ?_) (ty := ?_) (by rfl) (fun w => ?_) (fun _ h => by cases h) (fun g10 => ?_); rotate_left 2
        focus (go_simp; rfl)
        simp only [qz]
        refine rf_storeR (n := 2) rfl rfl (by kernel_rfl) rfl rfl (UpdR.here _ _ _ (Nat.le_of_ble_eq_true rfl)) (fun _ h => by cases h) ?_
        simp only [qz, Nat.reduceAdd]
        refine rg_assign ?_
        simp only [qz]
        refine rg_nil (ek_next (wk_seq (wk_seq ?_)))
        refine wk_region [0, 0] rfl (by kernel_rfl) ?_
        simp only [qy]
        refine rg_move ?_
        simp only [qz]
        refine rf_neq (b := false) rfl rfl rfl rfl (by decide) ?_
        simp only [qz]
        refine rg_nil (ek_next (wk_cond_f rfl (wk_skip (ek_next (wk_seq ?_)))))
        refine wk_region [0, 1, 0, 0, 0, 0, 0] rfl (by kernel_rfl) ?_
        simp only [qy]
        refine rf_loadR (n := 2) rfl rfl rfl Try.underlying38 rfl (by kernel_rfl) (fun w hw => Kn.hd0 hw) rfl rfl ?_
        simp only [qz]
        have hask := ask_cases hv2 hu2
        have hxd := inv_eq hN1 hN6 hf hm1 hzv hzt hm2
        rcases hask with hask | hask
        · apply (rg_retP (T := fun L => ProgL N m2 L) (cc := 0)) (by rfl) (by kernel_rfl)
          case hargs => (simp only [qm, qs, Act.eval]; exact rfl)
          case h => exact fun w hw => by have := prog_any (N : Int) m2 va9 vc9 (by omega) w (OwnN.asM hO9 (Kn.tl hw)); rw [hask, Int.toNat_natCast] at this; exact this.mono fun e w' ⟨L, hP, hr⟩ => ⟨L, hP.1 rfl, hr⟩
          case hz => exact (fun _ h => by cases h)
          intro L vaL vcL uL hP hOL
          simp only [qz]
          have hLl := hP.2.1
          refine rg_move ?_
          simp only [qz]
          refine rf_extract rfl rfl rfl rfl ?_
          simp only [qz]
          refine rf_extract rfl rfl rfl rfl ?_
          simp only [qz]
          refine rg_assign ?_
          simp only [qz]
          refine rg_assign ?_
          simp only [qz]
          refine rg_nil (ek_next (wk_seq (wk_seq ?_)))
          refine wk_region [0, 0] rfl (by kernel_rfl) ?_
          simp only [qy]
          refine rg_move ?_
          simp only [qz]
          refine rf_neq (b := false) rfl rfl rfl rfl (by decide) ?_
          simp only [qz]
          refine rg_nil (ek_next (wk_cond_f rfl (wk_skip (ek_next (wk_seq ?_)))))
          refine wk_region [0, 0, 1, 0, 0, 0, 1, 1, 0] rfl (by kernel_rfl) ?_
          simp only [qy]
          refine rg_move ?_
          simp only [qz]
          refine rg_move ?_
          simp only [qz]
          rcases hm3 : matS N L L.length with c3 | m3
          · have hc3 := matS_lim hN1 hN6 hP.1 _ (Nat.le_refl _) hm3
            subst hc3
            apply (rg_retM (n := 0) (zs := []) (c := 4)) (by rfl) (by kernel_rfl)
            case hargs => (simp only [qm, qs, Act.eval]; exact rfl)
            case h => exact fun w hw => by have := matrixOf_any (N : Int) L vaL vcL w (OwnT.asT hOL hw); rw [matO_S hN1 hN6 hP.2.1 hP.1, hm3, Int.toNat_natCast] at this; exact this
            case hz => exact (fun _ h => by cases h)
            intro va11 vc11 u11 hO11
            simp only [qz]
            refine rg_move ?_
            simp only [qz]
            refine rf_extract rfl rfl rfl rfl ?_
            simp only [qz]
            refine rf_extract rfl rfl rfl rfl ?_
            simp only [qz]
            refine rg_new (cs := ?_) (ty := ?_) (by rfl) (fun w => ?_) (fun _ h => by cases h) (fun g12 => ?_); rotate_left 2
            focus (go_simp; rfl)
            simp only [qz]
            refine rf_storeR (n := 2) rfl rfl (by kernel_rfl) rfl rfl (UpdR.here _ _ _ (Nat.le_of_ble_eq_true rfl)) (fun _ h => by cases h) ?_
            simp only [qz, Nat.reduceAdd]
            refine rg_assign ?_
            simp only [qz]
            refine rg_nil (ek_next (wk_seq ?_))
            refine wk_region [0, 0, 0, 0, 0, 0, 0, 0, 1, 0, 0, 0, 1, 0, 0] rfl (by kernel_rfl) ?_
            simp only [qy]
            refine rg_move ?_
            simp only [qz]
            refine rf_eql (b := true) rfl rfl rfl rfl (by decide) ?_
            simp only [qz]
            refine rg_move ?_
            simp only [qz]
            refine rg_skip (by rfl) ?_
            simp only [qz]
            refine rg_skip (by rfl) ?_
            simp only [qz]
            refine rg_skip (by rfl) ?_
            simp only [qz]
            refine rg_skip (by rfl) ?_
            simp only [qz]
            refine rg_skip (by rfl) ?_
            simp only [qz]
            refine rg_skip_h (by rfl) (fun _ h => by cases h) ?_
            simp only [qz]
            refine rg_skip (by rfl) ?_
            simp only [qz]
            refine rf_pick rfl rfl rfl ?_
            simp only [qz]
            refine rg_move ?_
            simp only [qz]
            apply rg_pure (by rfl) (by kernel_rfl)
            case hargs => (simp only [qm, qs, Act.eval]; exact rfl)
            case h => exact fun w hw => sane_any w
            case hz => exact (fun _ h => by cases h)
            simp only [qz]
            refine rf_pick rfl rfl rfl ?_
            simp only [qz]
            refine rg_assign ?_
            simp only [qz]
            refine rg_nil (ek_next (wk_ret ?_))
            refine ek_ret (fun w hw => ⟨rfl, _, res_t _ rfl, ?_⟩)
            (try simp only [qz])
            first | exact ⟨rfl, hw.below⟩ | exact ⟨trivial, hw.below⟩ | exact hw.below
          obtain ⟨hv3, hu3, he3, hx3⟩ := mat_facts hN1 hN6 hP.1 hm3
          have hl3 := mat_len hv3
          apply (rg_retM (n := (N : Int)) (zs := m3) (c := 0)) (by rfl) (by kernel_rfl)
          case hargs => (simp only [qm, qs, Act.eval]; exact rfl)
          case h => exact fun w hw => by have := matrixOf_any (N : Int) L vaL vcL w (OwnT.asT hOL hw); rw [matO_S hN1 hN6 hP.2.1 hP.1, hm3, Int.toNat_natCast] at this; exact this
          case hz => exact (fun _ h => by cases h)
          intro va13 vc13 u13 hO13
          simp only [qz]
          refine rg_move ?_
          simp only [qz]
          refine rf_extract rfl rfl rfl rfl ?_
          simp only [qz]
          refine rf_extract rfl rfl rfl rfl ?_
          simp only [qz]
          refine rg_new (cs := ?_) (ty := ?_) (by rfl) (fun w => ?_) (fun _ h => by cases h) (fun g14 => ?_); rotate_left 2
          focus (go_simp; rfl)
          simp only [qz]
          refine rf_storeR (n := 2) rfl rfl (by kernel_rfl) rfl rfl (UpdR.here _ _ _ (Nat.le_of_ble_eq_true rfl)) (fun _ h => by cases h) ?_
          simp only [qz, Nat.reduceAdd]
          refine rg_assign ?_
          simp only [qz]
          refine rg_nil (ek_next (wk_seq ?_))
          refine wk_region [0, 0, 0, 0, 0, 0, 0, 0, 1, 0, 0, 0, 1, 0, 0] rfl (by kernel_rfl) ?_
          simp only [qy]
          refine rg_move ?_
          simp only [qz]
          refine rf_eql (b := false) rfl rfl rfl rfl (by decide) ?_
          simp only [qz]
          refine rg_move ?_
          simp only [qz]
          apply rg_soft_g
          case hg => rfl
          case hy => (intro w hw; go_simp; (try go_bits); exact Yld.mk _ _)
          simp only [qz]
          refine rf_eql (b := true) rfl rfl rfl rfl (by decide) ?_
          simp only [qz]
          apply rg_soft_g
          case hg => rfl
          case hy => (intro w hw; go_simp; (try go_bits); exact Yld.mk _ _)
          simp only [qz]
          refine rf_loadR (n := 2) rfl rfl rfl Try.underlying38 rfl (by kernel_rfl) (fun w hw => Kn.hd0 hw) rfl rfl ?_
          simp only [qz]
          refine rf_loadR (n := 2) rfl rfl rfl Try.underlying38 rfl (by kernel_rfl) (fun w hw => Kn.hd0 (Kn.tlU (Kn.tl (Kn.tlU (Kn.tlU (Kn.tl hw)))))) rfl rfl ?_
          simp only [qz]
          have hyx := prog_eq hN1 hN6 hv2 hu2 hP hm3
          subst hyx
          subst hxd
          apply rg_pure (by rfl) (by kernel_rfl)
          case hargs => (simp only [qm, qs, Act.eval]; exact rfl)
          case h => exact fun w hw => rSameM_eq (N : Int) m3 _ _ _ _ (by omega) w (OwnN.asM hO13 (Kn.tl hw)) (OwnN.asM hO5 (Kn.tl (Kn.tlU (Kn.tl (Kn.tlU (Kn.tlU (Kn.tl hw)))))))
          case hz => exact (fun _ h => by cases h)
          simp only [qz]
          refine rf_pick rfl rfl rfl ?_
          simp only [qz]
          refine rf_pick rfl rfl rfl ?_
          simp only [qz]
          refine rg_move ?_
          simp only [qz]
          apply rg_pure (by rfl) (by kernel_rfl)
          case hargs => (simp only [qm, qs, Act.eval]; exact rfl)
          case h => exact fun w hw => sane_any w
          case hz => exact (fun _ h => by cases h)
          simp only [qz]
          refine rf_pick rfl rfl rfl ?_
          simp only [qz]
          refine rg_assign ?_
          simp only [qz]
          refine rg_nil (ek_next (wk_ret ?_))
          refine ek_ret (fun w hw => ⟨rfl, _, res_t _ rfl, ?_⟩)
          (try simp only [qz])
          first | exact ⟨rfl, hw.below⟩ | exact ⟨trivial, hw.below⟩ | exact hw.below
        apply (rg_retP (T := fun L => L = []) (cc := 4)) (by rfl) (by kernel_rfl)
        case hargs => (simp only [qm, qs, Act.eval]; exact rfl)
        case h => exact fun w hw => by have := prog_any (N : Int) m2 va9 vc9 (by omega) w (OwnN.asM hO9 (Kn.tl hw)); rw [hask, Int.toNat_natCast] at this; exact this.mono fun e w' ⟨L, hP, hr⟩ => ⟨L, hP.2 (by decide), hr⟩
        case hz => exact (fun _ h => by cases h)
        intro L vaL vcL uL hP hOL
        simp only [qz]
        refine rg_move ?_
        simp only [qz]
        refine rf_extract rfl rfl rfl rfl ?_
        simp only [qz]
        refine rf_extract rfl rfl rfl rfl ?_
        simp only [qz]
        refine rg_assign ?_
        simp only [qz]
        refine rg_assign ?_
        simp only [qz]
        refine rg_nil (ek_next (wk_seq (wk_seq ?_)))
        refine wk_region [0, 0] rfl (by kernel_rfl) ?_
        simp only [qy]
        refine rg_move ?_
        simp only [qz]
        refine rf_neq (b := true) rfl rfl rfl rfl (by decide) ?_
        simp only [qz]
        refine rg_nil (ek_next (wk_cond_t rfl (wk_seq ?_)))
        refine wk_region [0, 0, 0, 1, 0, 0] rfl (by kernel_rfl) ?_
        simp only [qy]
        refine rg_move ?_
        simp only [qz]
        refine rf_eql (b := true) rfl rfl rfl rfl (by decide) ?_
        simp only [qz]
        refine rg_move ?_
        simp only [qz]
        apply rg_pure (by rfl) (by kernel_rfl)
        case hargs => (simp only [qm, qs, Act.eval]; exact rfl)
        case h => exact fun w hw => sane_any w
        case hz => exact (fun _ h => by cases h)
        simp only [qz]
        refine rf_pick rfl rfl rfl ?_
        simp only [qz]
        refine rg_assign ?_
        simp only [qz]
        refine rg_nil (ek_next (wk_ret (ek_then_ret ?_)))
        refine ek_ret (fun w hw => ⟨rfl, _, res_t _ rfl, ?_⟩)
        (try simp only [qz])
        first | exact ⟨rfl, hw.below⟩ | exact ⟨trivial, hw.below⟩ | exact hw.below
      (try simp only [qd, ne_eq] at h3)
      simp only [qz]
      refine rf_pick rfl rfl rfl ?_
      simp only [qz]
      refine rg_move ?_
      simp only [qz]
      refine rg_skip (by rfl) ?_
      simp only [qz]
      refine rg_skip (by rfl) ?_
      simp only [qz]
      refine rg_skip_h (by rfl) (fun _ h => by cases h) ?_
      simp only [qz]
      refine rg_skip (by rfl) ?_
      simp only [qz]
      refine rf_pick rfl rfl rfl ?_
      simp only [qz]
      refine rg_nil (ek_next (wk_cond_t rfl (wk_seq ?_)))
      refine wk_region [1, 0] rfl (by kernel_rfl) ?_
      simp only [qy]
      apply rg_pure (by rfl) (by kernel_rfl)
      case hargs => (simp only [qm, qs, Act.eval]; exact rfl)
      case h => exact fun w hw => sane_any w
      case hz => exact (fun _ h => by cases h)
      simp only [qz]
      refine rg_assign ?_
      simp only [qz]
      refine rg_nil (ek_next (wk_ret (ek_then_ret ?_)))
      refine ek_ret (fun w hw => ⟨rfl, _, res_t _ rfl, ?_⟩)
      (try simp only [qz])
      first | exact ⟨rfl, hw.below⟩ | exact ⟨trivial, hw.below⟩ | exact hw.below
    (try simp only [qd, ne_eq] at h2)
    simp only [qz]
    refine rf_pick rfl rfl rfl ?_
    simp only [qz]
    refine rg_move ?_
    simp only [qz]
    refine rg_skip (by rfl) ?_
    simp only [qz]
    refine rg_skip (by rfl) ?_
    simp only [qz]
    refine rf_pick rfl rfl rfl ?_
    simp only [qz]
    refine rg_move ?_
    simp only [qz]
    refine rg_skip (by rfl) ?_
    simp only [qz]
    refine rg_skip (by rfl) ?_
    simp only [qz]
    refine rg_skip_h (by rfl) (fun _ h => by cases h) ?_
    simp only [qz]
    refine rg_skip (by rfl) ?_
    simp only [qz]
    refine rf_pick rfl rfl rfl ?_
    simp only [qz]
    refine rg_nil (ek_next (wk_cond_t rfl (wk_seq ?_)))
    refine wk_region [1, 0] rfl (by kernel_rfl) ?_
    simp only [qy]
    apply rg_pure (by rfl) (by kernel_rfl)
    case hargs => (simp only [qm, qs, Act.eval]; exact rfl)
    case h => exact fun w hw => sane_any w
    case hz => exact (fun _ h => by cases h)
    simp only [qz]
    refine rg_assign ?_
    simp only [qz]
    refine rg_nil (ek_next (wk_ret (ek_then_ret ?_)))
    refine ek_ret (fun w hw => ⟨rfl, _, res_t _ rfl, ?_⟩)
    (try simp only [qz])
    first | exact ⟨rfl, hw.below⟩ | exact ⟨trivial, hw.below⟩ | exact hw.below
  (try simp only [qd, ne_eq] at h1)
  simp only [qz]
  refine rg_move ?_
  simp only [qz]
  refine rg_skip (by rfl) ?_
  simp only [qz]
  refine rg_skip (by rfl) ?_
  simp only [qz]
  refine rf_pick rfl rfl rfl ?_
  simp only [qz]
  refine rg_move ?_
  simp only [qz]
  refine rg_skip (by rfl) ?_
  simp only [qz]
  refine rg_skip (by rfl) ?_
  simp only [qz]
  refine rf_pick rfl rfl rfl ?_
  simp only [qz]
  refine rg_move ?_
  simp only [qz]
  refine rg_skip (by rfl) ?_
  simp only [qz]
  refine rg_skip (by rfl) ?_
  simp only [qz]
  refine rg_skip_h (by rfl) (fun _ h => by cases h) ?_
  simp only [qz]
  refine rg_skip (by rfl) ?_
  simp only [qz]
  refine rf_pick rfl rfl rfl ?_
  simp only [qz]
  refine rg_nil (ek_next (wk_cond_t rfl (wk_seq ?_)))
  refine wk_region [1, 0] rfl (by kernel_rfl) ?_
  simp only [qy]
  apply rg_pure (by rfl) (by kernel_rfl)
  case hargs => (simp only [qm, qs, Act.eval]; exact rfl)
  case h => exact fun w hw => sane_any w
  case hz => exact (fun _ h => by cases h)
  simp only [qz]
  refine rg_assign ?_
  simp only [qz]
  refine rg_nil (ek_next (wk_ret (ek_then_ret ?_)))
  refine ek_ret (fun w hw => ⟨rfl, _, res_t _ rfl, ?_⟩)
  (try simp only [qz])
  first | exact ⟨rfl, hw.below⟩ | exact ⟨trivial, hw.below⟩ | exact hw.below

end Go.Proofs.Ytccbinnlnkpplaa
