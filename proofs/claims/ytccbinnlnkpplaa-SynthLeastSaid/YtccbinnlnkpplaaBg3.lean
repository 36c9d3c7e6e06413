/- Digits: which is the greater one; numbers. -/
import Derived.Test.YtccbinnlnkpplaaBg2
namespace Go.Proofs.Ytccbinnlnkpplaa
set_option linter.all false
open Go.RowKit

def ordN (m n : Nat) : Int := if m < n then -1 else if m = n then 0 else 1
theorem ordN_lt {m n : Nat} (h : m < n) : ordN m n = -1 := by unfold ordN; rw [if_pos h]
theorem ordN_eq {m n : Nat} (h : m = n) : ordN m n = 0 := by unfold ordN; rw [if_neg (by omega), if_pos h]
theorem ordN_gt {m n : Nat} (h : n < m) : ordN m n = 1 := by unfold ordN; rw [if_neg (by omega), if_neg (by omega)]
theorem digs_inj {m n : Nat} (h : digs m = digs n) : m = n := by
  have h1 := dval_digs m
  rw [h, dval_digs] at h1
  omega
theorem of_dig {m n i : Nat} (hi : i < (digs m).length) (hl : (digs m).length = (digs n).length) (hj : ∀ j, i < j → dig (digs m) j = dig (digs n) j) (h : dig (digs m) i < dig (digs n) i) : m < n := by
  have := lt_of_dig (digs_dg m) (digs_dg n) hi hl hj h
  rw [dval_digs, dval_digs] at this
  omega
set_option maxRecDepth 100000 in
set_option maxHeartbeats 1000000 in
theorem border_any (m n : Nat) (a a2 : Option Addr) (c c2 : Nat) (hl : (digs m).length ≤ 100000) (hl2 : (digs n).length ≤ 100000) (w : World) (hA : AS w a (us (digs m))) (hA2 : AS w a2 (us (digs n))) : Calls Try.prog 143 #[.slice a (digs m).length c, .slice a2 (digs n).length c2] w fun e w' => e = .returned (.int .i64 (ordN m n)) ∧ Below w.heap.size w w' := by
  go_enter Try.func143, Try.ntmps143
  refine wk_start ?_
  refine wk_seq ?_
  refine wk_region [0] rfl (by kernel_rfl) ?_
  simp only [List.zip_cons_cons, List.zip_nil_right]
  refine rg_assign ?_
  simp only [Act.put, Act.eval, qn, qv, Nat.reduceAdd]
  refine rg_nil ?_
  refine ek_next ?_
  refine wk_seq ?_
  refine wk_seq ?_
  refine wk_region [0, 0, 0, 0, 0] rfl (by kernel_rfl) ?_
  simp only [List.zip_cons_cons, List.zip_nil_right]
  refine rg_move ?_
  simp only [Act.put, Act.eval, qn, qv, Nat.reduceAdd]
  refine rf_len rfl rfl rfl Try.underlying65 ?_
  simp only [Act.put, Act.eval, qn, qv, Nat.reduceAdd]
  refine rg_move ?_
  simp only [Act.put, Act.eval, qn, qv, Nat.reduceAdd]
  refine rf_len rfl rfl rfl Try.underlying65 ?_
  simp only [Act.put, Act.eval, qn, qv, Nat.reduceAdd]
  refine rfb_neq rfl rfl rfl rfl ?_
  intro x h1
  cases x
  · (try simp only [decide_eq_true_eq, decide_eq_false_iff_not, Int.not_lt, Int.not_le, beq_iff_eq, beq_eq_false_iff_ne, bne_iff_ne, bne_eq_false_iff_eq, ne_eq, Bool.not_eq_true', Bool.not_eq_false'] at h1)
    simp only [Act.put, Act.eval, qn, qv, Nat.reduceAdd]
    refine rg_nil ?_
    refine ek_next ?_
    refine wk_cond_f rfl ?_
    refine wk_skip ?_
    refine ek_next ?_
    refine wk_seq ?_
    refine wk_seq ?_
    refine wk_region [0, 0, 0, 0] rfl (by kernel_rfl) ?_
    simp only [List.zip_cons_cons, List.zip_nil_right]
    refine rg_move ?_
    simp only [Act.put, Act.eval, qn, qv, Nat.reduceAdd]
    refine rf_len rfl rfl rfl Try.underlying65 ?_
    simp only [Act.put, Act.eval, qn, qv, Nat.reduceAdd]
    refine rf_sub rfl rfl rfl rfl (wrap_ok (by omega) (by omega)) ?_
    simp only [Act.put, Act.eval, qn, qv, Nat.reduceAdd]
    refine rg_assign ?_
    simp only [Act.put, Act.eval, qn, qv, Nat.reduceAdd]
    refine rg_nil ?_
    refine ek_next ?_
    refine wk_block ?_
    refine wk_loopF [4, 5, 19, 20, 21, 22, 23, 24, 25, 26, 27, 28, 29, 30, 31, 32, 33, 34, 35, 36, 37, 38, 39, 40] (fun mz f s => ∃ (k : Nat) (j : Int), f 5 = .int .i64 j ∧ s = [] ∧ mz = k ∧ k ≤ (digs m).length ∧ (∀ t, k ≤ t → dig (digs m) t = dig (digs n) t) ∧ j + 1 ≤ k ∧ (k : Int) ≤ j + 1) ((fun (k : Nat) (j : Int) => k) ((digs m).length) (((digs m).length : Int) - 1)) ?_ (by kernel_rfl) ?_
    · exact ⟨(digs m).length, ((digs m).length : Int) - 1, rfl, rfl, rfl, by omega, fun t ht => by rw [dig_out (by omega), dig_out (by omega)], by omega, by omega⟩
    rintro mz f1 s ⟨k, j, hs1_5, rfl, hn, hc1, hc2, hc3, hc4⟩
    simp only [Act.putF, List.foldl_cons, List.foldl_nil, hs1_5, Act.put, Act.eval, q1, q2, q3, q4, q5, q6, q7, q8, q9, q10, q11, q12, q13, q14, q15, q16, q17, q18, Nat.reduceAdd, Bool.not_true, Bool.not_false]
    clear hs1_5
    refine wk_seq ?_
    refine wk_seq ?_
    refine wk_region [0, 0] rfl (by kernel_rfl) ?_
    simp only [List.zip_cons_cons, List.zip_nil_right]
    refine rg_move ?_
    simp only [Act.put, Act.eval, qn, qv, Nat.reduceAdd]
    refine rfb_geq rfl rfl rfl rfl ?_
    intro x h2
    cases x
    · (try simp only [decide_eq_true_eq, decide_eq_false_iff_not, Int.not_lt, Int.not_le, beq_iff_eq, beq_eq_false_iff_ne, bne_iff_ne, bne_eq_false_iff_eq, ne_eq, Bool.not_eq_true', Bool.not_eq_false'] at h2)
      simp only [Act.put, Act.eval, qn, qv, Nat.reduceAdd]
      refine rg_nil ?_
      refine ek_next ?_
      refine wk_cond_f rfl ?_
      refine wk_exit ?_
      refine ek_then_exit ?_
      refine ek_then_exit ?_
      refine ek_block_exit ?_
      refine ek_next ?_
      refine wk_seq ?_
      refine wk_region [0] rfl (by kernel_rfl) ?_
      simp only [List.zip_cons_cons, List.zip_nil_right]
      refine rg_assign ?_
      simp only [Act.put, Act.eval, qn, qv, Nat.reduceAdd]
      refine rg_nil ?_
      refine ek_next ?_
      refine wk_ret ?_
      refine ek_ret (fun w hw => ⟨rfl, _, res_t _ rfl, ?_⟩)
      (try simp only [Act.put, Act.eval, qn, qv, Nat.reduceAdd])
      exact ⟨by rw [ordN_eq (digs_inj (eq_of_dig (by omega) (fun j => hc2 j (by omega))))], hw.below⟩
    · (try simp only [decide_eq_true_eq, decide_eq_false_iff_not, Int.not_lt, Int.not_le, beq_iff_eq, beq_eq_false_iff_ne, bne_iff_ne, bne_eq_false_iff_eq, ne_eq, Bool.not_eq_true', Bool.not_eq_false'] at h2)
      simp only [Act.put, Act.eval, qn, qv, Nat.reduceAdd]
      obtain ⟨b, off, rfl, hlt, hcell⟩ := AS.openU hA (by omega)
      obtain ⟨b2, off2, rfl, hlt2, hcell2⟩ := AS.openU hA2 (by omega)
      refine rg_nil ?_
      refine ek_next ?_
      refine wk_cond_t rfl ?_
      refine wk_skip ?_
      refine ek_next ?_
      refine wk_seq ?_
      refine wk_block ?_
      refine wk_seq ?_
      refine wk_draws _ _ [(0, 0), (1, 0), (2, 0), (3, 0), (4, 0), (5, 0), (6, 0), (7, 0), (8, 0)] [] (by kernel_rfl) (by kernel_rfl) (fun c d v a w h => by cases d <;> exact h) (sn) (fun e => by first | exact absurd e (by decide) | rfl) ?_
      simp only [List.map_cons, List.map_nil, List.getD_cons_zero, List.getD_cons_succ]
      refine rg_move ?_
      simp only [Act.put, Act.eval, qn, qv, Nat.reduceAdd]
      refine rg_move ?_
      simp only [Act.put, Act.eval, qn, qv, Nat.reduceAdd]
      refine rf_indexS (n := k - 1) (sz := 1) (j := off + (k - 1) * 1) rfl rfl rfl rfl Try.underlying65 (by kernel_rfl) (by omega) (by omega) rfl ?_
      simp only [Act.put, Act.eval, qn, qv, Nat.reduceAdd]
      refine rf_load rfl rfl rfl Try.underlying160 rfl (fun w hw => (by have := (Kn.cellB hw hlt (by simp) (off + (k - 1))).trans (hcell (k - 1) (by omega)); simpa using this)) ?_
      simp only [Act.put, Act.eval, qn, qv, Nat.reduceAdd]
      refine rg_move ?_
      simp only [Act.put, Act.eval, qn, qv, Nat.reduceAdd]
      refine rg_move ?_
      simp only [Act.put, Act.eval, qn, qv, Nat.reduceAdd]
      refine rf_indexS (n := k - 1) (sz := 1) (j := off2 + (k - 1) * 1) rfl rfl rfl rfl Try.underlying65 (by kernel_rfl) (by omega) (by omega) rfl ?_
      simp only [Act.put, Act.eval, qn, qv, Nat.reduceAdd]
      refine rf_load rfl rfl rfl Try.underlying160 rfl (fun w hw => (by have := (Kn.cellB hw hlt2 (by simp) (off2 + (k - 1))).trans (hcell2 (k - 1) (by omega)); simpa using this)) ?_
      simp only [Act.put, Act.eval, qn, qv, Nat.reduceAdd]
      refine rfb_neq rfl rfl rfl rfl ?_
      intro x h3
      cases x
      · (try simp only [decide_eq_true_eq, decide_eq_false_iff_not, Int.not_lt, Int.not_le, beq_iff_eq, beq_eq_false_iff_ne, bne_iff_ne, bne_eq_false_iff_eq, ne_eq, Bool.not_eq_true', Bool.not_eq_false'] at h3)
        simp only [Act.put, Act.eval, qn, qv, Nat.reduceAdd]
        refine rg_nil ?_
        refine ek_next ?_
        refine wk_cond_f rfl ?_
        refine wk_skip ?_
        refine ek_block ?_
        refine ek_next ?_
        refine wk_region [0, 0, 0] rfl (by kernel_rfl) ?_
        simp only [List.zip_cons_cons, List.zip_nil_right]
        refine rg_move ?_
        simp only [Act.put, Act.eval, qn, qv, Nat.reduceAdd]
        refine rf_sub rfl rfl rfl rfl (wrap_ok (by omega) (by omega)) ?_
        simp only [Act.put, Act.eval, qn, qv, Nat.reduceAdd]
        refine rg_assign ?_
        simp only [Act.put, Act.eval, qn, qv, Nat.reduceAdd]
        refine rg_nil ?_
        refine ek_roundF (k - 1) (by omega) (by kernel_rfl) ?_
        exact ⟨k - 1, j - 1, rfl, by rfl, by rfl, (by omega), fun t ht => if he : t = k - 1 then (by subst he; omega) else hc2 t (by omega), (by omega), (by omega)⟩
      · (try simp only [decide_eq_true_eq, decide_eq_false_iff_not, Int.not_lt, Int.not_le, beq_iff_eq, beq_eq_false_iff_ne, bne_iff_ne, bne_eq_false_iff_eq, ne_eq, Bool.not_eq_true', Bool.not_eq_false'] at h3)
        simp only [Act.put, Act.eval, qn, qv, Nat.reduceAdd]
        refine rg_nil ?_
        refine ek_next ?_
        refine wk_cond_t rfl ?_
        refine wk_seq ?_
        refine wk_seq ?_
        refine wk_draws _ _ [(0, 0), (1, 0), (2, 0), (3, 0), (4, 0), (5, 0), (6, 0), (7, 0), (8, 0)] [] (by kernel_rfl) (by kernel_rfl) (fun c d v a w h => by cases d <;> exact h) (sn) (fun e => by first | exact absurd e (by decide) | rfl) ?_
        simp only [List.map_cons, List.map_nil, List.getD_cons_zero, List.getD_cons_succ]
        refine rg_move ?_
        simp only [Act.put, Act.eval, qn, qv, Nat.reduceAdd]
        refine rg_move ?_
        simp only [Act.put, Act.eval, qn, qv, Nat.reduceAdd]
        refine rf_indexS (n := k - 1) (sz := 1) (j := off + (k - 1) * 1) rfl rfl rfl rfl Try.underlying65 (by kernel_rfl) (by omega) (by omega) rfl ?_
        simp only [Act.put, Act.eval, qn, qv, Nat.reduceAdd]
        refine rf_load rfl rfl rfl Try.underlying160 rfl (fun w hw => (by have := (Kn.cellB hw hlt (by simp) (off + (k - 1))).trans (hcell (k - 1) (by omega)); simpa using this)) ?_
        simp only [Act.put, Act.eval, qn, qv, Nat.reduceAdd]
        refine rg_move ?_
        simp only [Act.put, Act.eval, qn, qv, Nat.reduceAdd]
        refine rg_move ?_
        simp only [Act.put, Act.eval, qn, qv, Nat.reduceAdd]
        refine rf_indexS (n := k - 1) (sz := 1) (j := off2 + (k - 1) * 1) rfl rfl rfl rfl Try.underlying65 (by kernel_rfl) (by omega) (by omega) rfl ?_
        simp only [Act.put, Act.eval, qn, qv, Nat.reduceAdd]
        refine rf_load rfl rfl rfl Try.underlying160 rfl (fun w hw => (by have := (Kn.cellB hw hlt2 (by simp) (off2 + (k - 1))).trans (hcell2 (k - 1) (by omega)); simpa using this)) ?_
        simp only [Act.put, Act.eval, qn, qv, Nat.reduceAdd]
        refine rfb_lss rfl rfl rfl rfl ?_
        intro x h4
        cases x
        · (try simp only [decide_eq_true_eq, decide_eq_false_iff_not, Int.not_lt, Int.not_le, beq_iff_eq, beq_eq_false_iff_ne, bne_iff_ne, bne_eq_false_iff_eq, ne_eq, Bool.not_eq_true', Bool.not_eq_false'] at h4)
          simp only [Act.put, Act.eval, qn, qv, Nat.reduceAdd]
          refine rg_nil ?_
          refine ek_next ?_
          refine wk_cond_f rfl ?_
          refine wk_skip ?_
          refine ek_next ?_
          refine wk_seq ?_
          refine wk_region [0] rfl (by kernel_rfl) ?_
          simp only [List.zip_cons_cons, List.zip_nil_right]
          refine rg_assign ?_
          simp only [Act.put, Act.eval, qn, qv, Nat.reduceAdd]
          refine rg_nil ?_
          refine ek_next ?_
          refine wk_ret ?_
          refine ek_block_ret ?_
          refine ek_then_ret ?_
          refine ek_then_ret ?_
          refine ek_block_ret ?_
          refine ek_then_ret ?_
          refine ek_ret (fun w hw => ⟨rfl, _, res_t _ rfl, ?_⟩)
          (try simp only [Act.put, Act.eval, qn, qv, Nat.reduceAdd])
          exact ⟨by rw [ordN_gt (of_dig (i := k - 1) (by omega) (by omega) (fun j hj => (hc2 j (by omega)).symm) (by omega))], hw.below⟩
        · (try simp only [decide_eq_true_eq, decide_eq_false_iff_not, Int.not_lt, Int.not_le, beq_iff_eq, beq_eq_false_iff_ne, bne_iff_ne, bne_eq_false_iff_eq, ne_eq, Bool.not_eq_true', Bool.not_eq_false'] at h4)
          simp only [Act.put, Act.eval, qn, qv, Nat.reduceAdd]
          refine rg_nil ?_
          refine ek_next ?_
          refine wk_cond_t rfl ?_
          refine wk_seq ?_
          refine wk_region [0] rfl (by kernel_rfl) ?_
          simp only [List.zip_cons_cons, List.zip_nil_right]
          refine rg_assign ?_
          simp only [Act.put, Act.eval, qn, qv, Nat.reduceAdd]
          refine rg_nil ?_
          refine ek_next ?_
          refine wk_ret ?_
          refine ek_then_ret ?_
          refine ek_block_ret ?_
          refine ek_then_ret ?_
          refine ek_then_ret ?_
          refine ek_block_ret ?_
          refine ek_then_ret ?_
          refine ek_ret (fun w hw => ⟨rfl, _, res_t _ rfl, ?_⟩)
          (try simp only [Act.put, Act.eval, qn, qv, Nat.reduceAdd])
          exact ⟨by rw [ordN_lt (of_dig (i := k - 1) (by omega) (by omega) (fun j hj => hc2 j (by omega)) (by omega))], hw.below⟩
  · (try simp only [decide_eq_true_eq, decide_eq_false_iff_not, Int.not_lt, Int.not_le, beq_iff_eq, beq_eq_false_iff_ne, bne_iff_ne, bne_eq_false_iff_eq, ne_eq, Bool.not_eq_true', Bool.not_eq_false'] at h1)
    simp only [Act.put, Act.eval, qn, qv, Nat.reduceAdd]
    refine rg_nil ?_
    refine ek_next ?_
    refine wk_cond_t rfl ?_
    refine wk_seq ?_
    refine wk_seq ?_
    refine wk_region [0, 0, 0, 0, 0] rfl (by kernel_rfl) ?_
    simp only [List.zip_cons_cons, List.zip_nil_right]
    refine rg_move ?_
    simp only [Act.put, Act.eval, qn, qv, Nat.reduceAdd]
    refine rf_len rfl rfl rfl Try.underlying65 ?_
    simp only [Act.put, Act.eval, qn, qv, Nat.reduceAdd]
    refine rg_move ?_
    simp only [Act.put, Act.eval, qn, qv, Nat.reduceAdd]
    refine rf_len rfl rfl rfl Try.underlying65 ?_
    simp only [Act.put, Act.eval, qn, qv, Nat.reduceAdd]
    refine rfb_lss rfl rfl rfl rfl ?_
    intro x h5
    cases x
    · (try simp only [decide_eq_true_eq, decide_eq_false_iff_not, Int.not_lt, Int.not_le, beq_iff_eq, beq_eq_false_iff_ne, bne_iff_ne, bne_eq_false_iff_eq, ne_eq, Bool.not_eq_true', Bool.not_eq_false'] at h5)
      simp only [Act.put, Act.eval, qn, qv, Nat.reduceAdd]
      refine rg_nil ?_
      refine ek_next ?_
      refine wk_cond_f rfl ?_
      refine wk_skip ?_
      refine ek_next ?_
      refine wk_seq ?_
      refine wk_region [0] rfl (by kernel_rfl) ?_
      simp only [List.zip_cons_cons, List.zip_nil_right]
      refine rg_assign ?_
      simp only [Act.put, Act.eval, qn, qv, Nat.reduceAdd]
      refine rg_nil ?_
      refine ek_next ?_
      refine wk_ret ?_
      refine ek_then_ret ?_
      refine ek_ret (fun w hw => ⟨rfl, _, res_t _ rfl, ?_⟩)
      (try simp only [Act.put, Act.eval, qn, qv, Nat.reduceAdd])
      exact ⟨by rw [ordN_gt (digs_lt_of_len (by omega))], hw.below⟩
    · (try simp only [decide_eq_true_eq, decide_eq_false_iff_not, Int.not_lt, Int.not_le, beq_iff_eq, beq_eq_false_iff_ne, bne_iff_ne, bne_eq_false_iff_eq, ne_eq, Bool.not_eq_true', Bool.not_eq_false'] at h5)
      simp only [Act.put, Act.eval, qn, qv, Nat.reduceAdd]
      refine rg_nil ?_
      refine ek_next ?_
      refine wk_cond_t rfl ?_
      refine wk_seq ?_
      refine wk_region [0] rfl (by kernel_rfl) ?_
      simp only [List.zip_cons_cons, List.zip_nil_right]
      refine rg_assign ?_
      simp only [Act.put, Act.eval, qn, qv, Nat.reduceAdd]
      refine rg_nil ?_
      refine ek_next ?_
      refine wk_ret ?_
      refine ek_then_ret ?_
      refine ek_then_ret ?_
      refine ek_ret (fun w hw => ⟨rfl, _, res_t _ rfl, ?_⟩)
      (try simp only [Act.put, Act.eval, qn, qv, Nat.reduceAdd])
      exact ⟨by rw [ordN_lt (digs_lt_of_len (by omega))], hw.below⟩

theorem push_digs {t : Int} {zs : List Int} (h : 0 < t) : (zs ++ [t % 4294967296]) ++ digs (t / 4294967296).toNat = zs ++ digs t.toNat := by
  rw [List.append_assoc, digs_pos (n := t.toNat) (by omega)]
  have e1 : ((t.toNat % 4294967296 : Nat) : Int) = t % 4294967296 := by omega
  have e2 : t.toNat / 4294967296 = (t / 4294967296).toNat := by omega
  rw [e1, e2]
  rfl
set_option maxRecDepth 100000 in
set_option maxHeartbeats 1000000 in
theorem bigOf_any (n : Int) (h0 : -9223372036854775808 ≤ n) (h1 : n ≤ 9223372036854775807) (w : World) : Calls Try.prog 97 #[.int .i64 n] w fun e w' => RetB w n e w' := by
  go_enter Try.func97, Try.ntmps97
  refine wk_start ?_
  refine wk_seq ?_
  refine wk_region [1] rfl (by kernel_rfl) ?_
  simp only [List.zip_cons_cons, List.zip_nil_right]
  refine rg_new (cs := ?_) (ty := ?_) (by rfl) (fun w => ?_) (fun _ h => by cases h) (fun g1 => ?_); rotate_left 2
  focus (go_simp; rfl)
  simp only [Act.put, Act.eval, qn, qv, Nat.reduceAdd]
  refine rg_nil ?_
  refine ek_next ?_
  refine wk_seq ?_
  refine wk_region [0, 0, 0, 1, 1] rfl (by kernel_rfl) ?_
  simp only [List.zip_cons_cons, List.zip_nil_right]
  refine rg_move ?_
  simp only [Act.put, Act.eval, qn, qv, Nat.reduceAdd]
  refine rf_lss rfl rfl rfl rfl rfl ?_
  simp only [Act.put, Act.eval, qn, qv, Nat.reduceAdd]
  refine rf_build (cs := fun a => #[a.eval (.tmp 6), .slice none 0 0]) rfl rfl (by kernel_rfl) ?_
  simp only [Act.put, Act.eval, qn, qv, Nat.reduceAdd]
  refine rg_new (cs := ?_) (ty := ?_) (by rfl) (fun w => ?_) (fun _ h => by cases h) (fun g2 => ?_); rotate_left 2
  focus (go_simp; rfl)
  simp only [Act.put, Act.eval, qn, qv, Nat.reduceAdd]
  refine rf_storeR (n := 2) rfl rfl (by kernel_rfl) rfl rfl (UpdR.here _ _ _ (Nat.le_of_ble_eq_true rfl)) (fun _ h => by cases h) ?_
  simp only [Act.put, Act.eval, qn, qv, Nat.reduceAdd]
  refine rg_nil ?_
  refine ek_next ?_
  refine wk_seq ?_
  refine wk_region [0, 0, 0] rfl (by kernel_rfl) ?_
  simp only [List.zip_cons_cons, List.zip_nil_right]
  refine rg_move ?_
  simp only [Act.put, Act.eval, qn, qv, Nat.reduceAdd]
  refine rf_conv rfl rfl rfl Try.underlying3 Try.underlying99 (IntKind.wrap_u64 _) ?_
  simp only [Act.put, Act.eval, qn, qv, Nat.reduceAdd]
  refine rg_assign ?_
  simp only [Act.put, Act.eval, qn, qv, Nat.reduceAdd]
  refine rg_nil ?_
  refine ek_next ?_
  refine wk_seq ?_
  refine wk_seq ?_
  refine wk_region [0, 0] rfl (by kernel_rfl) ?_
  simp only [List.zip_cons_cons, List.zip_nil_right]
  refine rf_field (n := 0) (j := 0) rfl rfl rfl Try.underlying67 rfl (by kernel_rfl) rfl ?_
  simp only [Act.put, Act.eval, qn, qv, Nat.reduceAdd]
  refine rf_load rfl rfl rfl Try.underlying4 rfl (fun w hw => (Kn.hd0 hw).at rfl) ?_
  simp only [Act.put, Act.eval, qn, qv, Nat.reduceAdd]
  refine rg_nil ?_
  refine ek_next ?_
  refine wk_cond (t := _) rfl (fun h1 => ?_) (fun h1 => ?_)
  · (try simp only [decide_eq_true_eq, decide_eq_false_iff_not, Bool.not_eq_true', Bool.not_eq_false', Int.not_lt, Int.not_le] at h1)
    refine wk_region [0, 0, 0] rfl (by kernel_rfl) ?_
    simp only [List.zip_cons_cons, List.zip_nil_right]
    refine rg_move ?_
    simp only [Act.put, Act.eval, qn, qv, Nat.reduceAdd]
    refine rf_neg rfl rfl rfl (IntKind.wrap_u64 _) ?_
    simp only [Act.put, Act.eval, qn, qv, Nat.reduceAdd]
    refine rg_assign ?_
    simp only [Act.put, Act.eval, qn, qv, Nat.reduceAdd]
    refine rg_nil ?_
    refine ek_next ?_
    refine wk_seq ?_
    refine wk_block ?_
    refine wk_loopF [4, 14, 15, 16, 17, 18, 19, 20, 21, 22, 23, 24] (fun mz f s => ∃ (t : Int) (va : Option Addr) (vl vc : Nat) (u : List Blk) (zs : List Int), f 4 = .int .u64 t ∧ s = (u ++ ((g2, .cells #[.bool (decide (n < 0)), .slice va vl vc] 67) :: ((g1, .cells #[.bool false, .slice none 0 0] 67) :: []))) ∧ mz = t.toNat ∧ OwnG DgE 160 u (.slice va vl vc) zs ∧ zs ++ digs t.toNat = digs n.natAbs ∧ 0 ≤ t ∧ t < 18446744073709551616) ((fun (t : Int) (va : Option Addr) (vl vc : Nat) (u : List Blk) (zs : List Int) => t.toNat) ((-(n % 18446744073709551616)) % 18446744073709551616) (none) (0) (0) ([]) ([])) ?_ (by kernel_rfl) ?_
    · exact ⟨(-(n % 18446744073709551616)) % 18446744073709551616, none, 0, 0, [], [], rfl, rfl, rfl, OwnG.nil, (by simp; congr 1; omega), (by omega), (by omega)⟩
    rintro mz f1 s ⟨t, va, vl, vc, u, zs, hs1_4, rfl, hn, hc1, hc2, hc3, hc4⟩
    simp only [Act.putF, List.foldl_cons, List.foldl_nil, hs1_4, Act.put, Act.eval, q1, q2, q3, q4, q5, q6, q7, q8, q9, q10, q11, q12, q13, q14, q15, q16, q17, q18, Nat.reduceAdd, Bool.not_true, Bool.not_false]
    clear hs1_4
    have hO := hc1
    have hzl : zs.length ≤ 2 := by (have h1 := congrArg List.length hc2; rw [List.length_append] at h1; have h2 := digs_len_le (n := n.natAbs) (L := 2) (by omega); omega)
    have heq := Lib.hid hc2
    clear hc2
    refine wk_seq ?_
    refine wk_seq ?_
    refine wk_region [0, 0] rfl (by kernel_rfl) ?_
    simp only [List.zip_cons_cons, List.zip_nil_right]
    refine rg_move ?_
    simp only [Act.put, Act.eval, qn, qv, Nat.reduceAdd]
    refine rfb_gtr rfl rfl rfl rfl ?_
    intro x h2
    cases x
    · (try simp only [decide_eq_true_eq, decide_eq_false_iff_not, Int.not_lt, Int.not_le, beq_iff_eq, beq_eq_false_iff_ne, bne_iff_ne, bne_eq_false_iff_eq, ne_eq, Bool.not_eq_true', Bool.not_eq_false'] at h2)
      simp only [Act.put, Act.eval, qn, qv, Nat.reduceAdd]
      refine rg_nil ?_
      refine ek_next ?_
      refine wk_cond_f rfl ?_
      refine wk_exit ?_
      refine ek_then_exit ?_
      refine ek_then_exit ?_
      refine ek_block_exit ?_
      refine ek_next ?_
      refine wk_seq ?_
      refine wk_region [0, 1] rfl (by kernel_rfl) ?_
      simp only [List.zip_cons_cons, List.zip_nil_right]
      refine rf_loadR (n := 2) rfl rfl rfl Try.underlying67 rfl (by kernel_rfl) (fun w hw => Kn.hd0 (Kn.tlU hw)) rfl rfl ?_
      simp only [Act.put, Act.eval, qn, qv, Nat.reduceAdd]
      refine rf_storeR (n := 2) rfl rfl (by kernel_rfl) rfl rfl (UpdR.app _ (UpdR.there _ (UpdR.here _ _ _ (Nat.le_of_ble_eq_true rfl)))) (fun _ h => by cases h) ?_
      simp only [Act.put, Act.eval, qn, qv, Nat.reduceAdd]
      refine rg_nil ?_
      refine ek_next ?_
      refine wk_ret ?_
      refine ek_ret (fun w hw => ⟨rfl, _, run_results1 rfl rfl (Kn.hd0 (Kn.tl (Kn.tlU hw))) Try.underlying67 rfl (by kernel_rfl), ?_⟩)
      (try simp only [Act.put, Act.eval, qn, qv, Nat.reduceAdd])
      have ht : t = 0 := by omega
      subst ht
      have e1 : zs = digs n.natAbs := by (have := heq.out; rwa [show (0 : Int).toNat = 0 from rfl, digs_zero, List.append_nil] at this)
      subst e1
      obtain ⟨a0, c0, e0, hcap⟩ := hO.val
      injection e0 with e1 e2 e3
      subst e1 e2 e3
      exact ⟨_, u, rfl, ⟨.slice va _ vc, rfl, SU.own hO _ (Nat.le_refl _) (List.take_length ..) rfl⟩, hw.made (by simp)⟩
    · (try simp only [decide_eq_true_eq, decide_eq_false_iff_not, Int.not_lt, Int.not_le, beq_iff_eq, beq_eq_false_iff_ne, bne_iff_ne, bne_eq_false_iff_eq, ne_eq, Bool.not_eq_true', Bool.not_eq_false'] at h2)
      simp only [Act.put, Act.eval, qn, qv, Nat.reduceAdd]
      refine rg_nil ?_
      refine ek_next ?_
      refine wk_cond_t rfl ?_
      refine wk_skip ?_
      refine ek_next ?_
      refine wk_block ?_
      refine wk_seq ?_
      refine wk_region [0, 0, 0, 0, 1, 1, 0, 1] rfl (by kernel_rfl) ?_
      simp only [List.zip_cons_cons, List.zip_nil_right]
      refine rf_field (n := 0) (j := 1) rfl rfl rfl Try.underlying67 rfl (by kernel_rfl) rfl ?_
      simp only [Act.put, Act.eval, qn, qv, Nat.reduceAdd]
      refine rf_load rfl rfl rfl Try.underlying65 rfl (fun w hw => (Kn.hd0 (Kn.tlU hw)).at rfl) ?_
      simp only [Act.put, Act.eval, qn, qv, Nat.reduceAdd]
      refine rg_move ?_
      simp only [Act.put, Act.eval, qn, qv, Nat.reduceAdd]
      refine rf_conv rfl rfl rfl Try.underlying99 Try.underlying160 (IntKind.wrap_u32 _) ?_
      simp only [Act.put, Act.eval, qn, qv, Nat.reduceAdd]
      refine rg_newS (cs := ?_) (ty := ?_) (n := 1) (c := 1) (by rfl) (fun w => ?_) (fun _ h => by cases h) (fun g3 => ?_); rotate_left 2
      focus (go_simp; rfl)
      simp only [Act.put, Act.eval, qn, qv, Nat.reduceAdd]
      refine rg_pushU rfl rfl hc1 rfl (by omega) (fun _ h => by cases h) (fun u4 v4 hO4 => ?_)
      simp only [Act.put, Act.eval, qn, qv, Nat.reduceAdd]
      obtain ⟨va4, vc4, rfl, hcap4⟩ := hO4.val
      refine rf_field (n := 0) (j := 1) rfl rfl rfl Try.underlying67 rfl (by kernel_rfl) rfl ?_
      simp only [Act.put, Act.eval, qn, qv, Nat.reduceAdd]
      refine rf_store rfl rfl (by kernel_rfl) rfl rfl (UpdR.app _ (UpdR.here _ _ _ (Nat.le_of_ble_eq_true rfl))) (fun _ h => by cases h) ?_
      simp only [Act.put, Act.eval, qn, qv, Nat.reduceAdd]
      refine rg_nil ?_
      refine ek_next ?_
      refine wk_region [0, 0, 0] rfl (by kernel_rfl) ?_
      simp only [List.zip_cons_cons, List.zip_nil_right]
      refine rg_move ?_
      simp only [Act.put, Act.eval, qn, qv, Nat.reduceAdd]
      refine rf_shr (c := 32) (q := 4294967296) rfl rfl rfl rfl rfl (by decide) ?_
      simp only [Act.put, Act.eval, qn, qv, Nat.reduceAdd]
      refine rg_assign ?_
      simp only [Act.put, Act.eval, qn, qv, Nat.reduceAdd]
      refine rg_nil ?_
      refine ek_block ?_
      have hst : (zs ++ [t % 4294967296]) ++ digs (t / 4294967296).toNat = digs n.natAbs := by rw [← heq.out, push_digs (by omega)]
      refine ek_roundF ((t / 4294967296).toNat) ((by omega)) (by kernel_rfl) ?_
      exact ⟨t / 4294967296, va4, _, vc4, u4, zs ++ [t % 4294967296], rfl, by rfl, by rfl, hO4, hst, (by omega), (by omega)⟩
  · (try simp only [decide_eq_true_eq, decide_eq_false_iff_not, Bool.not_eq_true', Bool.not_eq_false', Int.not_lt, Int.not_le] at h1)
    refine wk_skip ?_
    refine ek_next ?_
    refine wk_seq ?_
    refine wk_block ?_
    refine wk_loopF [4, 14, 15, 16, 17, 18, 19, 20, 21, 22, 23, 24] (fun mz f s => ∃ (t : Int) (va : Option Addr) (vl vc : Nat) (u : List Blk) (zs : List Int), f 4 = .int .u64 t ∧ s = (u ++ ((g2, .cells #[.bool (decide (n < 0)), .slice va vl vc] 67) :: ((g1, .cells #[.bool false, .slice none 0 0] 67) :: []))) ∧ mz = t.toNat ∧ OwnG DgE 160 u (.slice va vl vc) zs ∧ zs ++ digs t.toNat = digs n.natAbs ∧ 0 ≤ t ∧ t < 18446744073709551616) ((fun (t : Int) (va : Option Addr) (vl vc : Nat) (u : List Blk) (zs : List Int) => t.toNat) (n % 18446744073709551616) (none) (0) (0) ([]) ([])) ?_ (by kernel_rfl) ?_
    · exact ⟨n % 18446744073709551616, none, 0, 0, [], [], rfl, rfl, rfl, OwnG.nil, (by simp; congr 1; omega), (by omega), (by omega)⟩
    rintro mz f1 s ⟨t, va, vl, vc, u, zs, hs1_4, rfl, hn, hc1, hc2, hc3, hc4⟩
    simp only [Act.putF, List.foldl_cons, List.foldl_nil, hs1_4, Act.put, Act.eval, q1, q2, q3, q4, q5, q6, q7, q8, q9, q10, q11, q12, q13, q14, q15, q16, q17, q18, Nat.reduceAdd, Bool.not_true, Bool.not_false]
    clear hs1_4
    have hO := hc1
    have hzl : zs.length ≤ 2 := by (have h1 := congrArg List.length hc2; rw [List.length_append] at h1; have h2 := digs_len_le (n := n.natAbs) (L := 2) (by omega); omega)
    have heq := Lib.hid hc2
    clear hc2
    refine wk_seq ?_
    refine wk_seq ?_
    refine wk_region [0, 0] rfl (by kernel_rfl) ?_
    simp only [List.zip_cons_cons, List.zip_nil_right]
    refine rg_move ?_
    simp only [Act.put, Act.eval, qn, qv, Nat.reduceAdd]
    refine rfb_gtr rfl rfl rfl rfl ?_
    intro x h3
    cases x
    · (try simp only [decide_eq_true_eq, decide_eq_false_iff_not, Int.not_lt, Int.not_le, beq_iff_eq, beq_eq_false_iff_ne, bne_iff_ne, bne_eq_false_iff_eq, ne_eq, Bool.not_eq_true', Bool.not_eq_false'] at h3)
      simp only [Act.put, Act.eval, qn, qv, Nat.reduceAdd]
      refine rg_nil ?_
      refine ek_next ?_
      refine wk_cond_f rfl ?_
      refine wk_exit ?_
      refine ek_then_exit ?_
      refine ek_then_exit ?_
      refine ek_block_exit ?_
      refine ek_next ?_
      refine wk_seq ?_
      refine wk_region [0, 1] rfl (by kernel_rfl) ?_
      simp only [List.zip_cons_cons, List.zip_nil_right]
      refine rf_loadR (n := 2) rfl rfl rfl Try.underlying67 rfl (by kernel_rfl) (fun w hw => Kn.hd0 (Kn.tlU hw)) rfl rfl ?_
      simp only [Act.put, Act.eval, qn, qv, Nat.reduceAdd]
      refine rf_storeR (n := 2) rfl rfl (by kernel_rfl) rfl rfl (UpdR.app _ (UpdR.there _ (UpdR.here _ _ _ (Nat.le_of_ble_eq_true rfl)))) (fun _ h => by cases h) ?_
      simp only [Act.put, Act.eval, qn, qv, Nat.reduceAdd]
      refine rg_nil ?_
      refine ek_next ?_
      refine wk_ret ?_
      refine ek_ret (fun w hw => ⟨rfl, _, run_results1 rfl rfl (Kn.hd0 (Kn.tl (Kn.tlU hw))) Try.underlying67 rfl (by kernel_rfl), ?_⟩)
      (try simp only [Act.put, Act.eval, qn, qv, Nat.reduceAdd])
      have ht : t = 0 := by omega
      subst ht
      have e1 : zs = digs n.natAbs := by (have := heq.out; rwa [show (0 : Int).toNat = 0 from rfl, digs_zero, List.append_nil] at this)
      subst e1
      obtain ⟨a0, c0, e0, hcap⟩ := hO.val
      injection e0 with e1 e2 e3
      subst e1 e2 e3
      exact ⟨_, u, rfl, ⟨.slice va _ vc, rfl, SU.own hO _ (Nat.le_refl _) (List.take_length ..) rfl⟩, hw.made (by simp)⟩
    · (try simp only [decide_eq_true_eq, decide_eq_false_iff_not, Int.not_lt, Int.not_le, beq_iff_eq, beq_eq_false_iff_ne, bne_iff_ne, bne_eq_false_iff_eq, ne_eq, Bool.not_eq_true', Bool.not_eq_false'] at h3)
      simp only [Act.put, Act.eval, qn, qv, Nat.reduceAdd]
      refine rg_nil ?_
      refine ek_next ?_
      refine wk_cond_t rfl ?_
      refine wk_skip ?_
      refine ek_next ?_
      refine wk_block ?_
      refine wk_seq ?_
      refine wk_region [0, 0, 0, 0, 1, 1, 0, 1] rfl (by kernel_rfl) ?_
      simp only [List.zip_cons_cons, List.zip_nil_right]
      refine rf_field (n := 0) (j := 1) rfl rfl rfl Try.underlying67 rfl (by kernel_rfl) rfl ?_
      simp only [Act.put, Act.eval, qn, qv, Nat.reduceAdd]
      refine rf_load rfl rfl rfl Try.underlying65 rfl (fun w hw => (Kn.hd0 (Kn.tlU hw)).at rfl) ?_
      simp only [Act.put, Act.eval, qn, qv, Nat.reduceAdd]
      refine rg_move ?_
      simp only [Act.put, Act.eval, qn, qv, Nat.reduceAdd]
      refine rf_conv rfl rfl rfl Try.underlying99 Try.underlying160 (IntKind.wrap_u32 _) ?_
      simp only [Act.put, Act.eval, qn, qv, Nat.reduceAdd]
      refine rg_newS (cs := ?_) (ty := ?_) (n := 1) (c := 1) (by rfl) (fun w => ?_) (fun _ h => by cases h) (fun g5 => ?_); rotate_left 2
      focus (go_simp; rfl)
      simp only [Act.put, Act.eval, qn, qv, Nat.reduceAdd]
      refine rg_pushU rfl rfl hc1 rfl (by omega) (fun _ h => by cases h) (fun u6 v6 hO6 => ?_)
      simp only [Act.put, Act.eval, qn, qv, Nat.reduceAdd]
      obtain ⟨va6, vc6, rfl, hcap6⟩ := hO6.val
      refine rf_field (n := 0) (j := 1) rfl rfl rfl Try.underlying67 rfl (by kernel_rfl) rfl ?_
      simp only [Act.put, Act.eval, qn, qv, Nat.reduceAdd]
      refine rf_store rfl rfl (by kernel_rfl) rfl rfl (UpdR.app _ (UpdR.here _ _ _ (Nat.le_of_ble_eq_true rfl))) (fun _ h => by cases h) ?_
      simp only [Act.put, Act.eval, qn, qv, Nat.reduceAdd]
      refine rg_nil ?_
      refine ek_next ?_
      refine wk_region [0, 0, 0] rfl (by kernel_rfl) ?_
      simp only [List.zip_cons_cons, List.zip_nil_right]
      refine rg_move ?_
      simp only [Act.put, Act.eval, qn, qv, Nat.reduceAdd]
      refine rf_shr (c := 32) (q := 4294967296) rfl rfl rfl rfl rfl (by decide) ?_
      simp only [Act.put, Act.eval, qn, qv, Nat.reduceAdd]
      refine rg_assign ?_
      simp only [Act.put, Act.eval, qn, qv, Nat.reduceAdd]
      refine rg_nil ?_
      refine ek_block ?_
      have hst : (zs ++ [t % 4294967296]) ++ digs (t / 4294967296).toNat = digs n.natAbs := by rw [← heq.out, push_digs (by omega)]
      refine ek_roundF ((t / 4294967296).toNat) ((by omega)) (by kernel_rfl) ?_
      exact ⟨t / 4294967296, va6, _, vc6, u6, zs ++ [t % 4294967296], rfl, by rfl, by rfl, hO6, hst, (by omega), (by omega)⟩

end Go.Proofs.Ytccbinnlnkpplaa
