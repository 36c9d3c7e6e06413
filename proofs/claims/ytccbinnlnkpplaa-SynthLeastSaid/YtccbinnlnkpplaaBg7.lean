/- Numbers of any size: sums, differences. -/
import Derived.Test.YtccbinnlnkpplaaBg6
namespace Go.Proofs.Ytccbinnlnkpplaa
set_option linter.all false
open Go.RowKit

theorem ordN_cases (m n : Nat) : (m < n ∧ ordN m n = -1) ∨ (m = n ∧ ordN m n = 0) ∨ (n < m ∧ ordN m n = 1) := by
  rcases Nat.lt_trichotomy m n with h | h | h
  · exact .inl ⟨h, ordN_lt h⟩
  · exact .inr (.inl ⟨h, ordN_eq h⟩)
  · exact .inr (.inr ⟨h, ordN_gt h⟩)
theorem digs_len_mono {m n : Nat} (h : m ≤ n) : (digs m).length ≤ (digs n).length := by
  rcases Nat.lt_or_ge (digs n).length (digs m).length with hl | hl
  · have := digs_lt_of_len hl; omega
  · exact hl
set_option maxRecDepth 100000 in
set_option maxHeartbeats 1000000 in
theorem badd_any (m n : Int) (s s2 : Value) (hl : (digs m.natAbs).length ≤ 1000) (hl2 : (digs n.natAbs).length ≤ 1000) (w : World) (hs : SA w s m.natAbs) (hs2 : SA w s2 n.natAbs) : Calls Try.prog 99 #[bgV m s, bgV n s2] w fun e w' => RetB w (m + n) e w' := by
  obtain ⟨a, c, rfl, hA⟩ := hs
  obtain ⟨a2, c2, rfl, hA2⟩ := hs2
  go_enter Try.func99, Try.ntmps99
  refine wk_start ?_
  refine wk_seq ?_
  refine wk_region [1, 1, 1] rfl (by kernel_rfl) ?_
  simp only [List.zip_cons_cons, List.zip_nil_right]
  refine rg_new (cs := ?_) (ty := ?_) (by rfl) (fun w => ?_) (fun _ h => by cases h) (fun g1 => ?_); rotate_left 2
  focus (go_simp; rfl)
  simp only [Act.put, Act.eval, qn, qv, Nat.reduceAdd]
  refine rg_new (cs := ?_) (ty := ?_) (by rfl) (fun w => ?_) (fun _ h => by cases h) (fun g2 => ?_); rotate_left 2
  focus (go_simp; rfl)
  simp only [Act.put, Act.eval, qn, qv, Nat.reduceAdd]
  refine rg_new (cs := ?_) (ty := ?_) (by rfl) (fun w => ?_) (fun _ h => by cases h) (fun g3 => ?_); rotate_left 2
  focus (go_simp; rfl)
  simp only [Act.put, Act.eval, qn, qv, Nat.reduceAdd]
  refine rg_nil ?_
  refine ek_next ?_
  refine wk_seq ?_
  refine wk_seq ?_
  refine wk_region [0, 0, 0, 0, 0] rfl (by kernel_rfl) ?_
  simp only [List.zip_cons_cons, List.zip_nil_right]
  refine rf_field (n := 0) (j := 0) rfl rfl rfl Try.underlying67 rfl (by kernel_rfl) rfl ?_
  simp only [Act.put, Act.eval, qn, qv, Nat.reduceAdd]
  refine rf_load rfl rfl rfl Try.underlying4 rfl (fun w hw => (Kn.hd0 (Kn.tl (Kn.tl hw))).at rfl) ?_
  simp only [Act.put, Act.eval, qn, qv, Nat.reduceAdd]
  refine rf_field (n := 0) (j := 0) rfl rfl rfl Try.underlying67 rfl (by kernel_rfl) rfl ?_
  simp only [Act.put, Act.eval, qn, qv, Nat.reduceAdd]
  refine rf_load rfl rfl rfl Try.underlying4 rfl (fun w hw => (Kn.hd0 (Kn.tl hw)).at rfl) ?_
  simp only [Act.put, Act.eval, qn, qv, Nat.reduceAdd]
  apply rg_softb
  case hy => (intro w hw; go_simp; (try go_bits); exact Yld.mk _ _)
  intro x h1
  cases x
  · (try simp only [decide_eq_true_eq, decide_eq_false_iff_not, Int.not_lt, Int.not_le, beq_iff_eq, beq_eq_false_iff_ne, bne_iff_ne, bne_eq_false_iff_eq, ne_eq, Bool.not_eq_true', Bool.not_eq_false'] at h1)
    simp only [Act.put, Act.eval, qn, qv, Nat.reduceAdd]
    refine rg_nil ?_
    refine ek_next ?_
    refine wk_cond_f rfl ?_
    refine wk_skip ?_
    refine ek_next ?_
    refine wk_seq ?_
    refine wk_seq ?_
    refine wk_region [0, 0, 0, 0, 1] rfl (by kernel_rfl) ?_
    simp only [List.zip_cons_cons, List.zip_nil_right]
    refine rf_field (n := 0) (j := 1) rfl rfl rfl Try.underlying67 rfl (by kernel_rfl) rfl ?_
    simp only [Act.put, Act.eval, qn, qv, Nat.reduceAdd]
    refine rf_load rfl rfl rfl Try.underlying65 rfl (fun w hw => (Kn.hd0 (Kn.tl (Kn.tl hw))).at rfl) ?_
    simp only [Act.put, Act.eval, qn, qv, Nat.reduceAdd]
    refine rf_field (n := 0) (j := 1) rfl rfl rfl Try.underlying67 rfl (by kernel_rfl) rfl ?_
    simp only [Act.put, Act.eval, qn, qv, Nat.reduceAdd]
    refine rf_load rfl rfl rfl Try.underlying65 rfl (fun w hw => (Kn.hd0 (Kn.tl hw)).at rfl) ?_
    simp only [Act.put, Act.eval, qn, qv, Nat.reduceAdd]
    apply rg_pure (by rfl) (by kernel_rfl)
    case hargs => (simp only [qm, qs, Act.eval]; exact rfl)
    case h => exact fun w hw => border_any m.natAbs n.natAbs _ _ _ _ (by omega) (by omega) w (hA.kn0 hw) (hA2.kn0 hw)
    case hz => exact (fun _ h => by cases h)
    simp only [Act.put, Act.eval, qn, qv, Nat.reduceAdd]
    refine rg_nil ?_
    refine ek_next ?_
    refine wk_block ?_
    refine wk_seq ?_
    refine wk_region [0, 0] rfl (by kernel_rfl) ?_
    simp only [List.zip_cons_cons, List.zip_nil_right]
    refine rfb_eql rfl rfl rfl rfl ?_
    intro x h2
    cases x
    · (try simp only [decide_eq_true_eq, decide_eq_false_iff_not, Int.not_lt, Int.not_le, beq_iff_eq, beq_eq_false_iff_ne, bne_iff_ne, bne_eq_false_iff_eq, ne_eq, Bool.not_eq_true', Bool.not_eq_false'] at h2)
      simp only [Act.put, Act.eval, qn, qv, Nat.reduceAdd]
      have hord := ordN_cases m.natAbs n.natAbs
      refine rg_assign ?_
      simp only [Act.put, Act.eval, qn, qv, Nat.reduceAdd]
      refine rg_nil ?_
      refine ek_next ?_
      refine wk_cond_f rfl ?_
      refine wk_seq ?_
      refine wk_region [0, 0] rfl (by kernel_rfl) ?_
      simp only [List.zip_cons_cons, List.zip_nil_right]
      refine rfb_eql rfl rfl rfl rfl ?_
      intro x h3
      cases x
      · (try simp only [decide_eq_true_eq, decide_eq_false_iff_not, Int.not_lt, Int.not_le, beq_iff_eq, beq_eq_false_iff_ne, bne_iff_ne, bne_eq_false_iff_eq, ne_eq, Bool.not_eq_true', Bool.not_eq_false'] at h3)
        simp only [Act.put, Act.eval, qn, qv, Nat.reduceAdd]
        have hordv : m.natAbs < n.natAbs := by omega
        refine rg_assign ?_
        simp only [Act.put, Act.eval, qn, qv, Nat.reduceAdd]
        refine rg_nil ?_
        refine ek_next ?_
        refine wk_cond_f rfl ?_
        refine wk_skip ?_
        refine ek_block ?_
        refine ek_next ?_
        refine wk_seq ?_
        refine wk_draws_m (hz1 := (sk _ (sc _ (sc _ sn)))) [(0, 0), (1, 0), (2, 0), (3, 0), (4, 0), (5, 0), (6, 1), (7, 0), (8, 2)] 8 (by kernel_rfl) (by kernel_rfl) (fun c d v a w h => by cases d <;> exact h) ?_
        simp only [List.map_cons, List.map_nil, List.getD_cons_zero, List.getD_cons_succ]
        refine rf_field (n := 0) (j := 0) rfl rfl rfl Try.underlying67 rfl (by kernel_rfl) rfl ?_
        simp only [Act.put, Act.eval, qn, qv, Nat.reduceAdd]
        refine rf_load rfl rfl rfl Try.underlying4 rfl (fun w hw => (Kn.hd0 (Kn.tl hw)).at rfl) ?_
        simp only [Act.put, Act.eval, qn, qv, Nat.reduceAdd]
        refine rf_field (n := 0) (j := 1) rfl rfl rfl Try.underlying67 rfl (by kernel_rfl) rfl ?_
        simp only [Act.put, Act.eval, qn, qv, Nat.reduceAdd]
        refine rf_load rfl rfl rfl Try.underlying65 rfl (fun w hw => (Kn.hd0 (Kn.tl hw)).at rfl) ?_
        simp only [Act.put, Act.eval, qn, qv, Nat.reduceAdd]
        refine rf_field (n := 0) (j := 1) rfl rfl rfl Try.underlying67 rfl (by kernel_rfl) rfl ?_
        simp only [Act.put, Act.eval, qn, qv, Nat.reduceAdd]
        refine rf_load rfl rfl rfl Try.underlying65 rfl (fun w hw => (Kn.hd0 (Kn.tl (Kn.tl hw))).at rfl) ?_
        simp only [Act.put, Act.eval, qn, qv, Nat.reduceAdd]
        have hlt := hordv
        apply (rg_made (T := fun v u => SU u v (dval (digs n.natAbs) - dval (digs m.natAbs)).toNat)) (by rfl) (by kernel_rfl)
        case hargs => (simp only [qm, qs, Act.eval]; exact rfl)
        case h => exact fun w hw => bminus_any (digs n.natAbs) (digs m.natAbs) _ _ _ _ (digs_dg _) (digs_dg _) (by omega) (by omega) (by rw [dval_digs, dval_digs]; omega) (digs_len_mono (by omega)) w (hA2.kn0 hw) (hA.kn0 hw)
        case hz => exact (fun _ h => by cases h; exact (sc _ (sc _ (sc _ sn))))
        intro v4 u4 hS
        obtain ⟨⟨sa4, sc4, rfl⟩, -⟩ := id hS
        simp only [Act.put, Act.eval, qn, qv, Nat.reduceAdd]
        refine rf_build (cs := fun a => #[a.eval (.tmp 37), a.eval (.tmp 42)]) rfl rfl (by kernel_rfl) ?_
        simp only [Act.put, Act.eval, qn, qv, Nat.reduceAdd]
        refine rf_storeRM (n := 2) rfl rfl (by kernel_rfl) rfl rfl (UpdR.app _ (UpdR.here _ _ _ (Nat.le_of_ble_eq_true rfl))) ((sk _ (sc _ (sc _ sn))).trans (List.sublist_append_right _ _)) ?_
        simp only [Act.put, Act.eval, qn, qv, Nat.reduceAdd]
        refine rg_nil ?_
        refine ek_next ?_
        refine wk_ret ?_
        refine ek_ret (fun w hw => ⟨rfl, _, run_results1 rfl rfl (Kn.hd0 (Kn.tlU hw)) Try.underlying67 rfl (by kernel_rfl), ?_⟩)
        (try simp only [Act.put, Act.eval, qn, qv, Nat.reduceAdd])
        have hsg : (m < 0 ↔ ¬ n < 0) := by (have h := h1; revert h; by_cases h1 : m < 0 <;> by_cases h2 : n < 0 <;> simp [h1, h2])
        have e1 : (dval (digs n.natAbs) - dval (digs m.natAbs)).toNat = (m + n).natAbs := by rw [dval_digs, dval_digs]; omega
        rw [e1] at hS
        refine ⟨_, _, rfl, ⟨_, ?_, hS⟩, hw.made (List.sublist_append_left _ _)⟩
        unfold bgV
        rw [show decide (m + n < 0) = decide (n < 0) from decide_eq_decide.2 (by omega), e1]
      · (try simp only [decide_eq_true_eq, decide_eq_false_iff_not, Int.not_lt, Int.not_le, beq_iff_eq, beq_eq_false_iff_ne, bne_iff_ne, bne_eq_false_iff_eq, ne_eq, Bool.not_eq_true', Bool.not_eq_false'] at h3)
        simp only [Act.put, Act.eval, qn, qv, Nat.reduceAdd]
        have hordv : n.natAbs < m.natAbs := by omega
        refine rg_assign ?_
        simp only [Act.put, Act.eval, qn, qv, Nat.reduceAdd]
        refine rg_nil ?_
        refine ek_next ?_
        refine wk_cond_t rfl ?_
        refine wk_seq ?_
        refine wk_draws_m (hz1 := (sk _ (sc _ (sc _ sn)))) [(0, 0), (1, 0), (2, 0), (3, 0), (4, 0), (5, 0), (6, 1), (7, 0), (8, 2)] 8 (by kernel_rfl) (by kernel_rfl) (fun c d v a w h => by cases d <;> exact h) ?_
        simp only [List.map_cons, List.map_nil, List.getD_cons_zero, List.getD_cons_succ]
        refine rf_field (n := 0) (j := 0) rfl rfl rfl Try.underlying67 rfl (by kernel_rfl) rfl ?_
        simp only [Act.put, Act.eval, qn, qv, Nat.reduceAdd]
        refine rf_load rfl rfl rfl Try.underlying4 rfl (fun w hw => (Kn.hd0 (Kn.tl (Kn.tl hw))).at rfl) ?_
        simp only [Act.put, Act.eval, qn, qv, Nat.reduceAdd]
        refine rf_field (n := 0) (j := 1) rfl rfl rfl Try.underlying67 rfl (by kernel_rfl) rfl ?_
        simp only [Act.put, Act.eval, qn, qv, Nat.reduceAdd]
        refine rf_load rfl rfl rfl Try.underlying65 rfl (fun w hw => (Kn.hd0 (Kn.tl (Kn.tl hw))).at rfl) ?_
        simp only [Act.put, Act.eval, qn, qv, Nat.reduceAdd]
        refine rf_field (n := 0) (j := 1) rfl rfl rfl Try.underlying67 rfl (by kernel_rfl) rfl ?_
        simp only [Act.put, Act.eval, qn, qv, Nat.reduceAdd]
        refine rf_load rfl rfl rfl Try.underlying65 rfl (fun w hw => (Kn.hd0 (Kn.tl hw)).at rfl) ?_
        simp only [Act.put, Act.eval, qn, qv, Nat.reduceAdd]
        have hlt := hordv
        apply (rg_made (T := fun v u => SU u v (dval (digs m.natAbs) - dval (digs n.natAbs)).toNat)) (by rfl) (by kernel_rfl)
        case hargs => (simp only [qm, qs, Act.eval]; exact rfl)
        case h => exact fun w hw => bminus_any (digs m.natAbs) (digs n.natAbs) _ _ _ _ (digs_dg _) (digs_dg _) (by omega) (by omega) (by rw [dval_digs, dval_digs]; omega) (digs_len_mono (by omega)) w (hA.kn0 hw) (hA2.kn0 hw)
        case hz => exact (fun _ h => by cases h; exact (sc _ (sc _ (sc _ sn))))
        intro v5 u5 hS
        obtain ⟨⟨sa5, sc5, rfl⟩, -⟩ := id hS
        simp only [Act.put, Act.eval, qn, qv, Nat.reduceAdd]
        refine rf_build (cs := fun a => #[a.eval (.tmp 29), a.eval (.tmp 34)]) rfl rfl (by kernel_rfl) ?_
        simp only [Act.put, Act.eval, qn, qv, Nat.reduceAdd]
        refine rf_storeRM (n := 2) rfl rfl (by kernel_rfl) rfl rfl (UpdR.app _ (UpdR.here _ _ _ (Nat.le_of_ble_eq_true rfl))) ((sk _ (sc _ (sc _ sn))).trans (List.sublist_append_right _ _)) ?_
        simp only [Act.put, Act.eval, qn, qv, Nat.reduceAdd]
        refine rg_nil ?_
        refine ek_next ?_
        refine wk_ret ?_
        refine ek_block_ret ?_
        refine ek_then_ret ?_
        refine ek_ret (fun w hw => ⟨rfl, _, run_results1 rfl rfl (Kn.hd0 (Kn.tlU hw)) Try.underlying67 rfl (by kernel_rfl), ?_⟩)
        (try simp only [Act.put, Act.eval, qn, qv, Nat.reduceAdd])
        have hsg : (m < 0 ↔ ¬ n < 0) := by (have h := h1; revert h; by_cases h1 : m < 0 <;> by_cases h2 : n < 0 <;> simp [h1, h2])
        have e1 : (dval (digs m.natAbs) - dval (digs n.natAbs)).toNat = (m + n).natAbs := by rw [dval_digs, dval_digs]; omega
        rw [e1] at hS
        refine ⟨_, _, rfl, ⟨_, ?_, hS⟩, hw.made (List.sublist_append_left _ _)⟩
        unfold bgV
        rw [show decide (m + n < 0) = decide (m < 0) from decide_eq_decide.2 (by omega), e1]
    · (try simp only [decide_eq_true_eq, decide_eq_false_iff_not, Int.not_lt, Int.not_le, beq_iff_eq, beq_eq_false_iff_ne, bne_iff_ne, bne_eq_false_iff_eq, ne_eq, Bool.not_eq_true', Bool.not_eq_false'] at h2)
      simp only [Act.put, Act.eval, qn, qv, Nat.reduceAdd]
      have hord := ordN_cases m.natAbs n.natAbs
      have heq : m.natAbs = n.natAbs := by omega
      refine rg_assign ?_
      simp only [Act.put, Act.eval, qn, qv, Nat.reduceAdd]
      refine rg_nil ?_
      refine ek_next ?_
      refine wk_cond_t rfl ?_
      refine wk_seq ?_
      refine wk_region [0, 1] rfl (by kernel_rfl) ?_
      simp only [List.zip_cons_cons, List.zip_nil_right]
      refine rf_build (cs := fun a => #[.bool false, .slice none 0 0]) rfl rfl (by kernel_rfl) ?_
      simp only [Act.put, Act.eval, qn, qv, Nat.reduceAdd]
      refine rf_storeR (n := 2) rfl rfl (by kernel_rfl) rfl rfl (UpdR.here _ _ _ (Nat.le_of_ble_eq_true rfl)) (fun _ h => by cases h) ?_
      simp only [Act.put, Act.eval, qn, qv, Nat.reduceAdd]
      refine rg_nil ?_
      refine ek_next ?_
      refine wk_ret ?_
      refine ek_block_ret ?_
      refine ek_then_ret ?_
      refine ek_ret (fun w hw => ⟨rfl, _, run_results1 rfl rfl (Kn.hd0 hw) Try.underlying67 rfl (by kernel_rfl), ?_⟩)
      (try simp only [Act.put, Act.eval, qn, qv, Nat.reduceAdd])
      have hsg : (m < 0 ↔ ¬ n < 0) := by (have h := h1; revert h; by_cases h1 : m < 0 <;> by_cases h2 : n < 0 <;> simp [h1, h2])
      have e0 : m + n = 0 := by omega
      exact ⟨_, [], rfl, ⟨.slice none 0 0, by unfold bgV; rw [e0]; rfl, by rw [e0]; exact SU.nil⟩, hw.made (List.nil_sublist _)⟩
  · (try simp only [decide_eq_true_eq, decide_eq_false_iff_not, Int.not_lt, Int.not_le, beq_iff_eq, beq_eq_false_iff_ne, bne_iff_ne, bne_eq_false_iff_eq, ne_eq, Bool.not_eq_true', Bool.not_eq_false'] at h1)
    simp only [Act.put, Act.eval, qn, qv, Nat.reduceAdd]
    refine rg_nil ?_
    refine ek_next ?_
    refine wk_cond_t rfl ?_
    refine wk_seq ?_
    refine wk_draws_m (hz1 := (sk _ (sc _ (sc _ sn)))) [(0, 0), (1, 0), (2, 0), (3, 0), (4, 0), (5, 0), (6, 1), (7, 0), (8, 2)] 8 (by kernel_rfl) (by kernel_rfl) (fun c d v a w h => by cases d <;> exact h) ?_
    simp only [List.map_cons, List.map_nil, List.getD_cons_zero, List.getD_cons_succ]
    refine rf_field (n := 0) (j := 0) rfl rfl rfl Try.underlying67 rfl (by kernel_rfl) rfl ?_
    simp only [Act.put, Act.eval, qn, qv, Nat.reduceAdd]
    refine rf_load rfl rfl rfl Try.underlying4 rfl (fun w hw => (Kn.hd0 (Kn.tl (Kn.tl hw))).at rfl) ?_
    simp only [Act.put, Act.eval, qn, qv, Nat.reduceAdd]
    refine rf_field (n := 0) (j := 1) rfl rfl rfl Try.underlying67 rfl (by kernel_rfl) rfl ?_
    simp only [Act.put, Act.eval, qn, qv, Nat.reduceAdd]
    refine rf_load rfl rfl rfl Try.underlying65 rfl (fun w hw => (Kn.hd0 (Kn.tl (Kn.tl hw))).at rfl) ?_
    simp only [Act.put, Act.eval, qn, qv, Nat.reduceAdd]
    refine rf_field (n := 0) (j := 1) rfl rfl rfl Try.underlying67 rfl (by kernel_rfl) rfl ?_
    simp only [Act.put, Act.eval, qn, qv, Nat.reduceAdd]
    refine rf_load rfl rfl rfl Try.underlying65 rfl (fun w hw => (Kn.hd0 (Kn.tl hw)).at rfl) ?_
    simp only [Act.put, Act.eval, qn, qv, Nat.reduceAdd]
    apply (rg_made (T := fun v u => SU u v (dval (digs m.natAbs) + dval (digs n.natAbs)).toNat)) (by rfl) (by kernel_rfl)
    case hargs => (simp only [qm, qs, Act.eval]; exact rfl)
    case h => exact fun w hw => bplus_any (digs m.natAbs) (digs n.natAbs) _ _ _ _ (digs_dg _) (digs_dg _) (by omega) (by omega) w (hA.kn0 hw) (hA2.kn0 hw)
    case hz => exact (fun _ h => by cases h; exact (sc _ (sc _ (sc _ sn))))
    intro v6 u6 hS
    obtain ⟨⟨sa6, sc6, rfl⟩, -⟩ := id hS
    simp only [Act.put, Act.eval, qn, qv, Nat.reduceAdd]
    refine rf_build (cs := fun a => #[a.eval (.tmp 11), a.eval (.tmp 16)]) rfl rfl (by kernel_rfl) ?_
    simp only [Act.put, Act.eval, qn, qv, Nat.reduceAdd]
    refine rf_storeRM (n := 2) rfl rfl (by kernel_rfl) rfl rfl (UpdR.app _ (UpdR.here _ _ _ (Nat.le_of_ble_eq_true rfl))) ((sk _ (sc _ (sc _ sn))).trans (List.sublist_append_right _ _)) ?_
    simp only [Act.put, Act.eval, qn, qv, Nat.reduceAdd]
    refine rg_nil ?_
    refine ek_next ?_
    refine wk_ret ?_
    refine ek_then_ret ?_
    refine ek_ret (fun w hw => ⟨rfl, _, run_results1 rfl rfl (Kn.hd0 (Kn.tlU hw)) Try.underlying67 rfl (by kernel_rfl), ?_⟩)
    (try simp only [Act.put, Act.eval, qn, qv, Nat.reduceAdd])
    have hsg : (m < 0 ↔ n < 0) := by (have h := h1; revert h; by_cases h1 : m < 0 <;> by_cases h2 : n < 0 <;> simp [h1, h2])
    have e1 : (dval (digs m.natAbs) + dval (digs n.natAbs)).toNat = (m + n).natAbs := by rw [dval_digs, dval_digs]; omega
    rw [e1] at hS
    refine ⟨_, _, rfl, ⟨_, ?_, hS⟩, hw.made (List.sublist_append_left _ _)⟩
    unfold bgV
    rw [show decide (m + n < 0) = decide (m < 0) from decide_eq_decide.2 (by omega), e1]

set_option maxRecDepth 100000 in
set_option maxHeartbeats 1000000 in
theorem bsub_any (m n : Int) (s s2 : Value) (hl : (digs m.natAbs).length ≤ 1000) (hl2 : (digs n.natAbs).length ≤ 1000) (w : World) (hs : SA w s m.natAbs) (hs2 : SA w s2 n.natAbs) : Calls Try.prog 147 #[bgV m s, bgV n s2] w fun e w' => RetB w (m - n) e w' := by
  go_enter Try.func147, Try.ntmps147
  refine wk_start ?_
  refine wk_seq ?_
  refine wk_region [1, 1, 1] rfl (by kernel_rfl) ?_
  simp only [List.zip_cons_cons, List.zip_nil_right]
  refine rg_new (cs := ?_) (ty := ?_) (by rfl) (fun w => ?_) (fun _ h => by cases h) (fun g1 => ?_); rotate_left 2
  focus (go_simp; rfl)
  simp only [Act.put, Act.eval, qn, qv, Nat.reduceAdd]
  refine rg_new (cs := ?_) (ty := ?_) (by rfl) (fun w => ?_) (fun _ h => by cases h) (fun g2 => ?_); rotate_left 2
  focus (go_simp; rfl)
  simp only [Act.put, Act.eval, qn, qv, Nat.reduceAdd]
  refine rg_new (cs := ?_) (ty := ?_) (by rfl) (fun w => ?_) (fun _ h => by cases h) (fun g3 => ?_); rotate_left 2
  focus (go_simp; rfl)
  simp only [Act.put, Act.eval, qn, qv, Nat.reduceAdd]
  refine rg_nil ?_
  refine ek_next ?_
  refine wk_seq ?_
  refine wk_draws_m (hz1 := (sk _ (sc _ (sc _ sn)))) [(0, 0), (1, 0), (2, 1), (3, 1), (4, 2)] 4 (by kernel_rfl) (by kernel_rfl) (fun c d v a w h => by cases d <;> exact h) ?_
  simp only [List.map_cons, List.map_nil, List.getD_cons_zero, List.getD_cons_succ]
  refine rf_loadR (n := 2) rfl rfl rfl Try.underlying67 rfl (by kernel_rfl) (fun w hw => Kn.hd0 (Kn.tl (Kn.tl hw))) rfl rfl ?_
  simp only [Act.put, Act.eval, qn, qv, Nat.reduceAdd]
  refine rf_loadR (n := 2) rfl rfl rfl Try.underlying67 rfl (by kernel_rfl) (fun w hw => Kn.hd0 (Kn.tl hw)) rfl rfl ?_
  simp only [Act.put, Act.eval, qn, qv, Nat.reduceAdd]
  apply rg_pure (by rfl) (by kernel_rfl)
  case hargs => (simp only [qm, qs, Act.eval]; exact rfl)
  case h => exact fun w hw => bneg_any n s2 hl2 w (hs2.kn hw)
  case hz => exact (fun _ h => by cases h; exact (sc _ (sc _ (sc _ sn))))
  simp only [Act.put, Act.eval, qn, qv, Nat.reduceAdd]
  apply (rg_made (T := fun v u => ∃ s, v = bgV (m + -n) s ∧ SU u s (m + -n).natAbs)) (by rfl) (by kernel_rfl)
  case hargs => (simp only [qm, qs, Act.eval]; exact rfl)
  case h => exact fun w hw => badd_any m (-n) s s2 hl (by rw [Int.natAbs_neg]; exact hl2) w (hs.kn hw) (by rw [Int.natAbs_neg]; exact hs2.kn hw)
  case hz => exact (fun _ h => by cases h; exact (sc _ (sc _ (sc _ sn))))
  rintro _ u4 ⟨s4, rfl, hS⟩
  obtain ⟨⟨sa4, sc4, rfl⟩, -⟩ := id hS
  simp only [Act.put, Act.eval, qn, qv, Nat.reduceAdd]
  refine rf_storeRM (n := 2) rfl rfl (by kernel_rfl) rfl rfl (UpdR.app _ (UpdR.here _ _ _ (Nat.le_of_ble_eq_true rfl))) ((sk _ (sc _ (sc _ sn))).trans (List.sublist_append_right _ _)) ?_
  simp only [Act.put, Act.eval, qn, qv, Nat.reduceAdd]
  refine rg_nil ?_
  refine ek_next ?_
  refine wk_ret ?_
  refine ek_ret (fun w hw => ⟨rfl, _, run_results1 rfl rfl (Kn.hd0 (Kn.tlU hw)) Try.underlying67 rfl (by kernel_rfl), ?_⟩)
  (try simp only [Act.put, Act.eval, qn, qv, Nat.reduceAdd])
  exact ⟨_, _, rfl, ⟨_, rfl, hS⟩, hw.made (List.sublist_append_left _ _)⟩

end Go.Proofs.Ytccbinnlnkpplaa
