/- Texts in one: Pg1, PgC, AmHv, Pg2, Pg3, Sf, Pg4, Ort, Pg5. -/
import Derived.Test.YtccbinnlnkpplaaLFewerH
namespace Go.Proofs.Ytccbinnlnkpplaa
set_option linter.all false
open Go.RowKit

def oddV (z : Nm) : Value := .agg #[.int .i64 (z.a % 2), .int .i64 (z.b % 2), .int .i64 (z.c % 2), .int .i64 (z.d % 2)]
theorem okM_t1 {x y : Nm} (h : wtE x = wtE y) (h2 : x.a % 2 = y.a % 2 ∧ x.b % 2 = y.b % 2 ∧ x.c % 2 = y.c % 2 ∧ x.d % 2 = y.d % 2) : okM x y = true := by unfold okM; rw [if_pos h]; exact decide_eq_true h2
theorem okM_f1 {x y : Nm} (h : wtE x = wtE y) (h2 : ¬ (x.a % 2 = y.a % 2 ∧ x.b % 2 = y.b % 2 ∧ x.c % 2 = y.c % 2 ∧ x.d % 2 = y.d % 2)) : okM x y = false := by unfold okM; rw [if_pos h]; exact decide_eq_false h2
theorem okM_t2 {x y : Nm} (h : ¬ wtE x = wtE y) (h2 : x.a % 2 = 1 - y.a % 2 ∧ x.b % 2 = 1 - y.b % 2 ∧ x.c % 2 = 1 - y.c % 2 ∧ x.d % 2 = 1 - y.d % 2) : okM x y = true := by unfold okM; rw [if_neg h]; exact decide_eq_true h2
theorem okM_f2 {x y : Nm} (h : ¬ wtE x = wtE y) (h2 : ¬ (x.a % 2 = 1 - y.a % 2 ∧ x.b % 2 = 1 - y.b % 2 ∧ x.c % 2 = 1 - y.c % 2 ∧ x.d % 2 = 1 - y.d % 2)) : okM x y = false := by unfold okM; rw [if_neg h]; exact decide_eq_false h2
theorem turn_N {n : Nat} (h : n < 4) (y : Nm) : Nm.turn ((n : Int) % 8).toNat y = turnN n y := by
  rcases (by omega : n = 0 ∨ n = 1 ∨ n = 2 ∨ n = 3) with rfl | rfl | rfl | rfl <;> rfl
theorem match_at {x y : Nm} {n : Nat} (hn : n < 4) (hf : ∀ j, j < n → okM x (turnN j y) = false) (ht : okM x (turnN n y) = true) : matchN x y = n := by
  unfold matchN
  rcases (by omega : n = 0 ∨ n = 1 ∨ n = 2 ∨ n = 3) with rfl | rfl | rfl | rfl
  · rw [if_pos ht]
  · rw [hf 0 (by omega), if_neg (by decide), if_pos ht]
  · rw [hf 0 (by omega), hf 1 (by omega), if_neg (by decide), if_neg (by decide), if_pos ht]
  rw [hf 0 (by omega), hf 1 (by omega), hf 2 (by omega), if_neg (by decide), if_neg (by decide), if_neg (by decide), if_pos ht]
theorem match_no {x y : Nm} (hf : ∀ j, j < 4 → okM x (turnN j y) = false) : matchN x y = 0 := by
  unfold matchN
  rw [hf 0 (by omega), hf 1 (by omega), hf 2 (by omega), hf 3 (by omega)]; rfl
set_option maxRecDepth 100000 in
set_option maxHeartbeats 1000000 in
theorem must_any (z : Nm) (c : Int) (w : World) : Calls Try.prog 158 #[.agg #[.int .i64 z.a, .int .i64 z.b, .int .i64 z.c, .int .i64 z.d, .int .i64 z.k], .int .i64 c] w fun e w' => e = .returned (nmV z) ∧ Below w.heap.size w w' := by
  go_enter Try.func158, Try.ntmps158
  refine wk_start ?_
  refine wk_seq ?_
  refine wk_region [1, 1] rfl (by kernel_rfl) ?_
  simp only [qy]
  refine rg_new (cs := ?_) (ty := ?_) (by rfl) (fun w => ?_) (fun _ h => by cases h) (fun g1 => ?_); rotate_left 2
  focus (go_simp; rfl)
  simp only [qz]
  refine rg_new (cs := ?_) (ty := ?_) (by rfl) (fun w => ?_) (fun _ h => by cases h) (fun g2 => ?_); rotate_left 2
  focus (go_simp; rfl)
  simp only [qz]
  refine rg_nil (ek_next (wk_seq ?_))
  refine wk_region [0, 1] rfl (by kernel_rfl) ?_
  simp only [qy]
  refine rf_loadR (n := 5) rfl rfl rfl Try.underlying45 rfl (by kernel_rfl) (fun w hw => Kn.hd0 (Kn.tl hw)) rfl rfl ?_
  simp only [qz]
  refine rf_storeR (n := 5) rfl rfl (by kernel_rfl) rfl rfl (UpdR.here _ _ _ (Nat.le_of_ble_eq_true rfl)) (fun _ h => by cases h) ?_
  simp only [qz, Nat.reduceAdd]
  refine rg_nil (ek_next (wk_ret ?_))
  refine ek_ret (fun w hw => ⟨rfl, _, run_results1 rfl rfl (Kn.hd0 hw) Try.underlying45 rfl (by kernel_rfl), ?_⟩)
  (try simp only [qz])
  first | exact ⟨rfl, hw.below⟩ | exact ⟨trivial, hw.below⟩ | exact hw.below

set_option maxRecDepth 100000 in
set_option maxHeartbeats 1000000 in
theorem weight_any (a b c d : Int) (h : 0 ≤ a ∧ a ≤ 1 ∧ 0 ≤ b ∧ b ≤ 1 ∧ 0 ≤ c ∧ c ≤ 1 ∧ 0 ≤ d ∧ d ≤ 1) (w : World) : Calls Try.prog 211 #[.agg #[.int .i64 a, .int .i64 b, .int .i64 c, .int .i64 d]] w fun e w' => e = .returned (.int .i64 (a + b + c + d)) ∧ Below w.heap.size w w' := by
  go_enter Try.func211, Try.ntmps211
  refine wk_start ?_
  refine wk_seq ?_
  refine wk_region [1, 0] rfl (by kernel_rfl) ?_
  simp only [qy]
  refine rg_new (cs := ?_) (ty := ?_) (by rfl) (fun w => ?_) (fun _ h => by cases h) (fun g1 => ?_); rotate_left 2
  focus (go_simp; rfl)
  simp only [qz]
  refine rg_assign ?_
  simp only [qz]
  refine rg_nil (ek_next (wk_seq ?_))
  refine wk_region [0, 0, 0, 0, 0, 0, 0, 0, 0, 0, 0, 0] rfl (by kernel_rfl) ?_
  simp only [qy]
  refine rf_indexA (n := 0) (sz := 1) (j := 0) rfl rfl rfl rfl Try.underlying43 (by kernel_rfl) (by decide) rfl ?_
  simp only [qz]
  refine rf_load rfl rfl rfl Try.underlying3 rfl (fun w hw => (Kn.hd0 hw).at rfl) ?_
  simp only [qz]
  refine rf_indexA (n := 1) (sz := 1) (j := 1) rfl rfl rfl rfl Try.underlying43 (by kernel_rfl) (by decide) rfl ?_
  simp only [qz]
  refine rf_load rfl rfl rfl Try.underlying3 rfl (fun w hw => (Kn.hd0 hw).at rfl) ?_
  simp only [qz]
  refine rf_add rfl rfl rfl rfl (wrap_ok (by omega) (by omega)) ?_
  simp only [qz]
  refine rf_indexA (n := 2) (sz := 1) (j := 2) rfl rfl rfl rfl Try.underlying43 (by kernel_rfl) (by decide) rfl ?_
  simp only [qz]
  refine rf_load rfl rfl rfl Try.underlying3 rfl (fun w hw => (Kn.hd0 hw).at rfl) ?_
  simp only [qz]
  refine rf_add rfl rfl rfl rfl (wrap_ok (by omega) (by omega)) ?_
  simp only [qz]
  refine rf_indexA (n := 3) (sz := 1) (j := 3) rfl rfl rfl rfl Try.underlying43 (by kernel_rfl) (by decide) rfl ?_
  simp only [qz]
  refine rf_load rfl rfl rfl Try.underlying3 rfl (fun w hw => (Kn.hd0 hw).at rfl) ?_
  simp only [qz]
  refine rf_add rfl rfl rfl rfl (wrap_ok (by omega) (by omega)) ?_
  simp only [qz]
  refine rg_assign ?_
  simp only [qz]
  refine rg_nil (ek_next (wk_ret ?_))
  refine ek_ret (fun w hw => ⟨rfl, _, res_t _ rfl, ?_⟩)
  (try simp only [qz])
  first | exact ⟨rfl, hw.below⟩ | exact ⟨trivial, hw.below⟩ | exact hw.below

set_option maxRecDepth 100000 in
set_option maxHeartbeats 1000000 in
theorem odd_any (z : Nm) (w : World) : Calls Try.prog 212 #[.agg #[.int .i64 z.a, .int .i64 z.b, .int .i64 z.c, .int .i64 z.d, .int .i64 z.k]] w fun e w' => e = .returned (oddV z) ∧ Below w.heap.size w w' := by
  go_enter Try.func212, Try.ntmps212
  refine wk_start ?_
  refine wk_seq ?_
  refine wk_region [1, 1] rfl (by kernel_rfl) ?_
  simp only [qy]
  refine rg_new (cs := ?_) (ty := ?_) (by rfl) (fun w => ?_) (fun _ h => by cases h) (fun g1 => ?_); rotate_left 2
  focus (go_simp; rfl)
  simp only [qz]
  refine rg_new (cs := ?_) (ty := ?_) (by rfl) (fun w => ?_) (fun _ h => by cases h) (fun g2 => ?_); rotate_left 2
  focus (go_simp; rfl)
  simp only [qz]
  refine rg_nil (ek_next (wk_seq ?_))
  refine wk_region [1] rfl (by kernel_rfl) ?_
  simp only [qy]
  refine rg_new (cs := ?_) (ty := ?_) (by rfl) (fun w => ?_) (fun _ h => by cases h) (fun g3 => ?_); rotate_left 2
  focus (go_simp; rfl)
  simp only [qz]
  refine rg_nil (ek_next (wk_seq (wk_seq ?_)))
  refine wk_region [0, 0, 0] rfl (by kernel_rfl) ?_
  simp only [qy]
  refine rf_field (n := 3) (j := 0) rfl rfl rfl Try.underlying45 rfl (by kernel_rfl) rfl ?_
  simp only [qz]
  refine rf_loadR (n := 4) rfl rfl rfl Try.underlying43 rfl (by kernel_rfl) (fun w hw => Kn.hd0 (Kn.tl (Kn.tl hw))) rfl rfl ?_
  simp only [qz]
  refine rg_move ?_
  simp only [qz]
  refine rg_nil (ek_next (wk_block ?_))
  refine wk_unroll 4 ?_
  refine wk_seq ?_
  refine wk_region [0] rfl (by kernel_rfl) ?_
  simp only [qy]
  refine rf_lss (b := true) rfl rfl rfl rfl (by decide) ?_
  simp only [qz]
  refine rg_nil (ek_next (wk_seq (wk_cond_t rfl (wk_skip (ek_next (wk_seq (wk_block (wk_seq ?_))))))))
  refine wk_region [0, 0, 0, 0] rfl (by kernel_rfl) ?_
  simp only [qy]
  refine rg_move ?_
  simp only [qz]
  apply rg_soft
  case hy => (intro w hw; have hand := and1; go_simp; (try go_bits); exact Yld.mk _ _)
  simp only [qz]
  refine rg_assign ?_
  simp only [qz]
  refine rg_assign ?_
  simp only [qz]
  refine rg_nil (ek_next ?_)
  refine wk_region [0, 0, 0, 0, 1] rfl (by kernel_rfl) ?_
  simp only [qy]
  refine rg_move ?_
  simp only [qz]
  refine rg_move ?_
  simp only [qz]
  refine rf_and rfl rfl rfl rfl (and1 _) ?_
  simp only [qz]
  refine rf_indexA (n := 0) (sz := 1) (j := 0) rfl rfl rfl rfl Try.underlying43 (by kernel_rfl) (by decide) rfl ?_
  simp only [qz]
  refine rf_store rfl rfl (by kernel_rfl) rfl rfl (UpdR.here _ _ _ (Nat.le_of_ble_eq_true rfl)) (fun _ h => by cases h) ?_
  simp only [qz]
  refine rg_nil (ek_block (ek_next ?_))
  refine wk_region [0, 0] rfl (by kernel_rfl) ?_
  simp only [qy]
  refine rf_add (r := 1) rfl rfl rfl rfl (by decide) ?_
  simp only [qz]
  refine rg_move ?_
  simp only [qz]
  refine rg_nil (ek_again (wk_seq ?_))
  refine wk_region [0] rfl (by kernel_rfl) ?_
  simp only [qy]
  refine rf_lss (b := true) rfl rfl rfl rfl (by decide) ?_
  simp only [qz]
  refine rg_nil (ek_next (wk_seq (wk_cond_t rfl (wk_skip (ek_next (wk_seq (wk_block (wk_seq ?_))))))))
  refine wk_region [0, 0, 0, 0] rfl (by kernel_rfl) ?_
  simp only [qy]
  refine rg_move ?_
  simp only [qz]
  apply rg_soft
  case hy => (intro w hw; have hand := and1; go_simp; (try go_bits); exact Yld.mk _ _)
  simp only [qz]
  refine rg_assign ?_
  simp only [qz]
  refine rg_assign ?_
  simp only [qz]
  refine rg_nil (ek_next ?_)
  refine wk_region [0, 0, 0, 0, 1] rfl (by kernel_rfl) ?_
  simp only [qy]
  refine rg_move ?_
  simp only [qz]
  refine rg_move ?_
  simp only [qz]
  refine rf_and rfl rfl rfl rfl (and1 _) ?_
  simp only [qz]
  refine rf_indexA (n := 1) (sz := 1) (j := 1) rfl rfl rfl rfl Try.underlying43 (by kernel_rfl) (by decide) rfl ?_
  simp only [qz]
  refine rf_store rfl rfl (by kernel_rfl) rfl rfl (UpdR.here _ _ _ (Nat.le_of_ble_eq_true rfl)) (fun _ h => by cases h) ?_
  simp only [qz]
  refine rg_nil (ek_block (ek_next ?_))
  refine wk_region [0, 0] rfl (by kernel_rfl) ?_
  simp only [qy]
  refine rf_add (r := 2) rfl rfl rfl rfl (by decide) ?_
  simp only [qz]
  refine rg_move ?_
  simp only [qz]
  refine rg_nil (ek_again (wk_seq ?_))
  refine wk_region [0] rfl (by kernel_rfl) ?_
  simp only [qy]
  refine rf_lss (b := true) rfl rfl rfl rfl (by decide) ?_
  simp only [qz]
  refine rg_nil (ek_next (wk_seq (wk_cond_t rfl (wk_skip (ek_next (wk_seq (wk_block (wk_seq ?_))))))))
  refine wk_region [0, 0, 0, 0] rfl (by kernel_rfl) ?_
  simp only [qy]
  refine rg_move ?_
  simp only [qz]
  apply rg_soft
  case hy => (intro w hw; have hand := and1; go_simp; (try go_bits); exact Yld.mk _ _)
  simp only [qz]
  refine rg_assign ?_
  simp only [qz]
  refine rg_assign ?_
  simp only [qz]
  refine rg_nil (ek_next ?_)
  refine wk_region [0, 0, 0, 0, 1] rfl (by kernel_rfl) ?_
  simp only [qy]
  refine rg_move ?_
  simp only [qz]
  refine rg_move ?_
  simp only [qz]
  refine rf_and rfl rfl rfl rfl (and1 _) ?_
  simp only [qz]
  refine rf_indexA (n := 2) (sz := 1) (j := 2) rfl rfl rfl rfl Try.underlying43 (by kernel_rfl) (by decide) rfl ?_
  simp only [qz]
  refine rf_store rfl rfl (by kernel_rfl) rfl rfl (UpdR.here _ _ _ (Nat.le_of_ble_eq_true rfl)) (fun _ h => by cases h) ?_
  simp only [qz]
  refine rg_nil (ek_block (ek_next ?_))
  refine wk_region [0, 0] rfl (by kernel_rfl) ?_
  simp only [qy]
  refine rf_add (r := 3) rfl rfl rfl rfl (by decide) ?_
  simp only [qz]
  refine rg_move ?_
  simp only [qz]
  refine rg_nil (ek_again (wk_seq ?_))
  refine wk_region [0] rfl (by kernel_rfl) ?_
  simp only [qy]
  refine rf_lss (b := true) rfl rfl rfl rfl (by decide) ?_
  simp only [qz]
  refine rg_nil (ek_next (wk_seq (wk_cond_t rfl (wk_skip (ek_next (wk_seq (wk_block (wk_seq ?_))))))))
  refine wk_region [0, 0, 0, 0] rfl (by kernel_rfl) ?_
  simp only [qy]
  refine rg_move ?_
  simp only [qz]
  apply rg_soft
  case hy => (intro w hw; have hand := and1; go_simp; (try go_bits); exact Yld.mk _ _)
  simp only [qz]
  refine rg_assign ?_
  simp only [qz]
  refine rg_assign ?_
  simp only [qz]
  refine rg_nil (ek_next ?_)
  refine wk_region [0, 0, 0, 0, 1] rfl (by kernel_rfl) ?_
  simp only [qy]
  refine rg_move ?_
  simp only [qz]
  refine rg_move ?_
  simp only [qz]
  refine rf_and rfl rfl rfl rfl (and1 _) ?_
  simp only [qz]
  refine rf_indexA (n := 3) (sz := 1) (j := 3) rfl rfl rfl rfl Try.underlying43 (by kernel_rfl) (by decide) rfl ?_
  simp only [qz]
  refine rf_store rfl rfl (by kernel_rfl) rfl rfl (UpdR.here _ _ _ (Nat.le_of_ble_eq_true rfl)) (fun _ h => by cases h) ?_
  simp only [qz]
  refine rg_nil (ek_block (ek_next ?_))
  refine wk_region [0, 0] rfl (by kernel_rfl) ?_
  simp only [qy]
  refine rf_add (r := 4) rfl rfl rfl rfl (by decide) ?_
  simp only [qz]
  refine rg_move ?_
  simp only [qz]
  refine rg_nil (ek_again (wk_seq ?_))
  refine wk_region [0] rfl (by kernel_rfl) ?_
  simp only [qy]
  refine rf_lss (b := false) rfl rfl rfl rfl (by decide) ?_
  simp only [qz]
  refine rg_nil (ek_next (wk_seq (wk_cond_f rfl (wk_exit (ek_then_exit (ek_then_exit (ek_block_exit (ek_next (wk_seq ?_)))))))))
  refine wk_region [0, 1] rfl (by kernel_rfl) ?_
  simp only [qy]
  refine rf_loadR (n := 4) rfl rfl rfl Try.underlying43 rfl (by kernel_rfl) (fun w hw => Kn.hd0 hw) rfl rfl ?_
  simp only [qz]
  refine rf_storeR (n := 4) rfl rfl (by kernel_rfl) rfl rfl (UpdR.there _ (UpdR.here _ _ _ (Nat.le_of_ble_eq_true rfl))) (fun _ h => by cases h) ?_
  simp only [qz, Nat.reduceAdd]
  refine rg_nil (ek_next (wk_ret ?_))
  refine ek_ret (fun w hw => ⟨rfl, _, run_results1 rfl rfl (Kn.hd0 (Kn.tl hw)) Try.underlying43 rfl (by kernel_rfl), ?_⟩)
  (try simp only [qz])
  exact ⟨rfl, hw.below⟩

set_option maxRecDepth 100000 in
set_option maxHeartbeats 1000000 in
theorem kind_any (z : Nm) (k : Int) (w : World) : Calls Try.prog 190 #[.agg #[.int .i64 z.a, .int .i64 z.b, .int .i64 z.c, .int .i64 z.d, .int .i64 z.k], .int .i64 k] w fun e w' => e = .returned (.int .i64 (kindN z k)) ∧ Below w.heap.size w w' := by
  go_enter Try.func190, Try.ntmps190
  refine wk_start ?_
  refine wk_seq ?_
  refine wk_region [1, 0] rfl (by kernel_rfl) ?_
  simp only [qy]
  refine rg_new (cs := ?_) (ty := ?_) (by rfl) (fun w => ?_) (fun _ h => by cases h) (fun g1 => ?_); rotate_left 2
  focus (go_simp; rfl)
  simp only [qz]
  refine rg_assign ?_
  simp only [qz]
  refine rg_nil (ek_next (wk_seq (wk_block (wk_seq ?_))))
  refine wk_region [0, 0, 0, 0, 0] rfl (by kernel_rfl) ?_
  simp only [qy]
  refine rf_field (n := 0) (j := 4) rfl rfl rfl Try.underlying45 rfl (by kernel_rfl) rfl ?_
  simp only [qz]
  refine rf_load rfl rfl rfl Try.underlying3 rfl (fun w hw => (Kn.hd0 hw).at rfl) ?_
  simp only [qz]
  refine rg_move ?_
  simp only [qz]
  refine rfb_lss rfl rfl rfl rfl ?_
  intro x h1
  cases x
  · (try simp only [qd, ne_eq] at h1)
    simp only [qz]
    refine rg_assign ?_
    simp only [qz]
    refine rg_nil (ek_next (wk_cond_f rfl (wk_seq ?_)))
    refine wk_region [0, 1, 1, 0, 0, 0] rfl (by kernel_rfl) ?_
    simp only [qy]
    refine rf_loadR (n := 5) rfl rfl rfl Try.underlying45 rfl (by kernel_rfl) (fun w hw => Kn.hd0 hw) rfl rfl ?_
    simp only [qz]
    apply rg_pure (by rfl) (by kernel_rfl)
    case hargs => (simp only [qm, qs, Act.eval]; exact rfl)
    case h => exact fun w hw => odd_any z w
    case hz => exact (fun _ h => by cases h)
    simp only [qz]
    apply rg_pure (by rfl) (by kernel_rfl)
    case hargs => (simp only [qm, qs, Act.eval]; exact rfl)
    case h => exact fun w hw => weight_any (z.a % 2) (z.b % 2) (z.c % 2) (z.d % 2) (by omega) w
    case hz => exact (fun _ h => by cases h)
    simp only [qz]
    refine rf_and (r := (z.a % 2 + z.b % 2 + z.c % 2 + z.d % 2) % 2) rfl rfl rfl rfl (and1 _) ?_
    simp only [qz]
    refine rfb_eql rfl rfl rfl rfl ?_
    intro x h2
    cases x
    · (try simp only [qd, ne_eq] at h2)
      simp only [qz]
      refine rg_assign ?_
      simp only [qz]
      refine rg_nil (ek_next (wk_cond_f rfl (wk_skip (ek_block (ek_next (wk_seq ?_))))))
      refine wk_region [0] rfl (by kernel_rfl) ?_
      simp only [qy]
      refine rg_assign ?_
      simp only [qz]
      refine rg_nil (ek_next (wk_ret ?_))
      refine ek_ret (fun w hw => ⟨rfl, _, res_t _ rfl, ?_⟩)
      (try simp only [qz])
      exact ⟨by rw [show kindN z k = 2 by (unfold kindN sumE; rw [if_neg (by omega), if_neg (by omega)])], hw.below⟩
    (try simp only [qd, ne_eq] at h2)
    simp only [qz]
    refine rg_assign ?_
    simp only [qz]
    refine rg_nil (ek_next (wk_cond_t rfl (wk_seq ?_)))
    refine wk_region [0] rfl (by kernel_rfl) ?_
    simp only [qy]
    refine rg_assign ?_
    simp only [qz]
    refine rg_nil (ek_next (wk_ret (ek_block_ret (ek_then_ret ?_))))
    refine ek_ret (fun w hw => ⟨rfl, _, res_t _ rfl, ?_⟩)
    (try simp only [qz])
    exact ⟨by rw [show kindN z k = 1 by (unfold kindN sumE; rw [if_neg (by omega), if_pos (by omega)])], hw.below⟩
  (try simp only [qd, ne_eq] at h1)
  simp only [qz]
  refine rg_assign ?_
  simp only [qz]
  refine rg_nil (ek_next (wk_cond_t rfl (wk_seq ?_)))
  refine wk_region [0] rfl (by kernel_rfl) ?_
  simp only [qy]
  refine rg_assign ?_
  simp only [qz]
  refine rg_nil (ek_next (wk_ret (ek_block_ret (ek_then_ret ?_))))
  refine ek_ret (fun w hw => ⟨rfl, _, res_t _ rfl, ?_⟩)
  (try simp only [qz])
  exact ⟨by rw [show kindN z k = 0 from if_pos (by omega)], hw.below⟩

set_option maxRecDepth 100000 in
set_option maxHeartbeats 1000000 in
theorem match_any (x y : Nm) (hy : y.Ok) (w : World) : Calls Try.prog 191 #[.agg #[.int .i64 x.a, .int .i64 x.b, .int .i64 x.c, .int .i64 x.d, .int .i64 x.k], .agg #[.int .i64 y.a, .int .i64 y.b, .int .i64 y.c, .int .i64 y.d, .int .i64 y.k]] w fun e w' => e = .returned (.int .i64 (matchN x y : Nat)) ∧ Below w.heap.size w w' := by
  go_enter Try.func191, Try.ntmps191
  refine wk_start ?_
  refine wk_seq ?_
  refine wk_region [1, 1, 0] rfl (by kernel_rfl) ?_
  simp only [qy]
  refine rg_new (cs := ?_) (ty := ?_) (by rfl) (fun w => ?_) (fun _ h => by cases h) (fun g1 => ?_); rotate_left 2
  focus (go_simp; rfl)
  simp only [qz]
  refine rg_new (cs := ?_) (ty := ?_) (by rfl) (fun w => ?_) (fun _ h => by cases h) (fun g2 => ?_); rotate_left 2
  focus (go_simp; rfl)
  simp only [qz]
  refine rg_assign ?_
  simp only [qz]
  refine rg_nil (ek_next (wk_seq ?_))
  refine wk_region [0, 1, 1, 1] rfl (by kernel_rfl) ?_
  simp only [qy]
  refine rf_loadR (n := 5) rfl rfl rfl Try.underlying45 rfl (by kernel_rfl) (fun w hw => Kn.hd0 (Kn.tl hw)) rfl rfl ?_
  simp only [qz]
  apply rg_pure (by rfl) (by kernel_rfl)
  case hargs => (simp only [qm, qs, Act.eval]; exact rfl)
  case h => exact fun w hw => odd_any x w
  case hz => exact (fun _ h => by cases h)
  simp only [qz]
  refine rg_new (cs := ?_) (ty := ?_) (by rfl) (fun w => ?_) (fun _ h => by cases h) (fun g3 => ?_); rotate_left 2
  focus (go_simp; rfl)
  simp only [qz]
  refine rf_storeR (n := 4) rfl rfl (by kernel_rfl) rfl rfl (UpdR.here _ _ _ (Nat.le_of_ble_eq_true rfl)) (fun _ h => by cases h) ?_
  simp only [qz, Nat.reduceAdd]
  refine rg_nil (ek_next (wk_seq (wk_seq ?_)))
  refine wk_region [0] rfl (by kernel_rfl) ?_
  simp only [qy]
  refine rg_move ?_
  simp only [qz]
  refine rg_nil (ek_next (wk_block ?_))
  refine wk_loopF [4, 6, 7, 8, 11, 12, 13, 14, 15, 16, 17, 18, 19, 20, 21, 22, 23, 24, 25, 26, 27, 28, 29, 30, 31, 32, 33, 34, 35, 36, 37, 38, 39, 40] (fun mz f s => ∃ (n : Nat), f 11 = .int .i64 n ∧ s = ((g3, .cells #[.int .i64 (x.a % 2), .int .i64 (x.b % 2), .int .i64 (x.c % 2), .int .i64 (x.d % 2)] 43) :: ((g2, .cells #[.int .i64 y.a, .int .i64 y.b, .int .i64 y.c, .int .i64 y.d, .int .i64 y.k] 45) :: ((g1, .cells #[.int .i64 x.a, .int .i64 x.b, .int .i64 x.c, .int .i64 x.d, .int .i64 x.k] 45) :: []))) ∧ mz = 4 - n ∧ n ≤ 4 ∧ (∀ j, j < n → okM x (turnN j y) = false)) ((fun (n : Nat) => 4 - n) (0)) ?_ (by kernel_rfl) ?_
  · exact ⟨0, rfl, rfl, rfl, by omega, (fun j hj => absurd hj (by omega))⟩
  rintro mz f1 s ⟨n, hs1_11, rfl, hn, hc1, hc2⟩
  simp only [Act.putF, List.foldl_cons, List.foldl_nil, hs1_11, Act.put, Act.eval, q1, q2, q3, q4, q5, q6, q7, q8, q9, q10, q11, q12, q13, q14, q15, q16, q17, q18, Nat.reduceAdd, Bool.not_true, Bool.not_false]
  clear hs1_11
  refine wk_seq ?_
  refine wk_region [0] rfl (by kernel_rfl) ?_
  simp only [qy]
  refine rfb_lss rfl rfl rfl rfl ?_
  intro x h1
  cases x
  · (try simp only [qd, ne_eq] at h1)
    simp only [qz]
    refine rg_nil (ek_next (wk_seq (wk_cond_f rfl (wk_exit (ek_then_exit (ek_then_exit (ek_block_exit (ek_next (wk_seq ?_)))))))))
    refine wk_region [0] rfl (by kernel_rfl) ?_
    simp only [qy]
    refine rg_assign ?_
    simp only [qz]
    refine rg_nil (ek_next (wk_ret ?_))
    refine ek_ret (fun w hw => ⟨rfl, _, res_t _ rfl, ?_⟩)
    (try simp only [qz])
    obtain rfl : n = 4 := by omega
    exact ⟨by rw [match_no hc2]; rfl, hw.below⟩
  (try simp only [qd, ne_eq] at h1)
  simp only [qz]
  refine rg_nil (ek_next (wk_seq (wk_cond_t rfl (wk_skip (ek_next (wk_seq (wk_block (wk_seq ?_))))))))
  refine wk_region [0, 0] rfl (by kernel_rfl) ?_
  simp only [qy]
  refine rg_move ?_
  simp only [qz]
  refine rg_assign ?_
  simp only [qz]
  refine rg_nil (ek_next (wk_seq ?_))
  refine wk_region [0, 0, 1, 0, 0, 1, 1, 1, 1] rfl (by kernel_rfl) ?_
  simp only [qy]
  refine rf_loadR (n := 5) rfl rfl rfl Try.underlying45 rfl (by kernel_rfl) (fun w hw => Kn.hd0 (Kn.tl hw)) rfl rfl ?_
  simp only [qz]
  refine rg_move ?_
  simp only [qz]
  apply rg_pure (by rfl) (by kernel_rfl)
  case hargs => (simp only [qm, qs, Act.eval]; exact rfl)
  case h => exact fun w hw => by have := amTurn_ok y (n : Int) hy w; rw [turn_N (by omega)] at this; exact this
  case hz => exact (fun _ h => by cases h)
  simp only [qz]
  refine rf_extract rfl rfl rfl rfl ?_
  simp only [qz]
  refine rf_extract rfl rfl rfl rfl ?_
  simp only [qz]
  apply rg_pure (by rfl) (by kernel_rfl)
  case hargs => (simp only [qm, qs, Act.eval]; exact rfl)
  case h => exact fun w hw => must_any (turnN n y) 0 w
  case hz => exact (fun _ h => by cases h)
  simp only [qz]
  apply rg_pure (by rfl) (by kernel_rfl)
  case hargs => (simp only [qm, qs, Act.eval]; exact rfl)
  case h => exact fun w hw => odd_any (turnN n y) w
  case hz => exact (fun _ h => by cases h)
  simp only [qz]
  refine rg_new (cs := ?_) (ty := ?_) (by rfl) (fun w => ?_) (fun _ h => by cases h) (fun g4 => ?_); rotate_left 2
  focus (go_simp; rfl)
  simp only [qz]
  refine rf_storeR (n := 4) rfl rfl (by kernel_rfl) rfl rfl (UpdR.here _ _ _ (Nat.le_of_ble_eq_true rfl)) (fun _ h => by cases h) ?_
  simp only [qz, Nat.reduceAdd]
  refine rg_nil (ek_next (wk_seq (wk_seq ?_)))
  refine wk_draws _ _ [(0, 0), (2, 0), (1, 1), (3, 1), (4, 0)] [] (by kernel_rfl) (by kernel_rfl) (fun c d v a w h => by cases d <;> exact h) ((sc _ (sc _ (sc _ (sc _ sn))))) (fun e => by first | exact absurd e (by decide) | rfl) ?_
  simp only [List.map_cons, List.map_nil, List.getD_cons_zero, List.getD_cons_succ]
  refine rf_loadR (n := 4) rfl rfl rfl Try.underlying43 rfl (by kernel_rfl) (fun w hw => Kn.hd0 (Kn.tl hw)) rfl rfl ?_
  simp only [qz]
  refine rf_loadR (n := 4) rfl rfl rfl Try.underlying43 rfl (by kernel_rfl) (fun w hw => Kn.hd0 hw) rfl rfl ?_
  simp only [qz]
  apply rg_pure (by rfl) (by kernel_rfl)
  case hargs => (simp only [qm, qs, Act.eval]; exact rfl)
  case h => exact fun w hw => weight_any (x.a % 2) (x.b % 2) (x.c % 2) (x.d % 2) (by omega) w
  case hz => exact (fun _ h => by cases h; exact (sc _ (sc _ (sc _ (sc _ sn)))))
  simp only [qz]
  apply rg_pure (by rfl) (by kernel_rfl)
  case hargs => (simp only [qm, qs, Act.eval]; exact rfl)
  case h => exact fun w hw => weight_any ((turnN n y).a % 2) ((turnN n y).b % 2) ((turnN n y).c % 2) ((turnN n y).d % 2) (by omega) w
  case hz => exact (fun _ h => by cases h; exact (sc _ (sc _ (sc _ (sc _ sn)))))
  simp only [qz]
  refine rfb_neq rfl rfl rfl rfl ?_
  intro x h2
  cases x
  · (try simp only [qd, ne_eq] at h2)
    simp only [qz]
    refine rg_nil (ek_next (wk_cond_f rfl (wk_skip (ek_next (wk_seq ?_)))))
    refine wk_region [0, 0, 0] rfl (by kernel_rfl) ?_
    simp only [qy]
    refine rf_loadR (n := 4) rfl rfl rfl Try.underlying43 rfl (by kernel_rfl) (fun w hw => Kn.hd0 (Kn.tl hw)) rfl rfl ?_
    simp only [qz]
    refine rf_loadR (n := 4) rfl rfl rfl Try.underlying43 rfl (by kernel_rfl) (fun w hw => Kn.hd0 hw) rfl rfl ?_
    simp only [qz]
    refine rf_eqA4 rfl rfl rfl rfl ?_
    simp only [qz]
    refine rg_nil (ek_next ?_)
    refine wk_cond (t := _) rfl (fun h3 => ?_) (fun h3 => ?_)
    · replace h3 := of_decide_eq_true h3
      refine wk_seq ?_
      refine wk_region [0, 0] rfl (by kernel_rfl) ?_
      simp only [qy]
      refine rg_move ?_
      simp only [qz]
      refine rg_assign ?_
      simp only [qz]
      refine rg_nil (ek_next (wk_ret (ek_block_ret (ek_then_ret (ek_then_ret (ek_block_ret (ek_then_ret ?_)))))))
      refine ek_ret (fun w hw => ⟨rfl, _, res_t _ rfl, ?_⟩)
      (try simp only [qz])
      have e := match_at (x := x) (y := y) (show n < 4 by omega) hc2 (okM_t1 (by unfold wtE; omega) h3)
      exact ⟨by rw [e], hw.below⟩
    replace h3 := of_decide_eq_false h3
    refine wk_skip (ek_block (ek_next ?_))
    refine wk_region [0, 0] rfl (by kernel_rfl) ?_
    simp only [qy]
    refine rf_add rfl rfl rfl rfl (wrap_ok (by omega) (by omega)) ?_
    simp only [qz]
    refine rg_move ?_
    simp only [qz]
    refine rg_nil ?_
    refine ek_sub (sk _ (sc _ (sc _ (sc _ sn)))) ?_
    refine ek_roundF (4 - (n + 1)) (by omega) (by kernel_rfl) ?_
    exact ⟨n + 1, rfl, by rfl, by rfl, by omega, (fun j hj => if e : j = n then e ▸ okM_f1 (by unfold wtE; omega) h3 else hc2 j (by omega))⟩
  (try simp only [qd, ne_eq] at h2)
  simp only [qz]
  refine rg_nil (ek_next (wk_cond_t rfl (wk_seq ?_)))
  refine wk_region [0] rfl (by kernel_rfl) ?_
  simp only [qy]
  refine rg_move ?_
  simp only [qz]
  refine rg_nil (ek_next (wk_block ?_))
  refine wk_unroll 4 ?_
  refine wk_seq ?_
  refine wk_region [0] rfl (by kernel_rfl) ?_
  simp only [qy]
  refine rf_lss (b := true) rfl rfl rfl rfl (by decide) ?_
  simp only [qz]
  refine rg_nil (ek_next (wk_seq (wk_cond_t rfl (wk_skip (ek_next (wk_seq (wk_block (wk_seq ?_))))))))
  refine wk_region [0, 0] rfl (by kernel_rfl) ?_
  simp only [qy]
  refine rg_move ?_
  simp only [qz]
  refine rg_assign ?_
  simp only [qz]
  refine rg_nil (ek_next ?_)
  refine wk_region [0, 0, 0, 0, 0, 0, 1] rfl (by kernel_rfl) ?_
  simp only [qy]
  refine rg_move ?_
  simp only [qz]
  refine rg_move ?_
  simp only [qz]
  refine rf_indexA (n := 0) (sz := 1) (j := 0) rfl rfl rfl rfl Try.underlying43 (by kernel_rfl) (by decide) rfl ?_
  simp only [qz]
  refine rf_load rfl rfl rfl Try.underlying3 rfl (fun w hw => (Kn.hd0 hw).at rfl) ?_
  simp only [qz]
  refine rf_sub rfl rfl rfl rfl (wrap_ok (by omega) (by omega)) ?_
  simp only [qz]
  refine rf_indexA (n := 0) (sz := 1) (j := 0) rfl rfl rfl rfl Try.underlying43 (by kernel_rfl) (by decide) rfl ?_
  simp only [qz]
  refine rf_store rfl rfl (by kernel_rfl) rfl rfl (UpdR.here _ _ _ (Nat.le_of_ble_eq_true rfl)) (fun _ h => by cases h) ?_
  simp only [qz]
  refine rg_nil (ek_block (ek_next ?_))
  refine wk_region [0, 0] rfl (by kernel_rfl) ?_
  simp only [qy]
  refine rf_add (r := 1) rfl rfl rfl rfl (by decide) ?_
  simp only [qz]
  refine rg_move ?_
  simp only [qz]
  refine rg_nil (ek_again (wk_seq ?_))
  refine wk_region [0] rfl (by kernel_rfl) ?_
  simp only [qy]
  refine rf_lss (b := true) rfl rfl rfl rfl (by decide) ?_
  simp only [qz]
  refine rg_nil (ek_next (wk_seq (wk_cond_t rfl (wk_skip (ek_next (wk_seq (wk_block (wk_seq ?_))))))))
  refine wk_region [0, 0] rfl (by kernel_rfl) ?_
  simp only [qy]
  refine rg_move ?_
  simp only [qz]
  refine rg_assign ?_
  simp only [qz]
  refine rg_nil (ek_next ?_)
  refine wk_region [0, 0, 0, 0, 0, 0, 1] rfl (by kernel_rfl) ?_
  simp only [qy]
  refine rg_move ?_
  simp only [qz]
  refine rg_move ?_
  simp only [qz]
  refine rf_indexA (n := 1) (sz := 1) (j := 1) rfl rfl rfl rfl Try.underlying43 (by kernel_rfl) (by decide) rfl ?_
  simp only [qz]
  refine rf_load rfl rfl rfl Try.underlying3 rfl (fun w hw => (Kn.hd0 hw).at rfl) ?_
  simp only [qz]
  refine rf_sub rfl rfl rfl rfl (wrap_ok (by omega) (by omega)) ?_
  simp only [qz]
  refine rf_indexA (n := 1) (sz := 1) (j := 1) rfl rfl rfl rfl Try.underlying43 (by kernel_rfl) (by decide) rfl ?_
  simp only [qz]
  refine rf_store rfl rfl (by kernel_rfl) rfl rfl (UpdR.here _ _ _ (Nat.le_of_ble_eq_true rfl)) (fun _ h => by cases h) ?_
  simp only [qz]
  refine rg_nil (ek_block (ek_next ?_))
  refine wk_region [0, 0] rfl (by kernel_rfl) ?_
  simp only [qy]
  refine rf_add (r := 2) rfl rfl rfl rfl (by decide) ?_
  simp only [qz]
  refine rg_move ?_
  simp only [qz]
  refine rg_nil (ek_again (wk_seq ?_))
  refine wk_region [0] rfl (by kernel_rfl) ?_
  simp only [qy]
  refine rf_lss (b := true) rfl rfl rfl rfl (by decide) ?_
  simp only [qz]
  refine rg_nil (ek_next (wk_seq (wk_cond_t rfl (wk_skip (ek_next (wk_seq (wk_block (wk_seq ?_))))))))
  refine wk_region [0, 0] rfl (by kernel_rfl) ?_
  simp only [qy]
  refine rg_move ?_
  simp only [qz]
  refine rg_assign ?_
  simp only [qz]
  refine rg_nil (ek_next ?_)
  refine wk_region [0, 0, 0, 0, 0, 0, 1] rfl (by kernel_rfl) ?_
  simp only [qy]
  refine rg_move ?_
  simp only [qz]
  refine rg_move ?_
  simp only [qz]
  refine rf_indexA (n := 2) (sz := 1) (j := 2) rfl rfl rfl rfl Try.underlying43 (by kernel_rfl) (by decide) rfl ?_
  simp only [qz]
  refine rf_load rfl rfl rfl Try.underlying3 rfl (fun w hw => (Kn.hd0 hw).at rfl) ?_
  simp only [qz]
  refine rf_sub rfl rfl rfl rfl (wrap_ok (by omega) (by omega)) ?_
  simp only [qz]
  refine rf_indexA (n := 2) (sz := 1) (j := 2) rfl rfl rfl rfl Try.underlying43 (by kernel_rfl) (by decide) rfl ?_
  simp only [qz]
  refine rf_store rfl rfl (by kernel_rfl) rfl rfl (UpdR.here _ _ _ (Nat.le_of_ble_eq_true rfl)) (fun _ h => by cases h) ?_
  simp only [qz]
  refine rg_nil (ek_block (ek_next ?_))
  refine wk_region [0, 0] rfl (by kernel_rfl) ?_
  simp only [qy]
  refine rf_add (r := 3) rfl rfl rfl rfl (by decide) ?_
  simp only [qz]
  refine rg_move ?_
  simp only [qz]
  refine rg_nil (ek_again (wk_seq ?_))
  refine wk_region [0] rfl (by kernel_rfl) ?_
  simp only [qy]
  refine rf_lss (b := true) rfl rfl rfl rfl (by decide) ?_
  simp only [qz]
  refine rg_nil (ek_next (wk_seq (wk_cond_t rfl (wk_skip (ek_next (wk_seq (wk_block (wk_seq ?_))))))))
  refine wk_region [0, 0] rfl (by kernel_rfl) ?_
  simp only [qy]
  refine rg_move ?_
  simp only [qz]
  refine rg_assign ?_
  simp only [qz]
  refine rg_nil (ek_next ?_)
  refine wk_region [0, 0, 0, 0, 0, 0, 1] rfl (by kernel_rfl) ?_
  simp only [qy]
  refine rg_move ?_
  simp only [qz]
  refine rg_move ?_
  simp only [qz]
  refine rf_indexA (n := 3) (sz := 1) (j := 3) rfl rfl rfl rfl Try.underlying43 (by kernel_rfl) (by decide) rfl ?_
  simp only [qz]
  refine rf_load rfl rfl rfl Try.underlying3 rfl (fun w hw => (Kn.hd0 hw).at rfl) ?_
  simp only [qz]
  refine rf_sub rfl rfl rfl rfl (wrap_ok (by omega) (by omega)) ?_
  simp only [qz]
  refine rf_indexA (n := 3) (sz := 1) (j := 3) rfl rfl rfl rfl Try.underlying43 (by kernel_rfl) (by decide) rfl ?_
  simp only [qz]
  refine rf_store rfl rfl (by kernel_rfl) rfl rfl (UpdR.here _ _ _ (Nat.le_of_ble_eq_true rfl)) (fun _ h => by cases h) ?_
  simp only [qz]
  refine rg_nil (ek_block (ek_next ?_))
  refine wk_region [0, 0] rfl (by kernel_rfl) ?_
  simp only [qy]
  refine rf_add (r := 4) rfl rfl rfl rfl (by decide) ?_
  simp only [qz]
  refine rg_move ?_
  simp only [qz]
  refine rg_nil (ek_again (wk_seq ?_))
  refine wk_region [0] rfl (by kernel_rfl) ?_
  simp only [qy]
  refine rf_lss (b := false) rfl rfl rfl rfl (by decide) ?_
  simp only [qz]
  refine rg_nil (ek_next (wk_seq (wk_cond_f rfl (wk_exit (ek_then_exit (ek_then_exit (ek_block_exit (ek_next (wk_seq ?_)))))))))
  refine wk_region [0, 0, 0] rfl (by kernel_rfl) ?_
  simp only [qy]
  refine rf_loadR (n := 4) rfl rfl rfl Try.underlying43 rfl (by kernel_rfl) (fun w hw => Kn.hd0 (Kn.tl hw)) rfl rfl ?_
  simp only [qz]
  refine rf_loadR (n := 4) rfl rfl rfl Try.underlying43 rfl (by kernel_rfl) (fun w hw => Kn.hd0 hw) rfl rfl ?_
  simp only [qz]
  refine rf_eqA4 rfl rfl rfl rfl ?_
  simp only [qz]
  refine rg_nil (ek_next ?_)
  refine wk_cond (t := _) rfl (fun h4 => ?_) (fun h4 => ?_)
  · replace h4 := of_decide_eq_true h4
    refine wk_seq ?_
    refine wk_region [0, 0] rfl (by kernel_rfl) ?_
    simp only [qy]
    refine rg_move ?_
    simp only [qz]
    refine rg_assign ?_
    simp only [qz]
    refine rg_nil (ek_next (wk_ret (ek_block_ret (ek_then_ret (ek_then_ret (ek_block_ret (ek_then_ret ?_)))))))
    refine ek_ret (fun w hw => ⟨rfl, _, res_t _ rfl, ?_⟩)
    (try simp only [qz])
    have e := match_at (x := x) (y := y) (show n < 4 by omega) hc2 (okM_t2 (by unfold wtE; omega) h4)
    exact ⟨by rw [e], hw.below⟩
  replace h4 := of_decide_eq_false h4
  refine wk_skip (ek_block (ek_next ?_))
  refine wk_region [0, 0] rfl (by kernel_rfl) ?_
  simp only [qy]
  refine rf_add rfl rfl rfl rfl (wrap_ok (by omega) (by omega)) ?_
  simp only [qz]
  refine rg_move ?_
  simp only [qz]
  refine rg_nil ?_
  refine ek_sub (sk _ (sc _ (sc _ (sc _ sn)))) ?_
  refine ek_roundF (4 - (n + 1)) (by omega) (by kernel_rfl) ?_
  exact ⟨n + 1, rfl, by rfl, by rfl, by omega, (fun j hj => if e : j = n then e ▸ okM_f2 (by unfold wtE; omega) h4 else hc2 j (by omega))⟩

end Go.Proofs.Ytccbinnlnkpplaa
namespace Go.Proofs.Ytccbinnlnkpplaa
set_option linter.all false
open Go.RowKit

/-- A row of which the first k numbers are written. -/
def wrS (l : List Nm) (f : Nat → Nm) (k : Nat) : List Nm := (List.range l.length).map fun j => if j < k then f j else nm l j
theorem wrS_len (l : List Nm) (f : Nat → Nm) (k : Nat) : (wrS l f k).length = l.length := by simp [wrS]
theorem wrS_nm {l : List Nm} {f : Nat → Nm} {k j : Nat} (h : j < l.length) : nm (wrS l f k) j = if j < k then f j else nm l j := by
  show ((wrS l f k).getD j _) = _
  unfold wrS
  rw [List.getD_eq_getElem?_getD, List.getElem?_map, List.getElem?_range h]; rfl
theorem wrS_zero (l : List Nm) (f : Nat → Nm) : wrS l f 0 = l := by
  refine List.ext_getElem (wrS_len l f 0) fun j h1 h2 => ?_
  have e := wrS_nm (l := l) (f := f) (k := 0) h2
  rw [if_neg (by omega)] at e
  unfold nm El.at at e
  rw [List.getD_eq_getElem?_getD, List.getD_eq_getElem?_getD, List.getElem?_eq_getElem h1, List.getElem?_eq_getElem h2] at e
  exact e
theorem wrS_set {l : List Nm} {f : Nat → Nm} {k : Nat} (h : k < l.length) : (wrS l f k).set k (f k) = wrS l f (k + 1) := by
  refine List.ext_getElem (by rw [List.length_set, wrS_len, wrS_len]) fun j h1 h2 => ?_
  have hj : j < l.length := by rw [wrS_len] at h2; exact h2
  have e1 := wrS_nm (l := l) (f := f) (k := k) hj
  have e2 := wrS_nm (l := l) (f := f) (k := k + 1) hj
  unfold nm El.at at e1 e2
  rw [List.getD_eq_getElem?_getD, List.getElem?_eq_getElem (by rw [wrS_len]; exact hj)] at e1
  rw [List.getD_eq_getElem?_getD, List.getElem?_eq_getElem h2] at e2
  simp only [Option.getD_some] at e1 e2
  rw [List.getElem_set, e2]
  by_cases e : k = j
  · subst e; rw [if_pos rfl, if_pos (by omega)]
  · rw [if_neg e, e1]
    by_cases hlt : j < k
    · rw [if_pos hlt, if_pos (by omega)]
    · rw [if_neg hlt, if_neg (by omega)]
theorem sw_get {x y : RW} {A C : List RW} {i : Nat} : (A ++ y :: x :: C)[i]? = (A ++ x :: y :: C)[swq A.length i]? := by
  rcases (by omega : i < A.length ∨ i = A.length ∨ i = A.length + 1 ∨ A.length + 2 ≤ i) with h | h | h | h
  · rw [swq_o (by omega) (by omega), List.getElem?_append_left h, List.getElem?_append_left h]
  · subst h; rw [swq_p, List.getElem?_append_right (Nat.le_refl _), List.getElem?_append_right (by omega)]; simp
  · subst h; rw [swq_q, List.getElem?_append_right (by omega), List.getElem?_append_right (Nat.le_refl _)]; simp
  · rw [swq_o (by omega) (by omega), List.getElem?_append_right (by omega), List.getElem?_append_right (by omega)]
    obtain ⟨m, hm⟩ : ∃ m, i - A.length = m + 2 := ⟨i - A.length - 2, by omega⟩
    rw [hm]; rfl
theorem ap_one {x : RW} {A C : List RW} {i : Nat} {q : RW} (h : (A ++ x :: C)[i]? = some q) : i = A.length ∧ q = x ∨ i ≠ A.length ∧ ∀ x', (A ++ x' :: C)[i]? = some q := by
  rcases (by omega : i < A.length ∨ i = A.length ∨ A.length + 1 ≤ i) with h1 | h1 | h1
  · refine .inr ⟨by omega, fun x' => ?_⟩
    rw [List.getElem?_append_left h1] at h ⊢; exact h
  · subst h1
    rw [List.getElem?_append_right (Nat.le_refl _), Nat.sub_self] at h
    exact .inl ⟨rfl, (Option.some.inj h).symm⟩
  · refine .inr ⟨by omega, fun x' => ?_⟩
    rw [List.getElem?_append_right (by omega)] at h ⊢
    obtain ⟨m, hm⟩ : ∃ m, i - A.length = m + 1 := ⟨i - A.length - 1, by omega⟩
    rw [hm] at h ⊢; exact h
theorem ap_two {x y : RW} {A C : List RW} {i : Nat} {q : RW} (h : (A ++ x :: y :: C)[i]? = some q) : i = A.length ∧ q = x ∨ i = A.length + 1 ∧ q = y ∨ i ≠ A.length ∧ i ≠ A.length + 1 ∧ ∀ x' y', (A ++ x' :: y' :: C)[i]? = some q := by
  rcases (by omega : i < A.length ∨ i = A.length ∨ i = A.length + 1 ∨ A.length + 2 ≤ i) with h1 | h1 | h1 | h1
  · refine .inr (.inr ⟨by omega, by omega, fun x' y' => ?_⟩)
    rw [List.getElem?_append_left h1] at h ⊢; exact h
  · subst h1
    rw [List.getElem?_append_right (Nat.le_refl _), Nat.sub_self] at h
    exact .inl ⟨rfl, (Option.some.inj h).symm⟩
  · subst h1
    rw [List.getElem?_append_right (by omega), show A.length + 1 - A.length = 1 by omega] at h
    exact .inr (.inl ⟨rfl, (Option.some.inj h).symm⟩)
  · refine .inr (.inr ⟨by omega, by omega, fun x' y' => ?_⟩)
    rw [List.getElem?_append_right (by omega)] at h ⊢
    obtain ⟨m, hm⟩ : ∃ m, i - A.length = m + 2 := ⟨i - A.length - 2, by omega⟩
    rw [hm] at h ⊢; exact h
theorem at_one {x : RW} {A C : List RW} : (A ++ x :: C)[A.length]? = some x := by rw [List.getElem?_append_right (Nat.le_refl _), Nat.sub_self]; rfl
theorem at_two {x y : RW} {A C : List RW} : (A ++ x :: y :: C)[A.length + 1]? = some y := by rw [List.getElem?_append_right (by omega), show A.length + 1 - A.length = 1 by omega]; rfl
theorem at_oneP {x : RW} {A C : List RW} {p : Nat} (h : A.length = p) : (A ++ x :: C)[p]? = some x := h ▸ at_one
theorem at_twoP {x y : RW} {A C : List RW} {p : Nat} (h : A.length = p) : (A ++ x :: y :: C)[p + 1]? = some y := h ▸ at_two
/-- Both stores of an exchange. -/
theorem cross_set {N p : Nat} {A C : List RW} {b c b' c' : Nat} {l l' : List Nm} {r r' ro : List Value} (hA : A.length = p) :
    (((rwV N (A ++ ⟨b, c, l, r⟩ :: ⟨b', c', l', r'⟩ :: C) ++ ro).set p (.slice (some ⟨b', 0, none⟩) N c')).set (p + 1) (.slice (some ⟨b, 0, none⟩) N c)) = rwV N (A ++ ⟨b', c', l', r'⟩ :: ⟨b, c, l, r⟩ :: C) ++ ro := by
  subst hA
  have hl : (A.map (RW.val N)).length = A.length := List.length_map ..
  simp only [rwV, List.map_append, List.map_cons, List.append_assoc, List.cons_append]
  rw [List.set_append_right _ _ (by rw [hl]; exact Nat.le_refl _), hl, Nat.sub_self, List.set_cons_zero, List.set_append_right _ _ (by rw [hl]; omega), hl, show A.length + 1 - A.length = 0 + 1 by omega, List.set_cons_succ, List.set_cons_zero]
  rfl
theorem go_sz {N : Nat} {rs : List RW} {ro : List Value} {i : Nat} (h : i < rs.length) (v : Value) : i + [v].length ≤ (rwV N rs ++ ro).toArray.size := by
  rw [List.size_toArray, List.length_append, List.length_map]
  show i + 1 ≤ _
  omega
theorem go_sz2 {N : Nat} {rs : List RW} {ro : List Value} {i j : Nat} (h : i < rs.length) (v v' : Value) : i + [v].length ≤ ((rwV N rs ++ ro).set j v').toArray.size := by
  rw [List.size_toArray, List.length_set, List.length_append, List.length_map]
  show i + 1 ≤ _
  omega
section
variable {N gw go oc : Nat} {z : Zt} {L : List It} {ro : List Value} {ia : Option Addr} {ic : Nat} {u : List Blk}
theorem rw_swap {A C : List RW} {x y : RW} : (rwB (A ++ x :: y :: C)).Perm (rwB (A ++ y :: x :: C)) := ((List.Perm.swap _ _ _).append_left A).map _
theorem WS.crossed {p : Nat} {A C : List RW} {x y : RW} (hA : A.length = p) (hl : (A ++ x :: y :: C).length = N) (hp : p + 1 < N) (hoc : N ≤ oc) (hlen : ∀ q ∈ A ++ x :: y :: C, q.l.length = N)
    (hval : ∀ i q, (A ++ x :: y :: C)[i]? = some q → ∀ k, k < N → nm q.l k = z i k) (hO : OwnT u (.slice ia L.length ic) L) (hok : ∀ i k, i < N → k < N → (z i k).Ok) :
    WS N gw (crZ p z) L ((gw, .cells #[.slice (some ⟨go, 0, none⟩) N oc, .slice ia L.length ic] 131) :: (go, .cells (rwV N (A ++ y :: x :: C) ++ ro).toArray 36) :: (rwB (A ++ y :: x :: C) ++ (u ++ []))) :=
  ⟨go, oc, ro, A ++ y :: x :: C, ia, ic, u, rfl, by rw [← hl]; simp, hoc, fun q hq => hlen q (by simp at hq ⊢; rcases hq with h | h | h | h <;> simp [h]), fun i q hq k hk => by
    rw [sw_get] at hq
    subst hA
    exact hval _ q hq k hk, hO, fun i k hi hk => hok _ k (swq_lt hp hi) hk⟩
theorem WS.wrote {p : Nat} {A C : List RW} {b c : Nat} {l : List Nm} {r : List Value} {f : Nat → Nm} {z' : Zt} (hA : A.length = p) (hl : (A ++ ⟨b, c, l, r⟩ :: C).length = N) (hoc : N ≤ oc) (hlen : ∀ q ∈ A ++ ⟨b, c, l, r⟩ :: C, q.l.length = N)
    (hval : ∀ i q, (A ++ ⟨b, c, l, r⟩ :: C)[i]? = some q → ∀ k, k < N → nm q.l k = z i k) (hO : OwnT u (.slice ia L.length ic) L) (hok : ∀ i k, i < N → k < N → (z' i k).Ok) (hf : ∀ k, k < N → f k = z' p k) (hz : ∀ i k, i ≠ p → i < N → k < N → z' i k = z i k) :
    WS N gw z' L ((gw, .cells #[.slice (some ⟨go, 0, none⟩) N oc, .slice ia L.length ic] 131) :: (go, .cells (rwV N (A ++ ⟨b, c, l, r⟩ :: C) ++ ro).toArray 36) :: (rwB A ++ (b, .cells (NmE.flat (wrS l f N) ++ r).toArray 45) :: (rwB C ++ (u ++ [])))) := by
  have hll : l.length = N := hlen ⟨b, c, l, r⟩ (by simp)
  refine ⟨go, oc, ro, A ++ ⟨b, c, wrS l f N, r⟩ :: C, ia, ic, u, ?_, by rw [← hl]; simp, hoc, fun q hq => ?_, fun i q hq k hk => ?_, hO, hok⟩
  · rw [rw_one, List.append_assoc, List.cons_append]
    have e : rwV N (A ++ ⟨b, c, l, r⟩ :: C) = rwV N (A ++ ⟨b, c, wrS l f N, r⟩ :: C) := by unfold rwV; rw [List.map_append, List.map_append, List.map_cons, List.map_cons]; rfl
    rw [e]
  · rcases List.mem_append.1 hq with h | h
    · exact hlen q (List.mem_append_left _ h)
    · rcases List.mem_cons.1 h with rfl | h
      · exact (wrS_len l f N).trans hll
      · exact hlen q (List.mem_append_right _ (List.mem_cons_of_mem _ h))
  · have hiN : i < N := by
      rcases Nat.lt_or_ge i (A ++ ⟨b, c, wrS l f N, r⟩ :: C).length with h | h
      · rw [← hl]; simpa using h
      · rw [List.getElem?_eq_none h] at hq; cases hq
    rcases ap_one hq with ⟨e1, e2⟩ | ⟨e1, e2⟩
    · subst e2 e1
      show nm (wrS l f N) k = _
      rw [wrS_nm (by omega), if_pos hk, hf k hk, hA]
    · rw [hval i q (e2 _) k hk, hz i k (by omega) hiN hk]
theorem WS.wrote2 {p : Nat} {A C : List RW} {b c b1 c1 : Nat} {l l1 : List Nm} {r r1 : List Value} {f g : Nat → Nm} {z' : Zt} (hA : A.length = p) (hl : (A ++ ⟨b, c, l, r⟩ :: ⟨b1, c1, l1, r1⟩ :: C).length = N) (hoc : N ≤ oc) (hlen : ∀ q ∈ A ++ ⟨b, c, l, r⟩ :: ⟨b1, c1, l1, r1⟩ :: C, q.l.length = N)
    (hval : ∀ i q, (A ++ ⟨b, c, l, r⟩ :: ⟨b1, c1, l1, r1⟩ :: C)[i]? = some q → ∀ k, k < N → nm q.l k = z i k) (hO : OwnT u (.slice ia L.length ic) L) (hok : ∀ i k, i < N → k < N → (z' i k).Ok) (hf : ∀ k, k < N → f k = z' p k) (hg : ∀ k, k < N → g k = z' (p + 1) k) (hz : ∀ i k, i ≠ p → i ≠ p + 1 → i < N → k < N → z' i k = z i k) :
    WS N gw z' L ((gw, .cells #[.slice (some ⟨go, 0, none⟩) N oc, .slice ia L.length ic] 131) :: (go, .cells (rwV N (A ++ ⟨b, c, l, r⟩ :: ⟨b1, c1, l1, r1⟩ :: C) ++ ro).toArray 36) :: (rwB A ++ (b, .cells (NmE.flat (wrS l f N) ++ r).toArray 45) :: (b1, .cells (NmE.flat (wrS l1 g N) ++ r1).toArray 45) :: (rwB C ++ (u ++ [])))) := by
  have hll : l.length = N := hlen ⟨b, c, l, r⟩ (by simp)
  have hll1 : l1.length = N := hlen ⟨b1, c1, l1, r1⟩ (by simp)
  refine ⟨go, oc, ro, A ++ ⟨b, c, wrS l f N, r⟩ :: ⟨b1, c1, wrS l1 g N, r1⟩ :: C, ia, ic, u, ?_, by rw [← hl]; simp, hoc, fun q hq => ?_, fun i q hq k hk => ?_, hO, hok⟩
  · rw [rw_two, List.append_assoc, List.cons_append, List.cons_append]
    have e : rwV N (A ++ ⟨b, c, l, r⟩ :: ⟨b1, c1, l1, r1⟩ :: C) = rwV N (A ++ ⟨b, c, wrS l f N, r⟩ :: ⟨b1, c1, wrS l1 g N, r1⟩ :: C) := by
      unfold rwV; rw [List.map_append, List.map_append, List.map_cons, List.map_cons, List.map_cons, List.map_cons]; rfl
    rw [e]
  · rcases List.mem_append.1 hq with h | h
    · exact hlen q (List.mem_append_left _ h)
    · rcases List.mem_cons.1 h with rfl | h
      · exact (wrS_len l f N).trans hll
      · rcases List.mem_cons.1 h with rfl | h
        · exact (wrS_len l1 g N).trans hll1
        · exact hlen q (List.mem_append_right _ (List.mem_cons_of_mem _ (List.mem_cons_of_mem _ h)))
  · have hiN : i < N := by
      rcases Nat.lt_or_ge i (A ++ ⟨b, c, wrS l f N, r⟩ :: ⟨b1, c1, wrS l1 g N, r1⟩ :: C).length with h | h
      · rw [← hl]; simpa using h
      · rw [List.getElem?_eq_none h] at hq; cases hq
    rcases ap_two hq with ⟨e1, e2⟩ | ⟨e1, e2⟩ | ⟨e1, e2, e3⟩
    · subst e2 e1
      show nm (wrS l f N) k = _
      rw [wrS_nm (by omega), if_pos hk, hf k hk, hA]
    · subst e2 e1
      show nm (wrS l1 g N) k = _
      rw [wrS_nm (by omega), if_pos hk, hg k hk, hA]
    · rw [hval i q (e3 _ _) k hk, hz i k (by omega) (by omega) hiN hk]
end
end Go.Proofs.Ytccbinnlnkpplaa
namespace Go.Proofs.Ytccbinnlnkpplaa
set_option linter.all false
open Go.RowKit

set_option maxRecDepth 100000 in
set_option maxHeartbeats 1000000 in
theorem amHalve_ok (z : Nm) (n : Int) (hz : z.Ok) (h0 : 0 ≤ n) (h1 : n ≤ 100) (w : World) : Calls Try.prog 83 #[nmV z, .int .i64 n] w fun e w' => e = .returned (numV (z.halve n)) ∧ Below w.heap.size w w' := by
  obtain ⟨hk0, hk1⟩ := (⟨hz.k0, hz.k1⟩ : 0 ≤ z.k ∧ z.k ≤ 40)
  go_enter Try.func83, Try.ntmps83
  refine wk_start ?_
  refine wk_seq ?_
  refine wk_region [1, 1, 0] rfl Kx ?_
  simp only [qy]
  refine Rgn fun g1 => ?_
  simp only [qz]
  refine Rgn fun g2 => ?_
  simp only [qz]
  refine rg_assign ?_
  simp only [qz]
  refine rg_nil (ek_next (wk_seq (wk_block (wk_seq ?_))))
  refine wk_region [0, 1, 0, 0] rfl Kx ?_
  simp only [qy]
  refine rf_loadR (n := 5) rfl rfl rfl Try.underlying45 rfl Kx (fun w hw => Kn.hd0 (Kn.tl hw)) rfl rfl ?_
  simp only [qz]
  apply rg_pure Rx Kx
  case hargs => exact Ax
  case h => exact fun w hw => by have := amvalid_any z w; rw [okB_yes hz] at this; exact this
  case hz => exact Nz
  simp only [qz]
  refine rf_not rfl rfl rfl ?_
  simp only [qz]
  refine rg_assign ?_
  simp only [qz]
  refine rg_nil (ek_next (wk_cond_f rfl (wk_seq ?_)))
  refine wk_region [0, 0, 0, 0, 0, 0, 0] rfl Kx ?_
  simp only [qy]
  refine rg_move ?_
  simp only [qz]
  refine rfb_lss rfl rfl rfl rfl ?_
  intro x h1
  obtain rfl : x = false := by (refine h1.symm.trans ?_; exact decide_eq_false Ox)
  clear h1
  simp only [qz]
  refine rg_move ?_
  simp only [qz]
  apply rg_soft_g
  case hg => rfl
  case hy => (intro w hw; go_simp; (try go_bits); exact Yld.mk _ _)
  simp only [qz]
  refine rfb_gtr rfl rfl rfl rfl ?_
  intro x h2
  obtain rfl : x = false := by (refine h2.symm.trans ?_; exact decide_eq_false Ox)
  clear h2
  simp only [qz]
  refine rf_pick rfl rfl rfl ?_
  simp only [qz]
  refine rg_assign ?_
  simp only [qz]
  refine rg_nil (ek_next (wk_cond_f rfl (wk_skip (ek_block (ek_next (wk_seq ?_))))))
  refine wk_region [0, 0, 0, 0, 0, 0, 0, 1, 0, 0, 1, 0] rfl Kx ?_
  simp only [qy]
  refine rf_field (n := 3) (j := 0) rfl rfl rfl Try.underlying45 rfl Kx rfl ?_
  simp only [qz]
  refine rf_loadR (n := 4) rfl rfl rfl Try.underlying43 rfl Kx (fun w hw => Kn.hd0 (Kn.tl hw)) rfl rfl ?_
  simp only [qz]
  refine rf_field (n := 0) (j := 4) rfl rfl rfl Try.underlying45 rfl Kx rfl ?_
  simp only [qz]
  refine rf_load rfl rfl rfl Try.underlying3 rfl (fun w hw => (Kn.hd0 (Kn.tl hw)).at rfl) ?_
  simp only [qz]
  refine rg_move ?_
  simp only [qz]
  refine rf_add rfl rfl rfl rfl (wrap_ok Ox Ox) ?_
  simp only [qz]
  refine rf_build (cs := fun a => #[cellAt (a.eval (.tmp 20)) 0, cellAt (a.eval (.tmp 20)) 1, cellAt (a.eval (.tmp 20)) 2, cellAt (a.eval (.tmp 20)) 3, a.eval (.tmp 24)]) rfl rfl Kx ?_
  simp only [qz]
  apply rg_num Rx Kx
  case hargs => exact Ax
  case h => exact fun w hw => result_any ⟨z.a, z.b, z.c, z.d, z.k + n⟩ (by have := Nm.fit_mono hz.fit (show (1000000000 : Int) ≤ 4611686018427387903 by omega); exact ⟨this.a0, this.a1, this.b0, this.b1, this.c0, this.c1, this.d0, this.d1⟩) (by have := hz.k1; dsimp only; omega) w
  case hz => exact Nz
  case hc => exact (fun c h => mk_err h)
  · intro hr3
    simp only [qz]
    refine rf_extract rfl rfl rfl rfl ?_
    simp only [qz]
    refine rf_extract rfl rfl rfl rfl ?_
    simp only [qz]
    refine rf_storeR (n := 5) rfl rfl Kx rfl rfl (UpdR.here _ _ _ Nl) Nz ?_
    simp only [qz, Nat.reduceAdd]
    refine rg_assign ?_
    simp only [qz]
    refine rg_nil (ek_next (wk_ret ?_))
    refine ek_ret (fun w hw => ⟨rfl, _, run_results2 rfl rfl (Kn.hd0 hw) Try.underlying45 rfl Kx, ?_⟩)
    (try simp only [qz])
    exact ⟨by rw [show z.halve n = _ from hr3]; rfl, hw.below⟩
  intro z3 hr3
  simp only [qz]
  refine rf_extract rfl rfl rfl rfl ?_
  simp only [qz]
  refine rf_extract rfl rfl rfl rfl ?_
  simp only [qz]
  refine rf_storeR (n := 5) rfl rfl Kx rfl rfl (UpdR.here _ _ _ Nl) Nz ?_
  simp only [qz, Nat.reduceAdd]
  refine rg_assign ?_
  simp only [qz]
  refine rg_nil (ek_next (wk_ret ?_))
  refine ek_ret (fun w hw => ⟨rfl, _, run_results2 rfl rfl (Kn.hd0 hw) Try.underlying45 rfl Kx, ?_⟩)
  (try simp only [qz])
  exact ⟨by rw [show z.halve n = _ from hr3]; rfl, hw.below⟩

end Go.Proofs.Ytccbinnlnkpplaa
namespace Go.Proofs.Ytccbinnlnkpplaa
set_option linter.all false
open Go.RowKit

theorem errI_mt : ∀ r : NR, numV r = .tuple #[nmV (mtR r), .int .i64 (match r with | .ok _ => 0 | .error c => c)]
  | .ok _ => rfl
  | .error _ => rfl
def errI (r : NR) : Int := match r with
  | .ok _ => 0
  | .error c => c
theorem amAdd_mt (x y : Nm) (hx : x.Ok) (hy : y.Ok) (w : World) : Calls Try.prog 82 #[nmV x, nmV y] w fun e w' => e = .returned (.tuple #[nmV (mtR (x.add y)), .int .i64 (errI (x.add y))]) ∧ Below w.heap.size w w' :=
  (amAdd_ok x y hx hy w).mono fun e w' ⟨h1, h2⟩ => ⟨h1.trans (by rw [errI_mt]; rfl), h2⟩
theorem amHalve_mt (z : Nm) (hz : z.Ok) (w : World) : Calls Try.prog 83 #[nmV z, .int .i64 1] w fun e w' => e = .returned (.tuple #[nmV (mtR (z.halve 1)), .int .i64 (errI (z.halve 1))]) ∧ Below w.heap.size w w' :=
  (amHalve_ok z 1 hz (by omega) (by omega) w).mono fun e w' ⟨h1, h2⟩ => ⟨h1.trans (by rw [errI_mt]; rfl), h2⟩
theorem amTurn2 (z : Nm) (hz : z.Ok) (w : World) : Calls Try.prog 159 #[nmV z, .int .i64 2] w fun e w' => e = .returned (.tuple #[nmV z.rot.rot, .int .i64 0]) ∧ Below w.heap.size w w' := amTurn_ok z 2 hz w
theorem amTurnM (z : Nm) (m : Nat) (hm : m < 8) (hz : z.Ok) (w : World) : Calls Try.prog 159 #[nmV z, .int .i64 (m : Int)] w fun e w' => e = .returned (.tuple #[nmV (turnM m z), .int .i64 0]) ∧ Below w.heap.size w w' := by
  have h := amTurn_ok z (m : Int) hz w
  have e : Nm.turn ((m : Int) % 8).toNat z = turnM m z := by
    rw [show ((m : Int) % 8).toNat = m by omega]
    clear h hm hz
    induction m with
    | zero => rfl
    | succ m ih => show (Nm.turn m z).rot = (turnM m z).rot; rw [ih]
  rw [e] at h
  exact h
theorem mtR_ok {x : Nm} (h0 : 0 ≤ x.k) : (mtR x.mk').Ok := by
  cases h : x.mk' with
  | ok v => exact (mk_ok h0 h).1
  | error c => exact zero_ok
theorem cX_ok {x y : Nm} (hx : x.Ok) (hy : y.Ok) : (mtR (x.add y.rot.rot)).Ok ∧ (cX x y).Ok := by
  have h1 : (mtR (x.add y.rot.rot)).Ok := mtR_ok (addR_k hx.k0)
  exact ⟨h1, mtR_ok (by show 0 ≤ (mtR (x.add y.rot.rot)).k + 1; have := h1.k0; omega)⟩
theorem cY_ok {x y : Nm} (hx : x.Ok) (hy : y.Ok) : (mtR (x.rot.rot.add y)).Ok ∧ (cY x y).Ok := by
  have h1 : (mtR (x.rot.rot.add y)).Ok := mtR_ok (addR_k (show 0 ≤ x.k from hx.k0))
  exact ⟨h1, mtR_ok (by show 0 ≤ (mtR (x.rot.rot.add y)).k + 1; have := h1.k0; omega)⟩
set_option maxRecDepth 100000 in
set_option maxHeartbeats 1000000 in
theorem wcross_any (N p gw : Nat) (z : Zt) (L : List It) (s : List Blk) (hS : WS N gw z L s) (hN : N ≤ 6) (hL : L.length ≤ 100000) (hp : p + 1 < N) (w : World) (hK : Kn w (s.map (·.1)) s w) : Calls Try.prog 193 #[.pointer (some ⟨gw, 0, none⟩), .int .i64 (p : Int)] w fun e w' => e = .returned (.tuple #[]) ∧ ∃ s', Kn w (s.map (·.1)) s' w' ∧ WS N gw (crZ p z) (L ++ [cross p]) s' := by
  obtain ⟨go, oc, ro, rs, ia, ic, u, rfl, hrl, hoc, hlen, hval, hO, hok⟩ := hS
  obtain ⟨A, b, c, l, r, b1, c1, l1, r1, C, rfl, hA⟩ := split2 (p := p) (rs := rs) (by omega)
  have hpl : p + 1 < (A ++ ⟨b, c, l, r⟩ :: ⟨b1, c1, l1, r1⟩ :: C).length := by omega
  go_enter Try.func193, Try.ntmps193
  refine wk_startF hK ?_
  refine wk_seq ?_
  refine wk_draws_m (hz1 := (sc _ (sk _ (List.Sublist.append_left (List.Sublist.append_left sn _) _)))) [(0, 0), (1, 0), (2, 0), (3, 0), (4, 0), (5, 3), (6, 3), (7, 3), (8, 0), (9, 3), (10, 3), (11, 0), (12, 0), (13, 0), (14, 0), (15, 0), (16, 0), (17, 0), (18, 0), (19, 3), (20, 3), (21, 3), (22, 0), (23, 3), (24, 3), (25, 0), (26, 0), (27, 2), (28, 0), (29, 1)] 27 (by kernel_rfl) (by kernel_rfl) (fun c d v a w h => by cases d <;> exact h) ?_
  simp only [List.map_cons, List.map_nil, List.getD_cons_zero, List.getD_cons_succ]
  refine rg_move ?_
  simp only [qz]
  apply rg_soft
  case hy => (intro w hw; go_simp; (try go_bits); exact Yld.mk _ _)
  simp only [qz]
  refine rf_field (n := 0) (j := 0) rfl rfl rfl Try.underlying131 rfl (by kernel_rfl) rfl ?_
  simp only [qz]
  refine rf_load rfl rfl rfl Try.underlying129 rfl (fun w hw => (Kn.hd0 hw).at rfl) ?_
  simp only [qz]
  refine rg_move ?_
  simp only [qz]
  refine rg_moveP ?_
  simp only [qz]
  apply rg_softP
  case hy => (intro w hw; go_simp; (try go_bits); exact Yld.mk _ _)
  simp only [qz]
  refine rf_field (n := 0) (j := 0) rfl rfl rfl Try.underlying131 rfl (by kernel_rfl) rfl ?_
  simp only [qz]
  refine rf_load rfl rfl rfl Try.underlying129 rfl (fun w hw => (Kn.hd0 hw).at rfl) ?_
  simp only [qz]
  refine rg_moveP ?_
  simp only [qz]
  refine rf_add rfl rfl rfl rfl (wrap_ok (by omega) (by omega)) ?_
  simp only [qz]
  refine rg_move ?_
  simp only [qz]
  apply rg_soft
  case hy => (intro w hw; go_simp; (try go_bits); exact Yld.mk _ _)
  simp only [qz]
  refine rf_field (n := 0) (j := 0) rfl rfl rfl Try.underlying131 rfl (by kernel_rfl) rfl ?_
  simp only [qz]
  refine rf_load rfl rfl rfl Try.underlying129 rfl (fun w hw => (Kn.hd0 hw).at rfl) ?_
  simp only [qz]
  refine rg_move ?_
  simp only [qz]
  refine rf_add rfl rfl rfl rfl (wrap_ok (by omega) (by omega)) ?_
  simp only [qz]
  refine rf_indexS (n := p + 1) (sz := 1) (j := p + 1) rfl rfl rfl rfl Try.underlying129 (by kernel_rfl) (by omega) (by omega) (by omega) ?_
  simp only [qz]
  refine rf_load (v := .slice (some ⟨b1, 0, none⟩) N c1) rfl rfl rfl Try.underlying36 rfl (fun w hw => Kn.outer (Kn.tl hw) (at_twoP hA)) ?_
  simp only [qz]
  refine rg_moveP ?_
  simp only [qz]
  apply rg_softP
  case hy => (intro w hw; go_simp; (try go_bits); exact Yld.mk _ _)
  simp only [qz]
  refine rf_field (n := 0) (j := 0) rfl rfl rfl Try.underlying131 rfl (by kernel_rfl) rfl ?_
  simp only [qz]
  refine rf_load rfl rfl rfl Try.underlying129 rfl (fun w hw => (Kn.hd0 hw).at rfl) ?_
  simp only [qz]
  refine rg_moveP ?_
  simp only [qz]
  refine rf_indexS (n := p) (sz := 1) (j := p) rfl rfl rfl rfl Try.underlying129 (by kernel_rfl) (by omega) (by omega) (by omega) ?_
  simp only [qz]
  refine rf_load (v := .slice (some ⟨b, 0, none⟩) N c) rfl rfl rfl Try.underlying36 rfl (fun w hw => Kn.outer (Kn.tl hw) (at_oneP hA)) ?_
  simp only [qz]
  refine rf_indexS (n := p) (sz := 1) (j := p) rfl rfl rfl rfl Try.underlying129 (by kernel_rfl) (by omega) (by omega) (by omega) ?_
  simp only [qz]
  have hs1 := go_sz (N := N) (ro := ro) (i := p) (rs := A ++ ⟨b, c, l, r⟩ :: ⟨b1, c1, l1, r1⟩ :: C) (by omega) (.slice (some ⟨b1, 0, none⟩) N c1)
  refine rf_storeM rfl rfl (by kernel_rfl) rfl rfl (UpdR.there _ (UpdR.here _ _ _ hs1)) (sc _ (sk _ (List.Sublist.append_left (List.Sublist.append_left sn _) _))) ?_
  simp only [qz]
  refine rf_indexS (n := p + 1) (sz := 1) (j := p + 1) rfl rfl rfl rfl Try.underlying129 (by kernel_rfl) (by omega) (by omega) (by omega) ?_
  simp only [qz]
  have hs2 := go_sz2 (N := N) (ro := ro) (i := p + 1) (j := p) (rs := A ++ ⟨b, c, l, r⟩ :: ⟨b1, c1, l1, r1⟩ :: C) (by omega) (.slice (some ⟨b, 0, none⟩) N c) (.slice (some ⟨b1, 0, none⟩) N c1)
  refine rf_store rfl rfl (by kernel_rfl) rfl rfl (UpdR.there _ (UpdR.here _ _ _ hs2)) (fun _ h => by cases h; exact (sc _ (sk _ (List.Sublist.append_left (List.Sublist.append_left sn _) _)))) ?_
  simp only [qz]
  rw [cross_set hA]
  refine rg_nil (ek_next ?_)
  refine wk_region [0, 0, 0, 0, 0, 0, 0, 0, 1, 1, 0, 0, 1] rfl (by kernel_rfl) ?_
  simp only [qy]
  refine rg_move ?_
  simp only [qz]
  refine rg_move ?_
  simp only [qz]
  apply rg_soft
  case hy => (intro w hw; go_simp; (try go_bits); exact Yld.mk _ _)
  simp only [qz]
  refine rf_field (n := 0) (j := 1) rfl rfl rfl Try.underlying131 rfl (by kernel_rfl) rfl ?_
  simp only [qz]
  refine rf_load rfl rfl rfl Try.underlying32 rfl (fun w hw => (Kn.hd0 hw).at rfl) ?_
  simp only [qz]
  refine rg_move ?_
  simp only [qz]
  refine rf_add rfl rfl rfl rfl (wrap_ok (by omega) (by omega)) ?_
  simp only [qz]
  refine rf_build (cs := fun a => #[a.eval (.const (.int .i64 3)), a.eval (.tmp 38), .int .i64 0, .string ⟨#[]⟩]) rfl rfl (by kernel_rfl) ?_
  simp only [qz]
  refine rg_newS (cs := ?_) (ty := ?_) (n := 1) (c := 1) (by rfl) (fun w => ?_) (fun _ h => by cases h) (fun g1 => ?_); rotate_left 2
  focus (go_simp; rfl)
  simp only [qz]
  refine rg_appendT (xs := L) (x := cross p) (by rfl) rfl hO rfl (by omega) ((((((((((List.Perm.refl _).append_left _).trans (List.perm_append_comm_assoc (rwB (A ++ ⟨b, c, l, r⟩ :: ⟨b1, c1, l1, r1⟩ :: C)) u _)).cons _).trans (List.perm_middle (l₁ := u)).symm).cons _).trans (List.perm_middle (l₁ := u)).symm).cons _).trans (List.perm_middle (l₁ := u)).symm).trans ((List.Perm.refl _).append_left _)) (fun w hw => Kn.hd0 hw) (fun _ h => by cases h) (fun uQ vQ hOQ => ?_)
  obtain ⟨aQ, cQ, rfl, -⟩ := Own.val hOQ
  simp only [qz]
  apply rg_soft
  case hy => (intro w hw; go_simp; (try go_bits); exact Yld.mk _ _)
  simp only [qz]
  refine rf_field (n := 0) (j := 1) rfl rfl rfl Try.underlying131 rfl (by kernel_rfl) rfl ?_
  simp only [qz]
  refine rf_store rfl rfl (by kernel_rfl) rfl rfl (UpdR.app _ (UpdR.there _ (UpdR.here _ _ _ (Nat.le_of_ble_eq_true rfl)))) (fun _ h => by cases h) ?_
  simp only [qz]
  refine rg_nil ?_
  refine ek_perm ((((((List.Perm.refl _).cons _).trans (List.Perm.swap _ _ _)).append_left _).trans (List.perm_middle (l₁ := uQ))).trans (((((((List.Perm.refl _).cons _).trans (List.Perm.swap _ _ _)).append_left _).trans (List.perm_middle (l₁ := uQ))).trans (((((((List.Perm.refl _).cons _).trans (List.perm_middle (l₁ := (rwB (A ++ ⟨b, c, l, r⟩ :: ⟨b1, c1, l1, r1⟩ :: C)))).symm).append_left _).trans (List.perm_append_comm_assoc uQ (rwB (A ++ ⟨b, c, l, r⟩ :: ⟨b1, c1, l1, r1⟩ :: C)) _)).trans ((List.Perm.refl _).append_left _)).cons _)).cons _)) ?_
  refine ek_sub (sc _ (sc _ (List.Sublist.append_left (List.Sublist.append_left (sk _ sn) _) _))) ?_
  refine ek_norm (fun w hw => ⟨rfl, _, res_0 rfl, ?_⟩)
  (try simp only [qz])
  have hW := WS.crossed (gw := gw) (go := go) (oc := oc) (ro := ro) (z := z) (L := L ++ [cross p]) (ia := aQ) (ic := cQ) (u := uQ) hA hrl hp hoc hlen hval hOQ hok
  exact ⟨(by first | rfl | trivial), _, hw.perm (((rw_swap.append_right _).cons _).cons _), hW⟩

set_option maxRecDepth 100000 in
set_option maxHeartbeats 1000000 in
theorem wphase_any (N p gw : Nat) (z : Zt) (L : List It) (s : List Blk) (hS : WS N gw z L s) (hN : N ≤ 6) (hL : L.length ≤ 100000) (hp : p < N) (n : Int) (m : Nat) (hm : n % 8 = (m : Int)) (w : World) (hK : Kn w (s.map (·.1)) s w) : Calls Try.prog 160 #[.pointer (some ⟨gw, 0, none⟩), .int .i64 (p : Int), .int .i64 n] w fun e w' => e = .returned (.tuple #[]) ∧ ∃ s', Kn w (s.map (·.1)) s' w' ∧ WS N gw (phZ p m z) (if m = 0 then L else L ++ [phsI ((p : Int) + 1) m]) s' := by
  obtain ⟨go, oc, ro, rs, ia, ic, u, rfl, hrl, hoc, hlen, hval, hO, hok⟩ := hS
  obtain ⟨A, b, c, l, r, C, rfl, hA⟩ := split1 (p := p) (rs := rs) (by omega)
  have hll : l.length = N := hlen ⟨b, c, l, r⟩ (by simp)
  rw [rw_one, List.append_assoc, List.cons_append] at hK ⊢
  go_enter Try.func160, Try.ntmps160
  refine wk_startF hK ?_
  refine wk_seq (wk_seq ?_)
  refine wk_region [0, 0, 0] rfl (by kernel_rfl) ?_
  simp only [qy]
  refine rg_move ?_
  simp only [qz]
  refine rf_and (r := (m : Int)) rfl rfl rfl rfl ((and7 n).trans hm) ?_
  simp only [qz]
  refine rg_assign ?_
  simp only [qz]
  refine rg_nil (ek_next (wk_seq ?_))
  refine wk_region [0, 0] rfl (by kernel_rfl) ?_
  simp only [qy]
  refine rg_move ?_
  simp only [qz]
  refine rfb_eql rfl rfl rfl rfl ?_
  intro x h1
  cases x
  · (try simp only [qd, ne_eq] at h1)
    simp only [qz]
    refine rg_nil (ek_next (wk_cond_f rfl (wk_skip (ek_next (wk_seq (wk_seq ?_))))))
    refine wk_region [0, 0, 0, 0, 0, 0, 0, 0, 0] rfl (by kernel_rfl) ?_
    simp only [qy]
    refine rg_move ?_
    simp only [qz]
    apply rg_soft
    case hy => (intro w hw; go_simp; (try go_bits); exact Yld.mk _ _)
    simp only [qz]
    refine rf_field (n := 0) (j := 0) rfl rfl rfl Try.underlying131 rfl (by kernel_rfl) rfl ?_
    simp only [qz]
    refine rf_load rfl rfl rfl Try.underlying129 rfl (fun w hw => (Kn.hd0 hw).at rfl) ?_
    simp only [qz]
    refine rg_move ?_
    simp only [qz]
    refine rf_indexS (n := p) (sz := 1) (j := p) rfl rfl rfl rfl Try.underlying129 (by kernel_rfl) (by omega) (by omega) (by omega) ?_
    simp only [qz]
    refine rf_load (v := .slice (some ⟨b, 0, none⟩) N c) rfl rfl rfl Try.underlying36 rfl (fun w hw => Kn.outer (Kn.tl hw) (at_oneP hA)) ?_
    simp only [qz]
    refine rf_len rfl rfl rfl Try.underlying36 ?_
    simp only [qz]
    refine rg_move ?_
    simp only [qz]
    refine rg_nil (ek_next (wk_block ?_))
    refine wk_loopF [6, 7, 20, 21, 22, 23, 24, 25, 26, 27, 28, 29, 30, 31, 32, 33, 34, 35, 36, 37, 38, 39, 40] (fun mz f s => ∃ (k : Nat), f 20 = .int .i64 k ∧ s = ((gw, .cells #[.slice (some ⟨go, 0, none⟩) N oc, .slice ia L.length ic] 131) :: ((go, .cells (rwV N (A ++ ⟨b, c, l, r⟩ :: C) ++ ro).toArray 36) :: (rwB A ++ ((b, .cells (NmE.flat (wrS l (fun k => turnM m (z p k)) k) ++ r).toArray 45) :: (rwB C ++ (u ++ [])))))) ∧ mz = N - k ∧ k ≤ N) ((fun (k : Nat) => N - k) (0)) ?_ (by kernel_rfl) ?_
    · exact ⟨0, rfl, (by rw [wrS_zero]), rfl, by omega⟩
    rintro mz f1 s ⟨k, hs1_20, rfl, hn, hc1⟩
    simp only [Act.putF, List.foldl_cons, List.foldl_nil, hs1_20, Act.put, Act.eval, q1, q2, q3, q4, q5, q6, q7, q8, q9, q10, q11, q12, q13, q14, q15, q16, q17, q18, Nat.reduceAdd, Bool.not_true, Bool.not_false]
    clear hs1_20
    refine wk_seq ?_
    refine wk_region [0] rfl (by kernel_rfl) ?_
    simp only [qy]
    refine rfb_lss rfl rfl rfl rfl ?_
    intro x h2
    cases x
    · (try simp only [qd, ne_eq] at h2)
      simp only [qz]
      refine rg_nil (ek_next (wk_seq (wk_cond_f rfl (wk_exit (ek_then_exit (ek_then_exit (ek_block_exit (ek_next ?_))))))))
      refine wk_region [0, 0, 0, 0, 0, 0, 0, 0, 0, 1, 1, 0, 0, 1] rfl (by kernel_rfl) ?_
      simp only [qy]
      refine rg_move ?_
      simp only [qz]
      refine rg_move ?_
      simp only [qz]
      apply rg_soft
      case hy => (intro w hw; go_simp; (try go_bits); exact Yld.mk _ _)
      simp only [qz]
      refine rf_field (n := 0) (j := 1) rfl rfl rfl Try.underlying131 rfl (by kernel_rfl) rfl ?_
      simp only [qz]
      refine rf_load rfl rfl rfl Try.underlying32 rfl (fun w hw => (Kn.hd0 hw).at rfl) ?_
      simp only [qz]
      refine rg_move ?_
      simp only [qz]
      refine rf_add rfl rfl rfl rfl (wrap_ok (by omega) (by omega)) ?_
      simp only [qz]
      refine rg_move ?_
      simp only [qz]
      refine rf_build (cs := fun a => #[a.eval (.const (.int .i64 1)), a.eval (.tmp 47), a.eval (.tmp 48), .string ⟨#[]⟩]) rfl rfl (by kernel_rfl) ?_
      simp only [qz]
      refine rg_newS (cs := ?_) (ty := ?_) (n := 1) (c := 1) (by rfl) (fun w => ?_) (fun _ h => by cases h) (fun g1 => ?_); rotate_left 2
      focus (go_simp; rfl)
      simp only [qz]
      refine rg_appendT (xs := L) (x := phsI ((p : Int) + 1) m) (by rfl) rfl hO rfl (by omega) ((((((((((((((List.Perm.refl _).append_left _).trans (List.perm_append_comm_assoc (rwB C) u _)).cons _).trans (List.perm_middle (l₁ := u)).symm).append_left _).trans (List.perm_append_comm_assoc (rwB A) u _)).cons _).trans (List.perm_middle (l₁ := u)).symm).cons _).trans (List.perm_middle (l₁ := u)).symm).cons _).trans (List.perm_middle (l₁ := u)).symm).trans ((List.Perm.refl _).append_left _)) (fun w hw => Kn.hd0 hw) (fun _ h => by cases h) (fun uQ vQ hOQ => ?_)
      obtain ⟨aQ, cQ, rfl, -⟩ := Own.val hOQ
      simp only [qz]
      apply rg_soft
      case hy => (intro w hw; go_simp; (try go_bits); exact Yld.mk _ _)
      simp only [qz]
      refine rf_field (n := 0) (j := 1) rfl rfl rfl Try.underlying131 rfl (by kernel_rfl) rfl ?_
      simp only [qz]
      refine rf_store rfl rfl (by kernel_rfl) rfl rfl (UpdR.app _ (UpdR.there _ (UpdR.here _ _ _ (Nat.le_of_ble_eq_true rfl)))) (fun _ h => by cases h) ?_
      simp only [qz]
      refine rg_nil ?_
      refine ek_perm ((((((List.Perm.refl _).cons _).trans (List.Perm.swap _ _ _)).append_left _).trans (List.perm_middle (l₁ := uQ))).trans (((((((List.Perm.refl _).cons _).trans (List.Perm.swap _ _ _)).append_left _).trans (List.perm_middle (l₁ := uQ))).trans (((((((List.Perm.refl _).cons _).trans (List.perm_middle (l₁ := (rwB A))).symm).append_left _).trans (List.perm_append_comm_assoc uQ (rwB A) _)).trans (((((((List.Perm.refl _).cons _).trans (List.Perm.swap _ _ _)).append_left _).trans (List.perm_middle (l₁ := uQ))).trans (((((((List.Perm.refl _).cons _).trans (List.perm_middle (l₁ := (rwB C))).symm).append_left _).trans (List.perm_append_comm_assoc uQ (rwB C) _)).trans ((List.Perm.refl _).append_left _)).cons _)).append_left _)).cons _)).cons _)) ?_
      refine ek_sub (sc _ (sc _ (List.Sublist.append_left (sc _ (List.Sublist.append_left (List.Sublist.append_left (sk _ sn) _) _)) _))) ?_
      refine ek_norm (fun w hw => ⟨rfl, _, res_0 rfl, ?_⟩)
      (try simp only [qz])
      obtain rfl : k = N := by omega
      rw [if_neg (by omega)]
      have hW := WS.wrote (gw := gw) (go := go) (oc := oc) (ro := ro) (z := z) (z' := phZ p m z) (L := L ++ [phsI ((p : Int) + 1) m]) (ia := aQ) (ic := cQ) (u := uQ) (f := (fun k => turnM m (z p k))) hA hrl hoc hlen hval hOQ (fun i k' hi hk' => by unfold phZ; split; exact turnM_ok (hok i k' hi hk') m; exact hok i k' hi hk') (fun k' hk' => (if_pos rfl).symm) (fun i k' hi _ _ => if_neg hi)
      exact ⟨(by first | rfl | trivial), _, hw, hW⟩
    (try simp only [qd, ne_eq] at h2)
    simp only [qz]
    refine rg_nil (ek_next (wk_seq (wk_cond_t rfl (wk_skip (ek_next (wk_seq (wk_block (wk_seq ?_))))))))
    have hkN : k < N := by omega
    have hkl : k < l.length := by rw [hll]; exact hkN
    have hzk : nm (wrS l (fun k => turnM m (z p k)) k) k = z p k := by rw [wrS_nm hkl, if_neg (by omega)]; exact hval p ⟨b, c, l, r⟩ (at_oneP hA) k hkN
    have hok1 := hok p k (by omega) hkN
    refine wk_region [0, 0, 0, 1, 0, 1] rfl (by kernel_rfl) ?_
    simp only [qy]
    refine rg_move ?_
    simp only [qz]
    refine rf_indexS (n := k) (sz := 5) (j := 0 + k * 5) rfl rfl rfl rfl Try.underlying36 (by kernel_rfl) (by omega) (by omega) rfl ?_
    simp only [qz]
    refine rf_loadC (n := 5) (vs := [.int .i64 (z p k).a, .int .i64 (z p k).b, .int .i64 (z p k).c, .int .i64 (z p k).d, .int .i64 (z p k).k]) rfl rfl rfl Try.underlying45 rfl (by kernel_rfl) rfl (fun w hw => atN_range (by have := nm_hd (Kn.hd0 (Kn.tlU (Kn.tl (Kn.tl hw)))) (k := k) (by rw [wrS_len]; omega); rw [hzk] at this; exact this)) ?_
    simp only [qz]
    refine rg_new (cs := ?_) (ty := ?_) (by rfl) (fun w => ?_) (fun _ h => by cases h) (fun g2 => ?_); rotate_left 2
    focus (go_simp; rfl)
    simp only [qz]
    refine rg_assign ?_
    simp only [qz]
    refine rf_storeR (n := 5) rfl rfl (by kernel_rfl) rfl rfl (UpdR.here _ _ _ (Nat.le_of_ble_eq_true rfl)) (fun _ h => by cases h) ?_
    simp only [qz, Nat.reduceAdd]
    refine rg_nil (ek_next ?_)
    refine wk_draws_m (hz1 := (sc _ (sc _ (sc _ (List.Sublist.append_left (sk _ (List.Sublist.append_left (List.Sublist.append_left sn _) _)) _))))) [(0, 0), (1, 0), (2, 0), (3, 0), (4, 0), (5, 0), (6, 0), (7, 0), (8, 0), (9, 0), (10, 1), (11, 0), (12, 0), (13, 1), (14, 0), (15, 2)] 15 (by kernel_rfl) (by kernel_rfl) (fun c d v a w h => by cases d <;> exact h) ?_
    simp only [List.map_cons, List.map_nil, List.getD_cons_zero, List.getD_cons_succ]
    refine rg_move ?_
    simp only [qz]
    apply rg_soft
    case hy => (intro w hw; go_simp; (try go_bits); exact Yld.mk _ _)
    simp only [qz]
    refine rf_field (n := 0) (j := 0) rfl rfl rfl Try.underlying131 rfl (by kernel_rfl) rfl ?_
    simp only [qz]
    refine rf_load rfl rfl rfl Try.underlying129 rfl (fun w hw => (Kn.hd0 (Kn.tl hw)).at rfl) ?_
    simp only [qz]
    refine rg_move ?_
    simp only [qz]
    refine rf_indexS (n := p) (sz := 1) (j := p) rfl rfl rfl rfl Try.underlying129 (by kernel_rfl) (by omega) (by omega) (by omega) ?_
    simp only [qz]
    refine rf_load (v := .slice (some ⟨b, 0, none⟩) N c) rfl rfl rfl Try.underlying36 rfl (fun w hw => Kn.outer (Kn.tl (Kn.tl hw)) (at_oneP hA)) ?_
    simp only [qz]
    refine rg_move ?_
    simp only [qz]
    refine rf_loadR (n := 5) rfl rfl rfl Try.underlying45 rfl (by kernel_rfl) (fun w hw => Kn.hd0 hw) rfl rfl ?_
    simp only [qz]
    refine rg_move ?_
    simp only [qz]
    apply rg_pure (by rfl) (by kernel_rfl)
    case hargs => (simp only [qm, qs, Act.eval]; exact rfl)
    case h => exact fun w hw => amTurnM (z p k) m (by omega) hok1 w
    case hz => exact (fun _ h => by cases h; exact (sc _ (sc _ (sc _ (List.Sublist.append_left (sc _ (List.Sublist.append_left (List.Sublist.append_left sn _) _)) _)))))
    simp only [qz]
    refine rf_extract rfl rfl rfl rfl ?_
    simp only [qz]
    refine rf_extract rfl rfl rfl rfl ?_
    simp only [qz]
    apply rg_pure (by rfl) (by kernel_rfl)
    case hargs => (simp only [qm, qs, Act.eval]; exact rfl)
    case h => exact fun w hw => must_any (turnM m (z p k)) 0 w
    case hz => exact (fun _ h => by cases h; exact (sc _ (sc _ (sc _ (List.Sublist.append_left (sc _ (List.Sublist.append_left (List.Sublist.append_left sn _) _)) _)))))
    simp only [qz]
    refine rf_indexS (n := k) (sz := 5) (j := 0 + k * 5) rfl rfl rfl rfl Try.underlying36 (by kernel_rfl) (by omega) (by omega) rfl ?_
    simp only [qz]
    have hszb := nm_szM (wrS l (fun k => turnM m (z p k)) k) k (turnM m (z p k)) r (by rw [wrS_len]; exact hkl)
    refine rf_storeRM (n := 5) (vs := nmC (turnM m (z p k))) rfl rfl (by kernel_rfl) rfl rfl (UpdR.there _ (UpdR.there _ (UpdR.there _ (UpdR.app _ (UpdR.here _ _ _ hszb))))) (sc _ (sc _ (sc _ (List.Sublist.append_left (sk _ (List.Sublist.append_left (List.Sublist.append_left sn _) _)) _)))) ?_
    rw [nm_flM (wrS l (fun k => turnM m (z p k)) k) k (turnM m (z p k)) r (by rw [wrS_len]; exact hkl), wrS_set (f := (fun k => turnM m (z p k))) hkl]
    simp only [qz]
    refine rg_nil (ek_block (ek_next ?_))
    refine wk_region [0, 0] rfl (by kernel_rfl) ?_
    simp only [qy]
    refine rf_add rfl rfl rfl rfl (wrap_ok (by omega) (by omega)) ?_
    simp only [qz]
    refine rg_move ?_
    simp only [qz]
    refine rg_nil ?_
    refine ek_sub (sk _ (sc _ (sc _ (List.Sublist.append_left (sc _ (List.Sublist.append_left (List.Sublist.append_left sn _) _)) _)))) ?_
    refine ek_roundF (N - (k + 1)) (by omega) (by kernel_rfl) ?_
    exact ⟨k + 1, rfl, by rfl, by rfl, by omega⟩
  (try simp only [qd, ne_eq] at h1)
  simp only [qz]
  refine rg_nil (ek_next (wk_cond_t rfl (wk_ret (ek_then_ret ?_))))
  refine ek_ret (fun w hw => ⟨rfl, _, res_0 rfl, ?_⟩)
  (try simp only [qz])
  obtain rfl : m = 0 := by omega
  rw [if_pos rfl]
  refine ⟨(by first | rfl | trivial), _, hw, go, oc, ro, _, ia, ic, u, (by rw [rw_one, List.append_assoc, List.cons_append]), hrl, hoc, hlen, fun i q hq k hk => (hval i q hq k hk).trans (by unfold phZ; split <;> rfl), hO, fun i k hi hk => by unfold phZ; split; exact hok i k hi hk; exact hok i k hi hk⟩

end Go.Proofs.Ytccbinnlnkpplaa
namespace Go.Proofs.Ytccbinnlnkpplaa
set_option linter.all false
open Go.RowKit

set_option maxRecDepth 100000 in
set_option maxHeartbeats 1000000 in
theorem wcouple_any (N p gw : Nat) (z : Zt) (L : List It) (s : List Blk) (hS : WS N gw z L s) (hN : N ≤ 6) (hL : L.length ≤ 100000) (hp : p + 1 < N) (w : World) (hK : Kn w (s.map (·.1)) s w) : Calls Try.prog 192 #[.pointer (some ⟨gw, 0, none⟩), .int .i64 (p : Int)] w fun e w' => e = .returned (.tuple #[]) ∧ ∃ s', Kn w (s.map (·.1)) s' w' ∧ WS N gw (cpZ p z) (L ++ [cplI ((p : Int) + 1)]) s' := by
  obtain ⟨go, oc, ro, rs, ia, ic, u, rfl, hrl, hoc, hlen, hval, hO, hok⟩ := hS
  obtain ⟨A, b, c, l, r, b1, c1, l1, r1, C, rfl, hA⟩ := split2 (p := p) (rs := rs) (by omega)
  have hll : l.length = N := hlen ⟨b, c, l, r⟩ (by simp)
  have hll1 : l1.length = N := hlen ⟨b1, c1, l1, r1⟩ (by simp)
  rw [rw_two, List.append_assoc, List.cons_append, List.cons_append] at hK ⊢
  go_enter Try.func192, Try.ntmps192
  refine wk_startF hK ?_
  refine wk_seq (wk_seq ?_)
  refine wk_region [0, 0, 0, 0, 0, 0, 0, 0, 0] rfl (by kernel_rfl) ?_
  simp only [qy]
  refine rg_move ?_
  simp only [qz]
  apply rg_soft
  case hy => (intro w hw; go_simp; (try go_bits); exact Yld.mk _ _)
  simp only [qz]
  refine rf_field (n := 0) (j := 0) rfl rfl rfl Try.underlying131 rfl (by kernel_rfl) rfl ?_
  simp only [qz]
  refine rf_load rfl rfl rfl Try.underlying129 rfl (fun w hw => (Kn.hd0 hw).at rfl) ?_
  simp only [qz]
  refine rg_move ?_
  simp only [qz]
  refine rf_indexS (n := p) (sz := 1) (j := p) rfl rfl rfl rfl Try.underlying129 (by kernel_rfl) (by omega) (by omega) (by omega) ?_
  simp only [qz]
  refine rf_load (v := .slice (some ⟨b, 0, none⟩) N c) rfl rfl rfl Try.underlying36 rfl (fun w hw => Kn.outer (Kn.tl hw) (at_oneP hA)) ?_
  simp only [qz]
  refine rf_len rfl rfl rfl Try.underlying36 ?_
  simp only [qz]
  refine rg_move ?_
  simp only [qz]
  refine rg_nil (ek_next (wk_block ?_))
  refine wk_loopF [4, 5, 6, 15, 16, 17, 18, 19, 20, 21, 22, 23, 24, 25, 26, 27, 28, 29, 30, 31, 32, 33, 34, 35, 36, 37, 38, 39, 40, 41, 42, 43, 44, 45, 46, 47, 48, 49, 50, 51, 52, 53, 54, 55, 56, 57, 58, 59, 60, 61, 62, 63, 64, 65, 66, 67, 68, 69, 70, 71, 72, 73, 74, 75, 76, 77, 78] (fun mz f s => ∃ (k : Nat), f 15 = .int .i64 k ∧ s = ((gw, .cells #[.slice (some ⟨go, 0, none⟩) N oc, .slice ia L.length ic] 131) :: ((go, .cells (rwV N (A ++ ⟨b, c, l, r⟩ :: ⟨b1, c1, l1, r1⟩ :: C) ++ ro).toArray 36) :: (rwB A ++ ((b, .cells (NmE.flat (wrS l (fun k => cX (z p k) (z (p + 1) k)) k) ++ r).toArray 45) :: ((b1, .cells (NmE.flat (wrS l1 (fun k => cY (z p k) (z (p + 1) k)) k) ++ r1).toArray 45) :: (rwB C ++ (u ++ []))))))) ∧ mz = N - k ∧ k ≤ N) ((fun (k : Nat) => N - k) (0)) ?_ (by kernel_rfl) ?_
  · exact ⟨0, rfl, (by rw [wrS_zero, wrS_zero]), rfl, by omega⟩
  rintro mz f1 s ⟨k, hs1_15, rfl, hn, hc1⟩
  simp only [Act.putF, List.foldl_cons, List.foldl_nil, hs1_15, Act.put, Act.eval, q1, q2, q3, q4, q5, q6, q7, q8, q9, q10, q11, q12, q13, q14, q15, q16, q17, q18, Nat.reduceAdd, Bool.not_true, Bool.not_false]
  clear hs1_15
  refine wk_seq ?_
  refine wk_region [0] rfl (by kernel_rfl) ?_
  simp only [qy]
  refine rfb_lss rfl rfl rfl rfl ?_
  intro x h1
  cases x
  · (try simp only [qd, ne_eq] at h1)
    simp only [qz]
    refine rg_nil (ek_next (wk_seq (wk_cond_f rfl (wk_exit (ek_then_exit (ek_then_exit (ek_block_exit (ek_next ?_))))))))
    refine wk_region [0, 0, 0, 0, 0, 0, 0, 0, 1, 1, 0, 0, 1] rfl (by kernel_rfl) ?_
    simp only [qy]
    refine rg_move ?_
    simp only [qz]
    refine rg_move ?_
    simp only [qz]
    apply rg_soft
    case hy => (intro w hw; go_simp; (try go_bits); exact Yld.mk _ _)
    simp only [qz]
    refine rf_field (n := 0) (j := 1) rfl rfl rfl Try.underlying131 rfl (by kernel_rfl) rfl ?_
    simp only [qz]
    refine rf_load rfl rfl rfl Try.underlying32 rfl (fun w hw => (Kn.hd0 hw).at rfl) ?_
    simp only [qz]
    refine rg_move ?_
    simp only [qz]
    refine rf_add rfl rfl rfl rfl (wrap_ok (by omega) (by omega)) ?_
    simp only [qz]
    refine rf_build (cs := fun a => #[a.eval (.const (.int .i64 2)), a.eval (.tmp 85), .int .i64 0, .string ⟨#[]⟩]) rfl rfl (by kernel_rfl) ?_
    simp only [qz]
    refine rg_newS (cs := ?_) (ty := ?_) (n := 1) (c := 1) (by rfl) (fun w => ?_) (fun _ h => by cases h) (fun g1 => ?_); rotate_left 2
    focus (go_simp; rfl)
    simp only [qz]
    refine rg_appendT (xs := L) (x := cplI ((p : Int) + 1)) (by rfl) rfl hO rfl (by omega) ((((((((((((((((List.Perm.refl _).append_left _).trans (List.perm_append_comm_assoc (rwB C) u _)).cons _).trans (List.perm_middle (l₁ := u)).symm).cons _).trans (List.perm_middle (l₁ := u)).symm).append_left _).trans (List.perm_append_comm_assoc (rwB A) u _)).cons _).trans (List.perm_middle (l₁ := u)).symm).cons _).trans (List.perm_middle (l₁ := u)).symm).cons _).trans (List.perm_middle (l₁ := u)).symm).trans ((List.Perm.refl _).append_left _)) (fun w hw => Kn.hd0 hw) (fun _ h => by cases h) (fun uQ vQ hOQ => ?_)
    obtain ⟨aQ, cQ, rfl, -⟩ := Own.val hOQ
    simp only [qz]
    apply rg_soft
    case hy => (intro w hw; go_simp; (try go_bits); exact Yld.mk _ _)
    simp only [qz]
    refine rf_field (n := 0) (j := 1) rfl rfl rfl Try.underlying131 rfl (by kernel_rfl) rfl ?_
    simp only [qz]
    refine rf_store rfl rfl (by kernel_rfl) rfl rfl (UpdR.app _ (UpdR.there _ (UpdR.here _ _ _ (Nat.le_of_ble_eq_true rfl)))) (fun _ h => by cases h) ?_
    simp only [qz]
    refine rg_nil ?_
    refine ek_perm ((((((List.Perm.refl _).cons _).trans (List.Perm.swap _ _ _)).append_left _).trans (List.perm_middle (l₁ := uQ))).trans (((((((List.Perm.refl _).cons _).trans (List.Perm.swap _ _ _)).append_left _).trans (List.perm_middle (l₁ := uQ))).trans (((((((List.Perm.refl _).cons _).trans (List.perm_middle (l₁ := (rwB A))).symm).append_left _).trans (List.perm_append_comm_assoc uQ (rwB A) _)).trans (((((((List.Perm.refl _).cons _).trans (List.Perm.swap _ _ _)).append_left _).trans (List.perm_middle (l₁ := uQ))).trans (((((((List.Perm.refl _).cons _).trans (List.Perm.swap _ _ _)).append_left _).trans (List.perm_middle (l₁ := uQ))).trans (((((((List.Perm.refl _).cons _).trans (List.perm_middle (l₁ := (rwB C))).symm).append_left _).trans (List.perm_append_comm_assoc uQ (rwB C) _)).trans ((List.Perm.refl _).append_left _)).cons _)).cons _)).append_left _)).cons _)).cons _)) ?_
    refine ek_sub (sc _ (sc _ (List.Sublist.append_left (sc _ (sc _ (List.Sublist.append_left (List.Sublist.append_left (sk _ sn) _) _))) _))) ?_
    refine ek_norm (fun w hw => ⟨rfl, _, res_0 rfl, ?_⟩)
    (try simp only [qz])
    obtain rfl : k = N := by omega
    have hW := WS.wrote2 (gw := gw) (go := go) (oc := oc) (ro := ro) (z := z) (z' := cpZ p z) (L := L ++ [cplI ((p : Int) + 1)]) (ia := aQ) (ic := cQ) (u := uQ) (f := (fun k => cX (z p k) (z (p + 1) k))) (g := (fun k => cY (z p k) (z (p + 1) k))) hA hrl hoc hlen hval hOQ (fun i k' hi hk' => by unfold cpZ; split; exact (cX_ok (hok p k' (by omega) hk') (hok (p + 1) k' hp hk')).2; split; exact (cY_ok (hok p k' (by omega) hk') (hok (p + 1) k' hp hk')).2; exact hok i k' hi hk') (fun k' hk' => (if_pos rfl).symm) (fun k' hk' => by unfold cpZ; rw [if_neg (by omega), if_pos rfl]) (fun i k' h1 h2 _ _ => by unfold cpZ; rw [if_neg h1, if_neg h2])
    exact ⟨(by first | rfl | trivial), _, hw, hW⟩
  (try simp only [qd, ne_eq] at h1)
  simp only [qz]
  refine rg_nil (ek_next (wk_seq (wk_cond_t rfl (wk_skip (ek_next (wk_seq (wk_block (wk_seq ?_))))))))
  have hkN : k < N := by omega
  have hkl : k < l.length := by rw [hll]; exact hkN
  have hkl1 : k < l1.length := by rw [hll1]; exact hkN
  have hzk : nm (wrS l (fun k => cX (z p k) (z (p + 1) k)) k) k = z p k := by rw [wrS_nm hkl, if_neg (by omega)]; exact hval p ⟨b, c, l, r⟩ (at_oneP hA) k hkN
  have hzk1 : nm (wrS l1 (fun k => cY (z p k) (z (p + 1) k)) k) k = z (p + 1) k := by rw [wrS_nm hkl1, if_neg (by omega)]; exact hval (p + 1) ⟨b1, c1, l1, r1⟩ (at_twoP hA) k hkN
  have hok1 := hok p k (by omega) hkN
  have hok2 := hok (p + 1) k hp hkN
  have hcx := cX_ok hok1 hok2
  have hcy := cY_ok hok1 hok2
  refine wk_region [0, 0, 0, 1, 0, 1] rfl (by kernel_rfl) ?_
  simp only [qy]
  refine rg_move ?_
  simp only [qz]
  refine rf_indexS (n := k) (sz := 5) (j := 0 + k * 5) rfl rfl rfl rfl Try.underlying36 (by kernel_rfl) (by omega) (by omega) rfl ?_
  simp only [qz]
  refine rf_loadC (n := 5) (vs := [.int .i64 (z p k).a, .int .i64 (z p k).b, .int .i64 (z p k).c, .int .i64 (z p k).d, .int .i64 (z p k).k]) rfl rfl rfl Try.underlying45 rfl (by kernel_rfl) rfl (fun w hw => atN_range (by have := nm_hd (Kn.hd0 (Kn.tlU (Kn.tl (Kn.tl hw)))) (k := k) (by rw [wrS_len]; omega); rw [hzk] at this; exact this)) ?_
  simp only [qz]
  refine rg_new (cs := ?_) (ty := ?_) (by rfl) (fun w => ?_) (fun _ h => by cases h) (fun g2 => ?_); rotate_left 2
  focus (go_simp; rfl)
  simp only [qz]
  refine rg_assign ?_
  simp only [qz]
  refine rf_storeR (n := 5) rfl rfl (by kernel_rfl) rfl rfl (UpdR.here _ _ _ (Nat.le_of_ble_eq_true rfl)) (fun _ h => by cases h) ?_
  simp only [qz, Nat.reduceAdd]
  refine rg_nil (ek_next (wk_seq ?_))
  refine wk_region [0, 0, 0, 0, 0, 0, 0, 0, 0, 0, 0, 1, 1] rfl (by kernel_rfl) ?_
  simp only [qy]
  refine rg_move ?_
  simp only [qz]
  apply rg_soft
  case hy => (intro w hw; go_simp; (try go_bits); exact Yld.mk _ _)
  simp only [qz]
  refine rf_field (n := 0) (j := 0) rfl rfl rfl Try.underlying131 rfl (by kernel_rfl) rfl ?_
  simp only [qz]
  refine rf_load rfl rfl rfl Try.underlying129 rfl (fun w hw => (Kn.hd0 (Kn.tl hw)).at rfl) ?_
  simp only [qz]
  refine rg_move ?_
  simp only [qz]
  refine rf_add rfl rfl rfl rfl (wrap_ok (by omega) (by omega)) ?_
  simp only [qz]
  refine rf_indexS (n := p + 1) (sz := 1) (j := p + 1) rfl rfl rfl rfl Try.underlying129 (by kernel_rfl) (by omega) (by omega) (by omega) ?_
  simp only [qz]
  refine rf_load (v := .slice (some ⟨b1, 0, none⟩) N c1) rfl rfl rfl Try.underlying36 rfl (fun w hw => Kn.outer (Kn.tl (Kn.tl hw)) (at_twoP hA)) ?_
  simp only [qz]
  refine rg_move ?_
  simp only [qz]
  refine rf_indexS (n := k) (sz := 5) (j := 0 + k * 5) rfl rfl rfl rfl Try.underlying36 (by kernel_rfl) (by omega) (by omega) rfl ?_
  simp only [qz]
  refine rf_loadC (n := 5) (vs := [.int .i64 (z (p + 1) k).a, .int .i64 (z (p + 1) k).b, .int .i64 (z (p + 1) k).c, .int .i64 (z (p + 1) k).d, .int .i64 (z (p + 1) k).k]) rfl rfl rfl Try.underlying45 rfl (by kernel_rfl) rfl (fun w hw => atN_range (by have := nm_hd (Kn.hd0 (Kn.tl (Kn.tlU (Kn.tl (Kn.tl (Kn.tl hw)))))) (k := k) (by rw [wrS_len]; omega); rw [hzk1] at this; exact this)) ?_
  simp only [qz]
  refine rg_new (cs := ?_) (ty := ?_) (by rfl) (fun w => ?_) (fun _ h => by cases h) (fun g3 => ?_); rotate_left 2
  focus (go_simp; rfl)
  simp only [qz]
  refine rf_storeR (n := 5) rfl rfl (by kernel_rfl) rfl rfl (UpdR.here _ _ _ (Nat.le_of_ble_eq_true rfl)) (fun _ h => by cases h) ?_
  simp only [qz, Nat.reduceAdd]
  refine rg_nil (ek_next (wk_seq ?_))
  refine wk_draws_m (hz1 := (sc _ (sc _ (sc _ (sc _ (List.Sublist.append_left (sk _ (sc _ (List.Sublist.append_left (List.Sublist.append_left sn _) _))) _)))))) [(0, 0), (1, 0), (2, 0), (3, 0), (4, 0), (5, 0), (6, 0), (7, 0), (8, 0), (9, 0), (10, 1), (11, 0), (12, 0), (13, 1), (14, 1), (15, 0), (16, 0), (17, 1), (18, 1), (19, 0), (20, 0), (21, 1), (22, 0), (23, 2)] 23 (by kernel_rfl) (by kernel_rfl) (fun c d v a w h => by cases d <;> exact h) ?_
  simp only [List.map_cons, List.map_nil, List.getD_cons_zero, List.getD_cons_succ]
  refine rg_move ?_
  simp only [qz]
  apply rg_soft
  case hy => (intro w hw; go_simp; (try go_bits); exact Yld.mk _ _)
  simp only [qz]
  refine rf_field (n := 0) (j := 0) rfl rfl rfl Try.underlying131 rfl (by kernel_rfl) rfl ?_
  simp only [qz]
  refine rf_load rfl rfl rfl Try.underlying129 rfl (fun w hw => (Kn.hd0 (Kn.tl (Kn.tl hw))).at rfl) ?_
  simp only [qz]
  refine rg_move ?_
  simp only [qz]
  refine rf_indexS (n := p) (sz := 1) (j := p) rfl rfl rfl rfl Try.underlying129 (by kernel_rfl) (by omega) (by omega) (by omega) ?_
  simp only [qz]
  refine rf_load (v := .slice (some ⟨b, 0, none⟩) N c) rfl rfl rfl Try.underlying36 rfl (fun w hw => Kn.outer (Kn.tl (Kn.tl (Kn.tl hw))) (at_oneP hA)) ?_
  simp only [qz]
  refine rg_move ?_
  simp only [qz]
  refine rf_loadR (n := 5) rfl rfl rfl Try.underlying45 rfl (by kernel_rfl) (fun w hw => Kn.hd0 (Kn.tl hw)) rfl rfl ?_
  simp only [qz]
  refine rf_loadR (n := 5) rfl rfl rfl Try.underlying45 rfl (by kernel_rfl) (fun w hw => Kn.hd0 hw) rfl rfl ?_
  simp only [qz]
  apply rg_pure (by rfl) (by kernel_rfl)
  case hargs => (simp only [qm, qs, Act.eval]; exact rfl)
  case h => exact fun w hw => amTurn2 (z (p + 1) k) hok2 w
  case hz => exact (fun _ h => by cases h; exact (sc _ (sc _ (sc _ (sc _ (List.Sublist.append_left (sc _ (sc _ (List.Sublist.append_left (List.Sublist.append_left sn _) _))) _))))))
  simp only [qz]
  refine rf_extract rfl rfl rfl rfl ?_
  simp only [qz]
  refine rf_extract rfl rfl rfl rfl ?_
  simp only [qz]
  apply rg_pure (by rfl) (by kernel_rfl)
  case hargs => (simp only [qm, qs, Act.eval]; exact rfl)
  case h => exact fun w hw => must_any (z (p + 1) k).rot.rot 0 w
  case hz => exact (fun _ h => by cases h; exact (sc _ (sc _ (sc _ (sc _ (List.Sublist.append_left (sc _ (sc _ (List.Sublist.append_left (List.Sublist.append_left sn _) _))) _))))))
  simp only [qz]
  apply rg_pure (by rfl) (by kernel_rfl)
  case hargs => (simp only [qm, qs, Act.eval]; exact rfl)
  case h => exact fun w hw => amAdd_mt (z p k) (z (p + 1) k).rot.rot hok1 (rot_ok (rot_ok hok2)) w
  case hz => exact (fun _ h => by cases h; exact (sc _ (sc _ (sc _ (sc _ (List.Sublist.append_left (sc _ (sc _ (List.Sublist.append_left (List.Sublist.append_left sn _) _))) _))))))
  simp only [qz]
  refine rf_extract rfl rfl rfl rfl ?_
  simp only [qz]
  refine rf_extract rfl rfl rfl rfl ?_
  simp only [qz]
  apply rg_pure (by rfl) (by kernel_rfl)
  case hargs => (simp only [qm, qs, Act.eval]; exact rfl)
  case h => exact fun w hw => must_any (mtR ((z p k).add (z (p + 1) k).rot.rot)) (errI ((z p k).add (z (p + 1) k).rot.rot)) w
  case hz => exact (fun _ h => by cases h; exact (sc _ (sc _ (sc _ (sc _ (List.Sublist.append_left (sc _ (sc _ (List.Sublist.append_left (List.Sublist.append_left sn _) _))) _))))))
  simp only [qz]
  apply rg_pure (by rfl) (by kernel_rfl)
  case hargs => (simp only [qm, qs, Act.eval]; exact rfl)
  case h => exact fun w hw => amHalve_mt (mtR ((z p k).add (z (p + 1) k).rot.rot)) hcx.1 w
  case hz => exact (fun _ h => by cases h; exact (sc _ (sc _ (sc _ (sc _ (List.Sublist.append_left (sc _ (sc _ (List.Sublist.append_left (List.Sublist.append_left sn _) _))) _))))))
  simp only [qz]
  refine rf_extract rfl rfl rfl rfl ?_
  simp only [qz]
  refine rf_extract rfl rfl rfl rfl ?_
  simp only [qz]
  apply rg_pure (by rfl) (by kernel_rfl)
  case hargs => (simp only [qm, qs, Act.eval]; exact rfl)
  case h => exact fun w hw => must_any (cX (z p k) (z (p + 1) k)) (errI ((mtR ((z p k).add (z (p + 1) k).rot.rot)).halve 1)) w
  case hz => exact (fun _ h => by cases h; exact (sc _ (sc _ (sc _ (sc _ (List.Sublist.append_left (sc _ (sc _ (List.Sublist.append_left (List.Sublist.append_left sn _) _))) _))))))
  simp only [qz]
  refine rf_indexS (n := k) (sz := 5) (j := 0 + k * 5) rfl rfl rfl rfl Try.underlying36 (by kernel_rfl) (by omega) (by omega) rfl ?_
  simp only [qz]
  have hszb := nm_szM (wrS l (fun k => cX (z p k) (z (p + 1) k)) k) k (cX (z p k) (z (p + 1) k)) r (by rw [wrS_len]; exact hkl)
  refine rf_storeRM (n := 5) (vs := nmC (cX (z p k) (z (p + 1) k))) rfl rfl (by kernel_rfl) rfl rfl (UpdR.there _ (UpdR.there _ (UpdR.there _ (UpdR.there _ (UpdR.app _ (UpdR.here _ _ _ hszb)))))) (sc _ (sc _ (sc _ (sc _ (List.Sublist.append_left (sk _ (sc _ (List.Sublist.append_left (List.Sublist.append_left sn _) _))) _))))) ?_
  rw [nm_flM (wrS l (fun k => cX (z p k) (z (p + 1) k)) k) k (cX (z p k) (z (p + 1) k)) r (by rw [wrS_len]; exact hkl), wrS_set (f := (fun k => cX (z p k) (z (p + 1) k))) hkl]
  simp only [qz]
  refine rg_nil (ek_next ?_)
  refine wk_draws_m (hz1 := (sc _ (sc _ (sc _ (sc _ (List.Sublist.append_left (sc _ (sk _ (List.Sublist.append_left (List.Sublist.append_left sn _) _))) _)))))) [(0, 0), (1, 0), (2, 0), (3, 0), (4, 0), (5, 0), (6, 0), (7, 0), (8, 0), (9, 0), (14, 0), (10, 1), (11, 0), (12, 0), (13, 1), (15, 1), (16, 0), (17, 0), (18, 1), (19, 1), (20, 0), (21, 0), (22, 1), (23, 0), (24, 2)] 24 (by kernel_rfl) (by kernel_rfl) (fun c d v a w h => by cases d <;> exact h) ?_
  simp only [List.map_cons, List.map_nil, List.getD_cons_zero, List.getD_cons_succ]
  refine rg_move ?_
  simp only [qz]
  apply rg_soft
  case hy => (intro w hw; go_simp; (try go_bits); exact Yld.mk _ _)
  simp only [qz]
  refine rf_field (n := 0) (j := 0) rfl rfl rfl Try.underlying131 rfl (by kernel_rfl) rfl ?_
  simp only [qz]
  refine rf_load rfl rfl rfl Try.underlying129 rfl (fun w hw => (Kn.hd0 (Kn.tl (Kn.tl hw))).at rfl) ?_
  simp only [qz]
  refine rg_move ?_
  simp only [qz]
  refine rf_add rfl rfl rfl rfl (wrap_ok (by omega) (by omega)) ?_
  simp only [qz]
  refine rf_indexS (n := p + 1) (sz := 1) (j := p + 1) rfl rfl rfl rfl Try.underlying129 (by kernel_rfl) (by omega) (by omega) (by omega) ?_
  simp only [qz]
  refine rf_load (v := .slice (some ⟨b1, 0, none⟩) N c1) rfl rfl rfl Try.underlying36 rfl (fun w hw => Kn.outer (Kn.tl (Kn.tl (Kn.tl hw))) (at_twoP hA)) ?_
  simp only [qz]
  refine rg_move ?_
  simp only [qz]
  refine rf_loadR (n := 5) rfl rfl rfl Try.underlying45 rfl (by kernel_rfl) (fun w hw => Kn.hd0 (Kn.tl hw)) rfl rfl ?_
  simp only [qz]
  refine rf_loadR (n := 5) rfl rfl rfl Try.underlying45 rfl (by kernel_rfl) (fun w hw => Kn.hd0 hw) rfl rfl ?_
  simp only [qz]
  apply rg_pure (by rfl) (by kernel_rfl)
  case hargs => (simp only [qm, qs, Act.eval]; exact rfl)
  case h => exact fun w hw => amTurn2 (z p k) hok1 w
  case hz => exact (fun _ h => by cases h; exact (sc _ (sc _ (sc _ (sc _ (List.Sublist.append_left (sc _ (sc _ (List.Sublist.append_left (List.Sublist.append_left sn _) _))) _))))))
  simp only [qz]
  refine rf_extract rfl rfl rfl rfl ?_
  simp only [qz]
  refine rf_extract rfl rfl rfl rfl ?_
  simp only [qz]
  apply rg_pure (by rfl) (by kernel_rfl)
  case hargs => (simp only [qm, qs, Act.eval]; exact rfl)
  case h => exact fun w hw => must_any (z p k).rot.rot 0 w
  case hz => exact (fun _ h => by cases h; exact (sc _ (sc _ (sc _ (sc _ (List.Sublist.append_left (sc _ (sc _ (List.Sublist.append_left (List.Sublist.append_left sn _) _))) _))))))
  simp only [qz]
  apply rg_pure (by rfl) (by kernel_rfl)
  case hargs => (simp only [qm, qs, Act.eval]; exact rfl)
  case h => exact fun w hw => amAdd_mt (z p k).rot.rot (z (p + 1) k) (rot_ok (rot_ok hok1)) hok2 w
  case hz => exact (fun _ h => by cases h; exact (sc _ (sc _ (sc _ (sc _ (List.Sublist.append_left (sc _ (sc _ (List.Sublist.append_left (List.Sublist.append_left sn _) _))) _))))))
  simp only [qz]
  refine rf_extract rfl rfl rfl rfl ?_
  simp only [qz]
  refine rf_extract rfl rfl rfl rfl ?_
  simp only [qz]
  apply rg_pure (by rfl) (by kernel_rfl)
  case hargs => (simp only [qm, qs, Act.eval]; exact rfl)
  case h => exact fun w hw => must_any (mtR ((z p k).rot.rot.add (z (p + 1) k))) (errI ((z p k).rot.rot.add (z (p + 1) k))) w
  case hz => exact (fun _ h => by cases h; exact (sc _ (sc _ (sc _ (sc _ (List.Sublist.append_left (sc _ (sc _ (List.Sublist.append_left (List.Sublist.append_left sn _) _))) _))))))
  simp only [qz]
  apply rg_pure (by rfl) (by kernel_rfl)
  case hargs => (simp only [qm, qs, Act.eval]; exact rfl)
  case h => exact fun w hw => amHalve_mt (mtR ((z p k).rot.rot.add (z (p + 1) k))) hcy.1 w
  case hz => exact (fun _ h => by cases h; exact (sc _ (sc _ (sc _ (sc _ (List.Sublist.append_left (sc _ (sc _ (List.Sublist.append_left (List.Sublist.append_left sn _) _))) _))))))
  simp only [qz]
  refine rf_extract rfl rfl rfl rfl ?_
  simp only [qz]
  refine rf_extract rfl rfl rfl rfl ?_
  simp only [qz]
  apply rg_pure (by rfl) (by kernel_rfl)
  case hargs => (simp only [qm, qs, Act.eval]; exact rfl)
  case h => exact fun w hw => must_any (cY (z p k) (z (p + 1) k)) (errI ((mtR ((z p k).rot.rot.add (z (p + 1) k))).halve 1)) w
  case hz => exact (fun _ h => by cases h; exact (sc _ (sc _ (sc _ (sc _ (List.Sublist.append_left (sc _ (sc _ (List.Sublist.append_left (List.Sublist.append_left sn _) _))) _))))))
  simp only [qz]
  refine rf_indexS (n := k) (sz := 5) (j := 0 + k * 5) rfl rfl rfl rfl Try.underlying36 (by kernel_rfl) (by omega) (by omega) rfl ?_
  simp only [qz]
  have hszb1 := nm_szM (wrS l1 (fun k => cY (z p k) (z (p + 1) k)) k) k (cY (z p k) (z (p + 1) k)) r1 (by rw [wrS_len]; exact hkl1)
  refine rf_storeRM (n := 5) (vs := nmC (cY (z p k) (z (p + 1) k))) rfl rfl (by kernel_rfl) rfl rfl (UpdR.there _ (UpdR.there _ (UpdR.there _ (UpdR.there _ (UpdR.app _ (UpdR.there _ (UpdR.here _ _ _ hszb1))))))) (sc _ (sc _ (sc _ (sc _ (List.Sublist.append_left (sc _ (sk _ (List.Sublist.append_left (List.Sublist.append_left sn _) _))) _))))) ?_
  rw [nm_flM (wrS l1 (fun k => cY (z p k) (z (p + 1) k)) k) k (cY (z p k) (z (p + 1) k)) r1 (by rw [wrS_len]; exact hkl1), wrS_set (f := (fun k => cY (z p k) (z (p + 1) k))) hkl1]
  simp only [qz]
  refine rg_nil (ek_block (ek_next ?_))
  refine wk_region [0, 0] rfl (by kernel_rfl) ?_
  simp only [qy]
  refine rf_add rfl rfl rfl rfl (wrap_ok (by omega) (by omega)) ?_
  simp only [qz]
  refine rg_move ?_
  simp only [qz]
  refine rg_nil ?_
  refine ek_sub (sk _ (sk _ (sc _ (sc _ (List.Sublist.append_left (sc _ (sc _ (List.Sublist.append_left (List.Sublist.append_left sn _) _))) _))))) ?_
  refine ek_roundF (N - (k + 1)) (by omega) (by kernel_rfl) ?_
  exact ⟨k + 1, rfl, by rfl, by rfl, by omega⟩

end Go.Proofs.Ytccbinnlnkpplaa
namespace Go.Proofs.Ytccbinnlnkpplaa
set_option linter.all false
open Go.RowKit
section
variable {R : Option Nat} {ops : Array Oper} {Q : Exit → Act → World → Prop} {B : World} {F : List Nat} {s0 : Option (List Blk × List Blk)} {P : Program}
variable {l : List (Oper × Nat)} {a : Act} {s : List Blk} {d : Option Tmp} {t : TypeId} {p : String} {af : Array Edge} {gd : Option (Nat × Bool)} {m : Nat}
/-- A slice from lo on: x[lo:]. -/
theorem rf_sliceFrom {T : Nat} {x yl : Operand} {b off lo len cap e sz : Nat} {k' : IntKind} {zl : Int} (hm : soft03 m = true) (hg : Region.wanted ⟨d, .slice T x (some yl) none none, t, p, af, gd⟩ (yielded ops a.tmps) = true)
    (hx : a.eval x = .slice (some ⟨b, off, none⟩) len cap) (hl : a.eval yl = .int k' zl) (hu : P.underlying T = some (.slice e)) (hs : (P.info? e).map (·.size) = some sz) (hzl : zl = (lo : Int)) (hn : lo ≤ len)
    (h : Rg R P ops Q B F s0 l (a.put d (.slice (if cap = lo then some ⟨b, off, none⟩ else some ⟨b, off + lo * sz, none⟩) (len - lo) (cap - lo))) s) : Rg R P ops Q B F s0 ((⟨d, .slice T x (some yl) none none, t, p, af, gd⟩, m) :: l) a s := by
  subst hzl
  refine rg_any hm hg (fun w => ?_) h
  unfold Yld
  cases hq : P.info? e with
  | none => simp [hq] at hs
  | some q =>
    have hs' : q.size = sz := by simpa [hq] using hs
    have hb2 := fun w => run_sliceBound (P := P) w k' (lo : Int) len .sliceB (by omega) (by omega)
    have e2 : (lo : Int).toNat = lo := Int.toNat_natCast _
    rw [e2] at hb2
    simp [execOp, hx, hl, Instr.sliceAt, Instr.slice, Instr.sliceBounds, run_underlying hu, sizeOf, typeInfo, hq, hs', hb2, Addr.add_mid]
end
end Go.Proofs.Ytccbinnlnkpplaa
namespace Go.Proofs.Ytccbinnlnkpplaa
set_option linter.all false
open Go.RowKit

/-- The greatest exponent of the first rows from the row col on. -/
def expZ (z : Zt) (col : Nat) : Nat → Int
  | 0 => 0
  | j + 1 => if expZ z col j < (z (col + j) col).k then (z (col + j) col).k else expZ z col j
theorem expZ_is {z : Zt} {col : Nat} : ∀ n, 0 ≤ expZ z col n ∧ (∀ i, col ≤ i → i < col + n → (z i col).k ≤ expZ z col n) ∧ (0 < expZ z col n → ∃ i, col ≤ i ∧ i < col + n ∧ (z i col).k = expZ z col n)
  | 0 => ⟨Int.le_refl _, fun i h1 h2 => absurd h2 (by omega), fun h => absurd (show (0 : Int) < 0 from h) (by decide)⟩
  | n + 1 => by
    obtain ⟨h0, h1, h2⟩ := expZ_is (z := z) (col := col) n
    rw [expZ]
    split
    · rename_i hlt
      refine ⟨by omega, fun i hi hin => ?_, fun _ => ⟨col + n, by omega, by omega, rfl⟩⟩
      rcases (by omega : i = col + n ∨ i < col + n) with rfl | hlt'
      · exact Int.le_refl _
      · have := h1 i hi hlt'; omega
    · rename_i hge
      refine ⟨h0, fun i hi hin => ?_, fun hp => ?_⟩
      · rcases (by omega : i = col + n ∨ i < col + n) with rfl | hlt'
        · omega
        · exact h1 i hi hlt'
      · obtain ⟨i, a1, a2, a3⟩ := h2 hp
        exact ⟨i, a1, by omega, a3⟩
theorem expZ_exp {N col : Nat} {z : Zt} (hc : col ≤ N) : IsExp N col z (expZ z col (N - col)) := by
  have h := expZ_is (z := z) (col := col) (N - col)
  rw [show col + (N - col) = N by omega] at h
  exact h
def bsZ (b : Nat) (z : Zt) : Nat → Zt
  | 0 => z
  | j + 1 => crZ (b - 1 - j) (bsZ b z j)
def bsL (b : Nat) : Nat → List It
  | 0 => []
  | j + 1 => bsL b j ++ [cross (b - 1 - j)]
theorem bsL_len (b : Nat) : ∀ j, (bsL b j).length = j
  | 0 => rfl
  | j + 1 => by rw [bsL, List.length_append, bsL_len b j]; rfl
set_option maxRecDepth 100000 in
set_option maxHeartbeats 1000000 in
theorem wexpo_any (N col gw : Nat) (z : Zt) (L : List It) (s : List Blk) (hS : WS N gw z L s) (hN : N ≤ 6) (hL : L.length ≤ 100000) (hc : col < N) (w : World) (hK : Kn w (s.map (·.1)) s w) : Calls Try.prog 155 #[.pointer (some ⟨gw, 0, none⟩), .int .i64 (col : Int)] w fun e w' => e = .returned (.int .i64 (expZ z col (N - col))) ∧ Below w.heap.size w w' := by
  obtain ⟨go, oc, ro, rs, ia, ic, u, hse, hrl, hoc, hlen, hval, hO, hok⟩ := hS.open_
  go_enter Try.func155, Try.ntmps155
  refine wk_startF (Kn.to hse hK.nil') ?_
  refine wk_seq ?_
  refine wk_region [0] rfl (by kernel_rfl) ?_
  simp only [qy]
  refine rg_assign ?_
  simp only [qz]
  refine rg_nil (ek_next (wk_seq ?_))
  refine wk_region [0] rfl (by kernel_rfl) ?_
  simp only [qy]
  refine rg_assign ?_
  simp only [qz]
  refine rg_nil (ek_next (wk_seq (wk_seq ?_)))
  refine wk_region [0, 0, 0, 0, 0, 0, 0, 0] rfl (by kernel_rfl) ?_
  simp only [qy]
  refine rg_move ?_
  simp only [qz]
  apply rg_soft
  case hy => (intro w hw; go_simp; (try go_bits); exact Yld.mk _ _)
  simp only [qz]
  refine rf_field (n := 0) (j := 0) rfl rfl rfl Try.underlying131 rfl (by kernel_rfl) rfl ?_
  simp only [qz]
  refine rf_load rfl rfl rfl Try.underlying129 rfl (fun w hw => (Kn.hd0 hw).at rfl) ?_
  simp only [qz]
  refine rg_move ?_
  simp only [qz]
  refine rf_sliceFrom (lo := col) (sz := 1) rfl rfl rfl rfl Try.underlying129 (by kernel_rfl) (by omega) (by omega) ?_
  rw [if_neg (show ¬ oc = col by omega)]
  simp only [qz]
  refine rf_len rfl rfl rfl Try.underlying129 ?_
  simp only [qz]
  refine rg_move ?_
  simp only [qz]
  refine rg_nil (ek_next (wk_block ?_))
  refine wk_loopF [5, 7, 15, 16, 17, 18, 19, 20, 21, 22, 23, 24, 25, 26] (fun mz f s => ∃ (j : Nat) (k : Int), f 5 = .int .i64 k ∧ f 15 = .int .i64 j ∧ s = ((gw, .cells #[.slice (some ⟨go, 0, none⟩) N oc, .slice ia L.length ic] 131) :: ((go, .cells (rwV N (rs) ++ ro).toArray 36) :: (rwB rs ++ (u ++ [])))) ∧ mz = (N - col) - j ∧ j ≤ N - col ∧ Hid (expZ z col j = k)) ((fun (j : Nat) (k : Int) => (N - col) - j) (0) (0)) ?_ (by kernel_rfl) ?_
  · exact ⟨0, 0, rfl, rfl, rfl, rfl, by omega, Lib.hid rfl⟩
  rintro mz f1 s ⟨j, k, hs1_5, hs1_15, rfl, hn, hd1, hd2⟩
  simp only [Act.putF, List.foldl_cons, List.foldl_nil, hs1_5, hs1_15, Act.put, Act.eval, q1, q2, q3, q4, q5, q6, q7, q8, q9, q10, q11, q12, q13, q14, q15, q16, q17, q18, Nat.reduceAdd, Bool.not_true, Bool.not_false]
  clear hs1_5 hs1_15
  have hk := hd2
  clear hd2
  refine wk_seq ?_
  refine wk_region [0] rfl (by kernel_rfl) ?_
  simp only [qy]
  refine rfb_lss rfl rfl rfl rfl ?_
  intro x h1
  cases x
  · (try simp only [qd, ne_eq] at h1)
    simp only [qz]
    refine rg_nil (ek_next (wk_seq (wk_cond_f rfl (wk_exit (ek_then_exit (ek_then_exit (ek_block_exit (ek_next (wk_seq ?_)))))))))
    refine wk_region [0, 0] rfl (by kernel_rfl) ?_
    simp only [qy]
    refine rg_move ?_
    simp only [qz]
    refine rg_assign ?_
    simp only [qz]
    refine rg_nil (ek_next (wk_ret ?_))
    refine ek_ret (fun w hw => ⟨rfl, _, res_t _ rfl, ?_⟩)
    (try simp only [qz])
    obtain rfl : j = N - col := by omega
    exact ⟨by rw [hk.out], hK.same (Kn.of_nil (hw.to hse.symm))⟩
  (try simp only [qd, ne_eq] at h1)
  simp only [qz]
  refine rg_nil (ek_next (wk_seq (wk_cond_t rfl (wk_skip (ek_next (wk_seq (wk_block (wk_seq ?_))))))))
  have hcj : col + j < rs.length := by omega
  obtain ⟨⟨b, c, l, r⟩, hx⟩ : ∃ x, rs[col + j]? = some x := ⟨rs[col + j], List.getElem?_eq_getElem hcj⟩
  have hll : l.length = N := hlen ⟨b, c, l, r⟩ (List.mem_of_getElem? hx)
  have hzk : nm l col = z (col + j) col := hval _ _ hx col hc
  refine wk_region [0, 0, 0] rfl (by kernel_rfl) ?_
  simp only [qy]
  refine rf_indexS (n := j) (sz := 1) (j := col + j) rfl rfl rfl rfl Try.underlying129 (by kernel_rfl) (by omega) (by omega) (by omega) ?_
  simp only [qz]
  refine rf_load (v := .slice (some ⟨b, 0, none⟩) N c) rfl rfl rfl Try.underlying36 rfl (fun w hw => Kn.outer (Kn.tl hw) (hx)) ?_
  simp only [qz]
  refine rg_assign ?_
  simp only [qz]
  refine rg_nil (ek_next ?_)
  refine wk_region [0, 0, 0, 0, 0, 0, 0, 0] rfl (by kernel_rfl) ?_
  simp only [qy]
  refine rg_move ?_
  simp only [qz]
  refine rg_move ?_
  simp only [qz]
  refine rg_move ?_
  simp only [qz]
  refine rf_indexS (n := col) (sz := 5) (j := 0 + col * 5) rfl rfl rfl rfl Try.underlying36 (by kernel_rfl) (by omega) (by omega) rfl ?_
  simp only [qz]
  refine rf_field (n := 0) (j := 0 + col * 5 + 4) rfl rfl rfl Try.underlying45 rfl (by kernel_rfl) rfl ?_
  simp only [qz]
  refine rf_load (v := .int .i64 (z (col + j) col).k) rfl rfl rfl Try.underlying3 rfl (fun w hw => by have := Kn.row (Kn.tl (Kn.tl hw)) hx (k := col) (by rw [hll]; exact hc); rw [hzk] at this; exact this.c4) ?_
  simp only [qz]
  apply rg_soft
  case hy => (intro w hw; go_simp; (try go_bits); exact Yld.mk _ _)
  simp only [qz]
  refine rg_assign ?_
  simp only [qz]
  refine rg_nil (ek_block (ek_next ?_))
  refine wk_region [0, 0] rfl (by kernel_rfl) ?_
  simp only [qy]
  refine rf_add rfl rfl rfl rfl (wrap_ok (by omega) (by omega)) ?_
  simp only [qz]
  refine rg_move ?_
  simp only [qz]
  refine rg_nil ?_
  refine ek_roundF ((N - col) - (j + 1)) (by omega) (by kernel_rfl) ?_
  exact ⟨j + 1, _, rfl, rfl, by rfl, by rfl, by omega, (Lib.hid (by rw [expZ, hk.out]))⟩

set_option maxRecDepth 100000 in
set_option maxHeartbeats 1000000 in
theorem wbeside_any (N b t gw : Nat) (z : Zt) (L : List It) (s : List Blk) (hS : WS N gw z L s) (hN : N ≤ 6) (hL : L.length + 10 ≤ 100000) (ht : t ≤ b) (hb : b < N) (w : World) (hK : Kn w (s.map (·.1)) s w) : Calls Try.prog 157 #[.pointer (some ⟨gw, 0, none⟩), .int .i64 (b : Int), .int .i64 (t : Int)] w fun e w' => e = .returned (.tuple #[]) ∧ ∃ s', Kn w (s.map (·.1)) s' w' ∧ WS N gw (bsZ b z (b - t)) (L ++ bsL b (b - t)) s' := by
  go_enter Try.func157, Try.ntmps157
  refine wk_startF hK.nil' ?_
  refine wk_block ?_
  refine wk_loopF [1, 6, 7, 8, 9, 10, 11, 12, 13, 14] (fun mz f s => ∃ (j : Nat) (uV : List Blk), f 1 = .int .i64 ((b : Int) - j) ∧ s = (uV ++ []) ∧ mz = (b - t) - j ∧ j ≤ b - t ∧ WS N gw (bsZ b z j) (L ++ bsL b j) uV) ((fun (j : Nat) (uV : List Blk) => (b - t) - j) (0) (s)) ?_ (by kernel_rfl) ?_
  · exact ⟨0, s, rfl, rfl, rfl, by omega, (by rw [show L ++ bsL b 0 = L from List.append_nil L]; exact hS)⟩
  rintro mz f1 s ⟨j, uV, hs1_1, rfl, hn, hd1, hd2⟩
  simp only [Act.putF, List.foldl_cons, List.foldl_nil, hs1_1, Act.put, Act.eval, q1, q2, q3, q4, q5, q6, q7, q8, q9, q10, q11, q12, q13, q14, q15, q16, q17, q18, Nat.reduceAdd, Bool.not_true, Bool.not_false]
  clear hs1_1
  refine wk_seq (wk_seq ?_)
  refine wk_region [0, 0, 0] rfl (by kernel_rfl) ?_
  simp only [qy]
  refine rg_move ?_
  simp only [qz]
  refine rg_move ?_
  simp only [qz]
  refine rfb_gtr rfl rfl rfl rfl ?_
  intro x h1
  cases x
  · (try simp only [qd, ne_eq] at h1)
    simp only [qz]
    refine rg_nil (ek_next (wk_cond_f rfl (wk_exit (ek_then_exit (ek_then_exit (ek_block_exit ?_))))))
    refine ek_norm (fun w hw => ⟨rfl, _, res_0 rfl, ?_⟩)
    (try simp only [qz])
    obtain rfl : j = b - t := by omega
    exact ⟨(by first | rfl | trivial), _, hw.of_nil, hd2⟩
  (try simp only [qd, ne_eq] at h1)
  simp only [qz]
  refine rg_nil (ek_next (wk_cond_t rfl (wk_skip (ek_next (wk_seq (wk_block ?_))))))
  refine wk_region [0, 0, 0, 1] rfl (by kernel_rfl) ?_
  simp only [qy]
  refine rg_move ?_
  simp only [qz]
  refine rg_move ?_
  simp only [qz]
  refine rf_sub (r := ((b - 1 - j : Nat) : Int)) rfl rfl rfl rfl (wrap_eqB (by omega) (by omega) (by omega)) ?_
  simp only [qz]
  refine rg_eff (T := fun uX => WS N gw (crZ (b - 1 - j) (bsZ b z j)) (L ++ bsL b j ++ [cross (b - 1 - j)]) uX) (vb := uV) (rest := []) (by rfl) (by kernel_rfl) (by simp only [qm, qs, Act.eval]; try rfl) (List.Perm.refl _) (fun w hw => wcross_any N (b - 1 - j) gw (bsZ b z j) (L ++ bsL b j) uV hd2 hN (by rw [List.length_append, bsL_len]; omega) (by omega) w hw) (fun uX hTuX => ?_)
  simp only [qz]
  refine rg_nil (ek_block (ek_next ?_))
  refine wk_region [0, 0, 0] rfl (by kernel_rfl) ?_
  simp only [qy]
  refine rg_move ?_
  simp only [qz]
  refine rf_sub (r := (b : Int) - ((j + 1 : Nat) : Int)) rfl rfl rfl rfl (wrap_eqB (by omega) (by omega) (by omega)) ?_
  simp only [qz]
  refine rg_assign ?_
  simp only [qz]
  refine rg_nil ?_
  refine ek_roundF ((b - t) - (j + 1)) (by omega) (by kernel_rfl) ?_
  exact ⟨j + 1, uX, rfl, by rfl, by rfl, by omega, (by rw [bsZ, bsL, ← List.append_assoc]; exact hTuX)⟩

end Go.Proofs.Ytccbinnlnkpplaa
namespace Go.Proofs.Ytccbinnlnkpplaa
set_option linter.all false
open Go.RowKit

section
variable {P : Program} {ops : Array Oper} {Q : Exit → Act → World → Prop} {md : Region.Mode}
/-- What has come up has all that it waits for. -/
def Cl (md : Region.Mode) (ops : Array Oper) (listed : Array Bool) : Prop := ∀ k ok, ops[k]? = some ok → listed.getD k false = true → ∀ e ∈ ok.after, Region.binds md e = true → listed.getD e.on false = true
theorem Cl.step {listed : Array Bool} {j : Nat} (h : Cl md ops listed) (hj : j ∈ Region.ready md ops listed) : Cl md ops (listed.setIfInBounds j true) := fun k ok hk hl e he hb => by
  by_cases e1 : j = k
  · subst e1
    obtain ⟨-, o, ho, hall⟩ := mem_ready.1 hj
    rw [hk] at ho
    cases ho
    exact getD_set_true (hall e he hb)
  · rw [getD_set_ne false e1] at hl
    exact getD_set_true (h k ok hk hl e he hb)
/-- m waits for i, through other operations too. -/
def reachT (md : Region.Mode) (ops : Array Oper) : Nat → Nat → Nat → Bool
  | 0, _, _ => false
  | f + 1, m, i => match ops[m]? with
    | some o => o.after.any fun e => Region.binds md e && (e.on == i || reachT md ops f e.on i)
    | none => false
theorem reach_listed {listed : Array Bool} {i : Nat} (h : Cl md ops listed) : ∀ (f d : Nat), listed.getD d false = true → reachT md ops f d i = true → listed.getD i false = true
  | 0, _, _, hr => by cases hr
  | f + 1, d, hd, hr => by
    unfold reachT at hr
    cases ho : ops[d]? with
    | none => rw [ho] at hr; cases hr
    | some o =>
      rw [ho] at hr
      simp only [Array.any_eq_true, Bool.and_eq_true, Bool.or_eq_true, beq_iff_eq] at hr
      obtain ⟨n, hn, hb, hor⟩ := hr
      have hl := h d o ho hd _ (Array.getElem_mem hn) hb
      rcases hor with e | e
      · rw [← e]; exact hl
      · exact reach_listed h f _ hl e
theorem reach_ready {listed : Array Bool} {m i f : Nat} (h : Cl md ops listed) (hm : m ∈ Region.ready md ops listed) (hr : reachT md ops f m i = true) : listed.getD i false = true := by
  cases f with
  | zero => cases hr
  | succ f =>
    unfold reachT at hr
    obtain ⟨-, o, ho, hall⟩ := mem_ready.1 hm
    rw [ho] at hr
    simp only [Array.any_eq_true, Bool.and_eq_true, Bool.or_eq_true, beq_iff_eq] at hr
    obtain ⟨n, hn, hb, hor⟩ := hr
    have hl := hall _ (Array.getElem_mem hn) hb
    rcases hor with e | e
    · rw [← e]; exact hl
    · exact reach_listed h f _ hl e
/-- An operation that may come up now may be taken first: nothing that does not wait for it changes what is known. -/
theorem wpAnyF_firstT {S : Array Bool → World → Prop} {T : World → Prop} {i : Nat} {oi : Oper} {v : Value} (hi : ops[i]? = some oi) (hsel : ∀ (j : Nat) (o : Oper) cs b, ops[j]? = some o → o.op ≠ .select cs b)
    (hQ : ∀ c a w, Q (.panic c) (a.put oi.dst v) w → Q (.panic c) a w)
    (hSi : ∀ listed w, S (listed.setIfInBounds i true) w ↔ S listed w)
    (hSj : ∀ j listed, Cl md ops listed → j ∈ Region.ready md ops listed → listed.getD i true = false → (∀ w, S listed w → T w) → ∀ w, S (listed.setIfInBounds j true) w → T w) :
    ∀ (fuel : Nat) (listed : Array Bool) (a : Act) (w : World), Cl md ops listed → (∀ w, S listed w → T w) →
      (∀ j oj, ops[j]? = some oj → j ≠ i → listed.getD j true = false → (∀ e ∈ oj.after, Region.binds md e = true → e.on ≠ i) → oi.apart ops oj = true) →
      i ∈ Region.ready md ops listed → YieldsIf P ops T oi v a → S listed w →
      wpAnyF P md ops Q S fuel (listed.setIfInBounds i true) (a.put oi.dst v) w → wpAnyF P md ops Q S (fuel + 1) listed a w := by
  intro fuel
  induction fuel with
  | zero =>
    intro listed a w hC hT _ hr hy hS H
    refine ⟨fun h => (by rw [h] at hr; cases hr), fun j hj => ?_⟩
    by_cases hji : j = i
    · subst hji; exact hy.wpOp hi (hT w hS) ⟨(hSi _ _).2 hS, H⟩
    · have := ready_mono hj hji
      rw [H.1] at this
      cases this
  | succ fuel ih =>
    intro listed a w hC hT hfree hr hy hS H
    refine ⟨fun h => (by rw [h] at hr; cases hr), fun j hj => ?_⟩
    by_cases hji : j = i
    · subst hji; exact hy.wpOp hi (hT w hS) ⟨(hSi _ _).2 hS, H⟩
    · have h1 := H.2 j (ready_mono hj hji)
      obtain ⟨hjun, oj, hoj, hall⟩ := mem_ready.1 hj
      have hnot : ∀ e ∈ oj.after, Region.binds md e = true → e.on ≠ i := fun e he hb heq => by
        have h1 := hall e he hb
        have h0 := (mem_ready.1 hr).1
        rw [heq] at h1
        rcases Nat.lt_or_ge i listed.size with h' | h'
        · simp [h'] at h0 h1; rw [h0] at h1; cases h1
        · simp [Array.getElem?_eq_none h'] at h1
      have h2 := wpOp_putIf hoj (hfree j oj hoj hji hjun hnot) (fun cs b => hsel i oi cs b hi) (fun cs b => hsel j oj cs b hoj) hQ hy h1
      have hfree' : ∀ k ok, ops[k]? = some ok → k ≠ i → (listed.setIfInBounds j true).getD k true = false →
          (∀ e ∈ ok.after, Region.binds md e = true → e.on ≠ i) → oi.apart ops ok = true := fun k ok hk hki hun hno => by
        refine hfree k ok hk hki ?_ hno
        by_cases hjk : j = k
        · subst hjk; exact hjun
        · rw [getD_set_ne true hjk] at hun; exact hun
      have hSjj := hSj j listed hC hj (mem_ready.1 hr).1 hT
      refine wpOp_mono (fun a' w' h3 => ?_) h2
      have hS3 : S (listed.setIfInBounds j true) w' := by
        have := h3.2.1
        rw [Array.setIfInBounds_comm _ _ (Ne.symm hji)] at this
        exact (hSi _ _).1 this
      refine ⟨hS3, ih (listed.setIfInBounds j true) a' w' (hC.step hj) hSjj hfree' (ready_mono hr (Ne.symm hji)) h3.1 hS3 ?_⟩
      rw [Array.setIfInBounds_comm _ _ hji]
      exact h3.2.2

/-- The check of an order; ms: the marked operations that are still to come. -/
def eagT (md : Region.Mode) (ops : Array Oper) : List (Nat × Nat) → List Nat → Array Bool → Bool
  | [], ms, listed => (Region.ready md ops listed).isEmpty
  | (i, 0) :: l, ms, listed => (Region.ready md ops listed).contains i && (Region.free md ops listed i &&
      ((ms.all fun m => m != i && reachT md ops 20 m i) && eagT md ops l ms (listed.setIfInBounds i true)))
  | (i, 1) :: l, ms, listed => decide (Region.ready md ops listed = [i]) && (!ms.contains i && eagT md ops l ms (listed.setIfInBounds i true))
  | (i, 2) :: l, ms, listed => match ms with
    | [] => false
    | m :: r => decide (Region.ready md ops listed = [i]) && (m == i && (decide (i < listed.size) && (!r.contains i && eagT md ops l r (listed.setIfInBounds i true))))
  | (i, _ + 3) :: l, ms, listed => (Region.ready md ops listed).contains i && (Region.free md ops listed i && (!ms.contains i && eagT md ops l ms (listed.setIfInBounds i true)))

theorem wpAnyF_of_eagT {c : World → Prop} (hs : Region.noSelect ops = true) (hQ : ∀ c d v a w, Q (.panic c) (Act.put a d v) w → Q (.panic c) a w) :
    ∀ (l : List (Nat × Nat)) (m : List (Nat × (World → Prop))) (b : World → Prop) (listed : Array Bool) (a : Act) (w : World), Cl md ops listed → (∀ x ∈ m, listed.getD x.1 false = false) →
      (∀ w, b w → c w) → (∀ x ∈ m, ∀ w, x.2 w → c w) → eagT md ops l (m.map (·.1)) listed = true → b w → wpEagF P ops Q c l m b a w → wpAnyF P md ops Q (sOf m b) l.length listed a w
  | [], m, b, listed, a, w, _, hm, _, _, hB, _, h => ⟨by simpa [eagT] using hB, h⟩
  | (i, 0) :: l, m, b, listed, a, w, hC, hm, hc, hcm, hB, hb, h => by
    simp only [eagT, Bool.and_eq_true] at hB
    obtain ⟨hr, hf, hms, hB'⟩ := hB
    obtain ⟨o, v, ho, hy, hrest⟩ := h
    have hbase : ∀ listed' : Array Bool, (∀ x ∈ m, listed'.getD x.1 false = false) → sOf m b listed' = b := by
      intro listed' h'
      cases m with
      | nil => rfl
      | cons x r => simp only [sOf]; rw [if_neg (by rw [h' x (by simp)]; simp)]
    have hmi : ∀ x ∈ m, x.1 ≠ i := fun x hx e => by
      have := List.all_eq_true.1 hms x.1 (List.mem_map.2 ⟨x, hx, rfl⟩)
      simp [e] at this
    have hmr : ∀ x ∈ m, reachT md ops 20 x.1 i = true := fun x hx => by
      have := List.all_eq_true.1 hms x.1 (List.mem_map.2 ⟨x, hx, rfl⟩)
      rw [Bool.and_eq_true] at this
      exact this.2
    have hir : i ∈ Region.ready md ops listed := by simpa using hr
    refine wpAnyF_firstT (T := b) ho (Region.noSelect_spec hs) (fun c a w => hQ c _ _ a w) (fun listed w => by rw [sOf_other m b listed hmi]) (fun j listed hCl hj hun h w hw => h w (by
        rw [sOf_other m b listed (fun x hx e => by
          have h1 := reach_ready hCl (e ▸ hj) (hmr x hx)
          rcases Nat.lt_or_ge i listed.size with h' | h'
          · simp [h'] at h1 hun; rw [hun] at h1; cases h1
          · simp [Array.getElem?_eq_none h'] at h1)] at hw
        exact hw))
      l.length listed a w hC (by rw [hbase listed hm]; exact fun _ h => h) (Region.free_spec ho hf) hir hy (by rw [hbase listed hm]; exact hb) ?_
    exact wpAnyF_of_eagT hs hQ l m b _ _ _ (hC.step (by simpa using hr)) (fun x hx => by rw [getD_set_ne false (Ne.symm (hmi x hx))]; exact hm x hx) hc hcm hB' hb hrest
  | (i, n + 3) :: l, m, b, listed, a, w, hC, hm, hc, hcm, hB, hb, h => by
    simp only [eagT, Bool.and_eq_true, Bool.not_eq_true'] at hB
    obtain ⟨hr, hf, hni, hB'⟩ := hB
    obtain ⟨o, v, ho, hy, hrest⟩ := h
    have hmi : ∀ x ∈ m, x.1 ≠ i := fun x hx e => by
      have : (m.map (·.1)).contains i = true := by simp only [List.contains_iff_mem]; exact List.mem_map.2 ⟨x, hx, e⟩
      rw [this] at hni; cases hni
    have hbase : ∀ listed' : Array Bool, (∀ x ∈ m, listed'.getD x.1 false = false) → sOf m b listed' = b := by
      intro listed' h'
      cases m with
      | nil => rfl
      | cons x r => simp only [sOf]; rw [if_neg (by rw [h' x (by simp)]; simp)]
    refine wpAnyF_firstT (T := c) ho (Region.noSelect_spec hs) (fun c a w => hQ c _ _ a w) (fun listed w => by rw [sOf_other m b listed hmi]) (fun _ _ _ _ _ _ => sOf_c m b _ hc hcm)
      l.length listed a w hC (sOf_c m b _ hc hcm) (Region.free_spec ho hf) (by simpa using hr) hy (by rw [hbase listed hm]; exact hb) ?_
    exact wpAnyF_of_eagT hs hQ l m b _ _ _ (hC.step (by simpa using hr)) (fun x hx => by rw [getD_set_ne false (Ne.symm (hmi x hx))]; exact hm x hx) hc hcm hB' hb hrest
  | (i, 1) :: l, m, b, listed, a, w, hC, hm, hc, hcm, hB, hb, h => by
    simp only [eagT, Bool.and_eq_true, decide_eq_true_eq, Bool.not_eq_true'] at hB
    obtain ⟨hr, hni, hB'⟩ := hB
    have hmi : ∀ x ∈ m, x.1 ≠ i := fun x hx e => by
      have : (m.map (·.1)).contains i = true := by simp only [List.contains_iff_mem]; exact List.mem_map.2 ⟨x, hx, e⟩
      rw [this] at hni; cases hni
    have hm' : ∀ x ∈ m, (listed.setIfInBounds i true).getD x.1 false = false := fun x hx => by rw [getD_set_ne false (Ne.symm (hmi x hx))]; exact hm x hx
    have hbase : sOf m b (listed.setIfInBounds i true) = b := by
      cases m with
      | nil => rfl
      | cons x r => simp only [sOf]; rw [if_neg (by rw [hm' x (by simp)]; simp)]
    refine ⟨fun h0 => (by rw [h0] at hr; cases hr), fun j hj => ?_⟩
    rw [hr] at hj
    have hji : j = i := by simpa using hj
    subst hji
    refine wpOp_mono (fun a' w' h' => ⟨by rw [hbase]; exact h'.1, wpAnyF_of_eagT hs hQ l m b _ _ _ (hC.step (by rw [hr]; simp)) hm' hc hcm hB' h'.1 h'.2⟩) h
  | (i, 2) :: l, [], b, listed, a, w, hC, hm, hc, hcm, hB, hb, h => by simp [eagT] at hB
  | (i, 2) :: l, (m, p) :: r, b, listed, a, w, hC, hm, hc, hcm, hB, hb, h => by
    simp only [eagT, List.map_cons, Bool.and_eq_true, decide_eq_true_eq, beq_iff_eq, Bool.not_eq_true'] at hB
    obtain ⟨hr, hmi, hlt, hni, hB'⟩ := hB
    subst hmi
    have hri : ∀ x ∈ r, x.1 ≠ m := fun x hx e => by
      have : (r.map (·.1)).contains m = true := by simp only [List.contains_iff_mem]; exact List.mem_map.2 ⟨x, hx, e⟩
      rw [this] at hni; cases hni
    have hm' : ∀ x ∈ r, (listed.setIfInBounds m true).getD x.1 false = false := fun x hx => by rw [getD_set_ne false (Ne.symm (hri x hx))]; exact hm x (by simp [hx])
    have hset : ∀ (listed' : Array Bool), listed'.getD m false = true → sOf ((m, p) :: r) b listed' = sOf r p listed' := fun listed' h' => by simp only [sOf]; rw [if_pos h']
    have hgot : (listed.setIfInBounds m true).getD m false = true := by simp [Array.getD_eq_getD_getElem?, hlt]
    have hbase : sOf r p (listed.setIfInBounds m true) = p := by
      cases r with
      | nil => rfl
      | cons x r => simp only [sOf]; rw [if_neg (by rw [hm' x (by simp)]; simp)]
    refine ⟨fun h0 => (by rw [h0] at hr; cases hr), fun j hj => ?_⟩
    rw [hr] at hj
    have hji : j = m := by simpa using hj
    subst hji
    have h : wpOp P ops Q j (fun a' w' => p w' ∧ wpEagF P ops Q c l r p a' w') a w := by simpa only [wpEagF] using h
    refine wpOp_mono (fun a' w' h' => ⟨by rw [hset _ hgot, hbase]; exact h'.1, ?_⟩) h
    refine wpAnyF_congr (S := sOf r p) (fun listed' => listed'.getD j false = true) ?_ (fun listed' h' => (hset listed' h').symm) _ _ _ _ hgot (wpAnyF_of_eagT hs hQ l r p _ _ _ (hC.step (by rw [hr]; simp)) hm' (hcm (j, p) (by simp)) (fun x hx => hcm x (by simp [hx])) hB' h'.1 h'.2)
    intro listed' k hk
    by_cases hkj : k = j
    · subst hkj
      rcases Nat.lt_or_ge k listed'.size with h' | h'
      · simp [Array.getD_eq_getD_getElem?, h']
      · rw [show listed'.setIfInBounds k true = listed' from by simp [Array.setIfInBounds, Nat.not_lt.2 h']]; exact hk
    · rw [getD_set_ne false hkj]; exact hk

theorem wp_region_eagT {id : Nat} {a : Act} {w : World} {l : List Oper} {c : World → Prop} (m : List (Nat × (World → Prop))) (b : World → Prop) (ord : List (Nat × Nat)) (hm : P.follows .mixedOrders = true)
    (hB : (Region.noSelect l.toArray && (decide (ord.length = l.length) && eagT .any l.toArray ord (m.map (·.1)) (Array.replicate l.length false))) = true)
    (hQ : ∀ c d v a w, Q (.panic c) (Act.put a d v) w → Q (.panic c) a w) (hb : b w.drew) (hc : ∀ w, b w → c w) (hcm : ∀ x ∈ m, ∀ w, x.2 w → c w)
    (h : wpEagF P l.toArray Q c ord m b a w.drew) : (Code.region id l.toArray true).wp P Q a w := by
  simp only [Bool.and_eq_true, decide_eq_true_eq] at hB
  obtain ⟨hs, hl, hB⟩ := hB
  refine wp_region_any hm ?_
  have hx : ∀ x ∈ m, (Array.replicate l.length false).getD x.1 false = false := fun x _ => by
    rw [Array.getD_eq_getD_getElem?]
    rcases Nat.lt_or_ge x.1 l.length with h' | h' <;> simp [h', Array.getElem?_replicate]
  have := wpAnyF_of_eagT (md := .any) hs hQ ord m b _ a w.drew (fun k ok hk h => by
    rw [Array.getD_eq_getD_getElem?] at h
    rcases Nat.lt_or_ge k l.length with h' | h' <;> simp [h', Array.getElem?_replicate] at h) hx hc hcm hB hb h
  rw [hl] at this
  exact wpAny_of_F _ _ _ _ (by simpa using this)
end
section
variable {R : Option Nat} {P : Program} {ops : Array Oper} {Q : Exit → Act → World → Prop} {B : World} {F : List Nat} {s0 : Option (List Blk × List Blk)}
/-- A region that draws its order; z: what is known till the marked operation comes up, z1: what is known behind it. -/
theorem wk_drawsT {id : Nat} {a : Act} {s : List Blk} {l : List Oper} (z z1 : List Blk) (ord : List (Nat × Nat)) (mk : List Nat) (hm : P.follows .mixedOrders = true)
    (hB : ((Region.noSelect l.toArray && (decide (ord.length = l.length) && eagT .any l.toArray ord mk (Array.replicate l.length false))) &&
      ((ord.all fun p => decide (p.1 < l.length)) && (decide (mk.length ≤ 1) && decide ((ord.map (·.2)).filter (· == 2) = mk.map fun _ => 2)))) = true)
    (hQ : ∀ c d v a w, Q (.panic c) (Act.put a d v) w → Q (.panic c) a w) (hz : z.Sublist s) (hzz : mk = [] → z = z1)
    (h : Rg none P l.toArray Q B F (some (z, z1)) (ord.map fun p => (l.getD p.1 default, p.2)) a s) (hy : z1.Sublist z := by exact List.Sublist.refl _) : Wk none P B F Q a s (Code.region id l.toArray true) := fun w K => by
  simp only [Bool.and_eq_true, decide_eq_true_eq, List.all_eq_true] at hB
  obtain ⟨hB1, h1, h3, h4⟩ := hB
  refine wpIn_wide.2 ?_
  match mk, h3, h4, hB1, hzz with
  | [], _, h4, hB1, hzz =>
    refine wp_region_eagT [] (Kn B F z) ord hm (by simp only [Bool.and_eq_true, decide_eq_true_eq]; exact hB1) hQ (K.drew.sub hz) (fun w K => K.sub hy) (fun x hx => nomatch hx) ?_
    refine rg_eag l rfl 0 ord (z, z1) a s [] (.inr ⟨rfl, hzz rfl, fun p hp e => ?_⟩) (by rw [if_pos rfl]; exact h4) (by simpa [List.all_eq_true] using h1) h w.drew K.drew
    have : p.2 ∈ (ord.map (·.2)).filter (· == 2) := List.mem_filter.2 ⟨List.mem_map.2 ⟨p, hp, rfl⟩, by simp [e]⟩
    rw [h4] at this; cases this
  | [x], _, h4, hB1, _ =>
    refine wp_region_eagT [(x, Kn B F z1)] (Kn B F z) ord hm (by simp only [Bool.and_eq_true, decide_eq_true_eq]; exact hB1) hQ (K.drew.sub hz) (fun w K => K.sub hy) (fun x hx w K => by simp only [List.mem_singleton] at hx; subst hx; exact K) ?_
    exact rg_eag l rfl x ord (z, z1) a s [(x, Kn B F z1)] (.inl rfl) (by rw [if_neg (by simp)]; exact h4) (by simpa [List.all_eq_true] using h1) h w.drew K.drew
  | _ :: _ :: _, h3, _, _, _ => simp at h3

/-- All is known till the marked store. -/
theorem wk_drawsT_m {id : Nat} {a : Act} {s z1 : List Blk} (hz1 : z1.Sublist s) {l : List Oper} (ord : List (Nat × Nat)) (mk : Nat) (hm : P.follows .mixedOrders = true)
    (hB : ((Region.noSelect l.toArray && (decide (ord.length = l.length) && eagT .any l.toArray ord [mk] (Array.replicate l.length false))) &&
      ((ord.all fun p => decide (p.1 < l.length)) && (decide ([mk].length ≤ 1) && decide ((ord.map (·.2)).filter (· == 2) = [mk].map fun _ => 2)))) = true)
    (hQ : ∀ c d v a w, Q (.panic c) (Act.put a d v) w → Q (.panic c) a w)
    (h : Rg none P l.toArray Q B F (some (s, z1)) (ord.map fun p => (l.getD p.1 default, p.2)) a s) : Wk none P B F Q a s (Code.region id l.toArray true) :=
  wk_drawsT s z1 ord [mk] hm hB hQ (List.Sublist.refl _) (fun e => nomatch e) h hz1
end
end Go.Proofs.Ytccbinnlnkpplaa
namespace Go.Proofs.Ytccbinnlnkpplaa
set_option linter.all false
open Go.RowKit

/-- What a call of pair does. -/
def PairR (N col : Nat) (K : Int) (z : Zt) (L : List It) (z' : Zt) (L' : List It) : Prop :=
  (z' = z ∧ L' = L ∧ ∀ i j, col ≤ i → i < j → j < N → kindN (z i col) K ≠ 0 → kindN (z j col) K ≠ kindN (z i col) K) ∨
  ∃ a b : Nat, col ≤ a ∧ a < b ∧ b < N ∧ kindN (z a col) K ≠ 0 ∧ kindN (z b col) K = kindN (z a col) K ∧ z' = cpZ a (phZ (a + 1) ((matchN (z a col) ((bsZ b z (b - (a + 1))) (a + 1) col) + 6) % 8) (bsZ b z (b - (a + 1)))) ∧ L' = (if ((matchN (z a col) ((bsZ b z (b - (a + 1))) (a + 1) col) + 6) % 8) = 0 then (L ++ bsL b (b - (a + 1))) else (L ++ bsL b (b - (a + 1))) ++ [phsI (((a + 1 : Nat) : Int) + 1) (((matchN (z a col) ((bsZ b z (b - (a + 1))) (a + 1) col) + 6) % 8) : Nat)]) ++ [cplI ((a : Int) + 1)]
set_option maxRecDepth 100000 in
set_option maxHeartbeats 1000000 in
theorem wpair_any (N col gw : Nat) (K : Int) (z : Zt) (L : List It) (s : List Blk) (hS : WS N gw z L s) (hN : N ≤ 6) (hL : L.length + 20 ≤ 100000) (hc : col < N) (w : World) (hK : Kn w (s.map (·.1)) s w) : Calls Try.prog 156 #[.pointer (some ⟨gw, 0, none⟩), .int .i64 (col : Int), .int .i64 K] w fun e w' => e = .returned (.tuple #[]) ∧ ∃ s', Kn w (s.map (·.1)) s' w' ∧ ∃ z' L', WS N gw z' L' s' ∧ PairR N col K z L z' L' := by
  obtain ⟨go, oc, ro, rs, ia, ic, u, hse, hrl, hoc, hlen, hval, hO, hok⟩ := hS.open_
  go_enter Try.func156, Try.ntmps156
  refine wk_startF (Kn.to hse hK.nil') ?_
  refine wk_seq ?_
  refine wk_region [0, 0] rfl (by kernel_rfl) ?_
  simp only [qy]
  refine rg_move ?_
  simp only [qz]
  refine rg_assign ?_
  simp only [qz]
  refine rg_nil (ek_next (wk_block ?_))
  refine wk_loopF [6, 7, 8, 10, 11, 12, 13, 14, 15, 16, 17, 18, 19, 20, 21, 22, 23, 24, 25, 26, 27, 28, 29, 30, 31, 32, 33, 34, 35, 36, 37, 38, 39, 40, 41, 42, 43, 44, 45, 46, 47, 48, 49, 50, 51, 52, 53, 54, 55, 56, 57, 58, 59, 60, 61, 62, 63, 64, 65, 66, 67, 68, 69, 70, 71, 72, 73, 74, 75, 76, 77, 78, 79, 80, 81, 82, 83, 84, 85] (fun mz f s => ∃ (a : Nat), f 6 = .int .i64 a ∧ s = ((gw, .cells #[.slice (some ⟨go, 0, none⟩) N oc, .slice ia L.length ic] 131) :: ((go, .cells (rwV N (rs) ++ ro).toArray 36) :: (rwB rs ++ (u ++ [])))) ∧ mz = N - a ∧ col ≤ a ∧ a ≤ N ∧ (∀ i j, col ≤ i → i < a → i < j → j < N → kindN (z i col) K ≠ 0 → kindN (z j col) K ≠ kindN (z i col) K)) ((fun (a : Nat) => N - a) (col)) ?_ (by kernel_rfl) ?_
  · exact ⟨col, rfl, rfl, rfl, by omega, by omega, (fun i j h1 h2 => absurd h2 (by omega))⟩
  rintro mz f1 s ⟨a, hs1_6, rfl, hn, hd1, hd2, hd3⟩
  simp only [Act.putF, List.foldl_cons, List.foldl_nil, hs1_6, Act.put, Act.eval, q1, q2, q3, q4, q5, q6, q7, q8, q9, q10, q11, q12, q13, q14, q15, q16, q17, q18, Nat.reduceAdd, Bool.not_true, Bool.not_false]
  clear hs1_6
  have ho := hd3
  clear hd3
  refine wk_seq (wk_seq ?_)
  refine wk_region [0, 0, 0, 0, 0, 0, 0] rfl (by kernel_rfl) ?_
  simp only [qy]
  refine rg_move ?_
  simp only [qz]
  refine rg_move ?_
  simp only [qz]
  apply rg_soft
  case hy => (intro w hw; go_simp; (try go_bits); exact Yld.mk _ _)
  simp only [qz]
  refine rf_field (n := 0) (j := 0) rfl rfl rfl Try.underlying131 rfl (by kernel_rfl) rfl ?_
  simp only [qz]
  refine rf_load rfl rfl rfl Try.underlying129 rfl (fun w hw => (Kn.hd0 hw).at rfl) ?_
  simp only [qz]
  refine rf_len rfl rfl rfl Try.underlying129 ?_
  simp only [qz]
  refine rfb_lss rfl rfl rfl rfl ?_
  intro x h1
  cases x
  · (try simp only [qd, ne_eq] at h1)
    simp only [qz]
    refine rg_nil (ek_next (wk_cond_f rfl (wk_exit (ek_then_exit (ek_then_exit (ek_block_exit ?_))))))
    refine ek_norm (fun w hw => ⟨rfl, _, res_0 rfl, ?_⟩)
    (try simp only [qz])
    obtain rfl : a = N := by omega
    exact ⟨(by first | rfl | trivial), _, Kn.of_nil (hw.to hse.symm), _, _, hS, .inl ⟨rfl, rfl, fun i j h1 h2 h3 h4 => ho i j h1 (by omega) h2 h3 h4⟩⟩
  (try simp only [qd, ne_eq] at h1)
  simp only [qz]
  refine rg_nil (ek_next (wk_cond_t rfl (wk_skip (ek_next (wk_seq (wk_block (wk_seq ?_)))))))
  obtain ⟨⟨b1, c1, l1, r1⟩, hx1⟩ : ∃ x, rs[a]? = some x := ⟨rs[a]'(by omega), List.getElem?_eq_getElem (by omega)⟩
  have hl1 : l1.length = N := hlen ⟨b1, c1, l1, r1⟩ (List.mem_of_getElem? hx1)
  have hz1 : nm l1 col = z (a) col := hval _ _ hx1 col hc
  refine wk_region [0, 0, 0, 0, 0, 0, 0, 0, 0, 0, 1, 1] rfl (by kernel_rfl) ?_
  simp only [qy]
  refine rg_move ?_
  simp only [qz]
  apply rg_soft
  case hy => (intro w hw; go_simp; (try go_bits); exact Yld.mk _ _)
  simp only [qz]
  refine rf_field (n := 0) (j := 0) rfl rfl rfl Try.underlying131 rfl (by kernel_rfl) rfl ?_
  simp only [qz]
  refine rf_load rfl rfl rfl Try.underlying129 rfl (fun w hw => (Kn.hd0 hw).at rfl) ?_
  simp only [qz]
  refine rg_move ?_
  simp only [qz]
  refine rf_indexS (n := a) (sz := 1) (j := a) rfl rfl rfl rfl Try.underlying129 (by kernel_rfl) (by omega) (by omega) (by omega) ?_
  simp only [qz]
  refine rf_load (v := .slice (some ⟨b1, 0, none⟩) N c1) rfl rfl rfl Try.underlying36 rfl (fun w hw => Kn.outer (Kn.tl hw) (hx1)) ?_
  simp only [qz]
  refine rg_move ?_
  simp only [qz]
  refine rf_indexS (n := col) (sz := 5) (j := 0 + col * 5) rfl rfl rfl rfl Try.underlying36 (by kernel_rfl) (by omega) (by omega) rfl ?_
  simp only [qz]
  refine rf_loadC (n := 5) (vs := [.int .i64 (z a col).a, .int .i64 (z a col).b, .int .i64 (z a col).c, .int .i64 (z a col).d, .int .i64 (z a col).k]) rfl rfl rfl Try.underlying45 rfl (by kernel_rfl) rfl (fun w hw => atN_range (by have := Kn.row (Kn.tl (Kn.tl hw)) hx1 (k := col) (by rw [hl1]; exact hc); rw [hz1] at this; exact this)) ?_
  simp only [qz]
  refine rg_new (cs := ?_) (ty := ?_) (by rfl) (fun w => ?_) (fun _ h => by cases h) (fun g1 => ?_); rotate_left 2
  focus (go_simp; rfl)
  simp only [qz]
  refine rf_storeR (n := 5) rfl rfl (by kernel_rfl) rfl rfl (UpdR.here _ _ _ (Nat.le_of_ble_eq_true rfl)) (fun _ h => by cases h) ?_
  simp only [qz, Nat.reduceAdd]
  refine rg_nil (ek_next (wk_seq (wk_seq ?_)))
  refine wk_region [0, 0, 1, 0] rfl (by kernel_rfl) ?_
  simp only [qy]
  refine rf_loadR (n := 5) rfl rfl rfl Try.underlying45 rfl (by kernel_rfl) (fun w hw => Kn.hd0 hw) rfl rfl ?_
  simp only [qz]
  refine rg_move ?_
  simp only [qz]
  apply rg_pure (by rfl) (by kernel_rfl)
  case hargs => (simp only [qm, qs, Act.eval]; exact rfl)
  case h => exact fun w hw => kind_any (z a col) K w
  case hz => exact (fun _ h => by cases h)
  simp only [qz]
  refine rfb_eql rfl rfl rfl rfl ?_
  intro x h2
  cases x
  · (try simp only [qd, ne_eq] at h2)
    simp only [qz]
    refine rg_nil (ek_next (wk_cond_f rfl (wk_skip (ek_next (wk_seq ?_)))))
    refine wk_region [0, 0, 0] rfl (by kernel_rfl) ?_
    simp only [qy]
    refine rg_move ?_
    simp only [qz]
    refine rf_add rfl rfl rfl rfl (wrap_ok (by omega) (by omega)) ?_
    simp only [qz]
    refine rg_assign ?_
    simp only [qz]
    refine rg_nil (ek_next (wk_block ?_))
    refine wk_loopF [8, 35, 36, 37, 38, 39, 40, 41, 42, 43, 44, 45, 46, 47, 48, 49, 50, 51, 52, 53, 54, 55, 56, 57, 58, 59, 60, 61, 62, 63, 64, 65, 66, 67, 68, 69, 70, 71, 72, 73, 74, 75, 76, 77, 78, 79, 80, 81, 82, 83, 84, 85] (fun mz f s => ∃ (b : Nat), f 8 = .int .i64 b ∧ s = ((g1, .cells #[.int .i64 (z a col).a, .int .i64 (z a col).b, .int .i64 (z a col).c, .int .i64 (z a col).d, .int .i64 (z a col).k] 45) :: ((gw, .cells #[.slice (some ⟨go, 0, none⟩) N oc, .slice ia L.length ic] 131) :: ((go, .cells (rwV N (rs) ++ ro).toArray 36) :: (rwB rs ++ (u ++ []))))) ∧ mz = N - b ∧ a < b ∧ b ≤ N ∧ (∀ j, a < j → j < b → kindN (z j col) K ≠ kindN (z a col) K)) ((fun (b : Nat) => N - b) (a + 1)) ?_ (by kernel_rfl) ?_
    · exact ⟨a + 1, rfl, rfl, rfl, by omega, by omega, (fun j h1 h2 => absurd h2 (by omega))⟩
    rintro mz f2 s ⟨b, hs2_8, rfl, hn, he1, he2, he3⟩
    simp only [Act.putF, List.foldl_cons, List.foldl_nil, hs2_8, Act.put, Act.eval, q1, q2, q3, q4, q5, q6, q7, q8, q9, q10, q11, q12, q13, q14, q15, q16, q17, q18, Nat.reduceAdd, Bool.not_true, Bool.not_false]
    clear hs2_8
    refine wk_seq (wk_seq ?_)
    refine wk_region [0, 0, 0, 0, 0, 0, 0] rfl (by kernel_rfl) ?_
    simp only [qy]
    refine rg_move ?_
    simp only [qz]
    refine rg_move ?_
    simp only [qz]
    apply rg_soft
    case hy => (intro w hw; go_simp; (try go_bits); exact Yld.mk _ _)
    simp only [qz]
    refine rf_field (n := 0) (j := 0) rfl rfl rfl Try.underlying131 rfl (by kernel_rfl) rfl ?_
    simp only [qz]
    refine rf_load rfl rfl rfl Try.underlying129 rfl (fun w hw => (Kn.hd0 (Kn.tl hw)).at rfl) ?_
    simp only [qz]
    refine rf_len rfl rfl rfl Try.underlying129 ?_
    simp only [qz]
    refine rfb_lss rfl rfl rfl rfl ?_
    intro x h3
    cases x
    · (try simp only [qd, ne_eq] at h3)
      simp only [qz]
      refine rg_nil (ek_next (wk_cond_f rfl (wk_exit (ek_then_exit (ek_then_exit (ek_block_exit (ek_block (ek_next ?_))))))))
      refine wk_region [0, 0, 0] rfl (by kernel_rfl) ?_
      simp only [qy]
      refine rg_move ?_
      simp only [qz]
      refine rf_add rfl rfl rfl rfl (wrap_ok (by omega) (by omega)) ?_
      simp only [qz]
      refine rg_assign ?_
      simp only [qz]
      refine rg_nil ?_
      refine ek_sub (sk _ (sc _ (sc _ (List.Sublist.append_left (List.Sublist.append_left sn _) _)))) ?_
      refine ek_roundF (N - (a + 1)) (by omega) (by kernel_rfl) ?_
      exact ⟨a + 1, rfl, by rfl, by rfl, by omega, by omega, (fun i j y1 y2 y3 y4 y5 => if e : i = a then (by subst e; exact he3 j y3 (by omega)) else ho i j y1 (by omega) y3 y4 y5)⟩
    (try simp only [qd, ne_eq] at h3)
    simp only [qz]
    refine rg_nil (ek_next (wk_cond_t rfl (wk_skip (ek_next (wk_seq (wk_block (wk_seq (wk_seq ?_))))))))
    obtain ⟨⟨b2, c2, l2, r2⟩, hx2⟩ : ∃ x, rs[b]? = some x := ⟨rs[b]'(by omega), List.getElem?_eq_getElem (by omega)⟩
    have hl2 : l2.length = N := hlen ⟨b2, c2, l2, r2⟩ (List.mem_of_getElem? hx2)
    have hz2 : nm l2 col = z (b) col := hval _ _ hx2 col hc
    refine wk_draws _ _ [(0, 0), (1, 0), (2, 0), (3, 0), (4, 0), (5, 0), (6, 0), (7, 0), (8, 0), (9, 0), (10, 0), (12, 0), (13, 0), (11, 1), (14, 1), (15, 0)] [] (by kernel_rfl) (by kernel_rfl) (fun c d v a w h => by cases d <;> exact h) ((sc _ (sc _ (sc _ (List.Sublist.append_left (List.Sublist.append_left sn _) _))))) (fun e => by first | exact absurd e (by decide) | rfl) ?_
    simp only [List.map_cons, List.map_nil, List.getD_cons_zero, List.getD_cons_succ]
    refine rg_move ?_
    simp only [qz]
    apply rg_soft
    case hy => (intro w hw; go_simp; (try go_bits); exact Yld.mk _ _)
    simp only [qz]
    refine rf_field (n := 0) (j := 0) rfl rfl rfl Try.underlying131 rfl (by kernel_rfl) rfl ?_
    simp only [qz]
    refine rf_load rfl rfl rfl Try.underlying129 rfl (fun w hw => (Kn.hd0 (Kn.tl hw)).at rfl) ?_
    simp only [qz]
    refine rg_move ?_
    simp only [qz]
    refine rf_indexS (n := b) (sz := 1) (j := b) rfl rfl rfl rfl Try.underlying129 (by kernel_rfl) (by omega) (by omega) (by omega) ?_
    simp only [qz]
    refine rf_load (v := .slice (some ⟨b2, 0, none⟩) N c2) rfl rfl rfl Try.underlying36 rfl (fun w hw => Kn.outer (Kn.tl (Kn.tl hw)) (hx2)) ?_
    simp only [qz]
    refine rg_move ?_
    simp only [qz]
    refine rf_indexS (n := col) (sz := 5) (j := 0 + col * 5) rfl rfl rfl rfl Try.underlying36 (by kernel_rfl) (by omega) (by omega) rfl ?_
    simp only [qz]
    refine rf_loadC (n := 5) (vs := [.int .i64 (z b col).a, .int .i64 (z b col).b, .int .i64 (z b col).c, .int .i64 (z b col).d, .int .i64 (z b col).k]) rfl rfl rfl Try.underlying45 rfl (by kernel_rfl) rfl (fun w hw => atN_range (by have := Kn.row (Kn.tl (Kn.tl (Kn.tl hw))) hx2 (k := col) (by rw [hl2]; exact hc); rw [hz2] at this; exact this)) ?_
    simp only [qz]
    refine rg_move ?_
    simp only [qz]
    refine rf_loadR (n := 5) rfl rfl rfl Try.underlying45 rfl (by kernel_rfl) (fun w hw => Kn.hd0 hw) rfl rfl ?_
    simp only [qz]
    refine rg_move ?_
    simp only [qz]
    apply rg_pure (by rfl) (by kernel_rfl)
    case hargs => (simp only [qm, qs, Act.eval]; exact rfl)
    case h => exact fun w hw => kind_any (z b col) K w
    case hz => exact (fun _ h => by cases h; exact (sc _ (sc _ (sc _ (List.Sublist.append_left (List.Sublist.append_left sn _) _)))))
    simp only [qz]
    apply rg_pure (by rfl) (by kernel_rfl)
    case hargs => (simp only [qm, qs, Act.eval]; exact rfl)
    case h => exact fun w hw => kind_any (z a col) K w
    case hz => exact (fun _ h => by cases h; exact (sc _ (sc _ (sc _ (List.Sublist.append_left (List.Sublist.append_left sn _) _)))))
    simp only [qz]
    refine rfb_neq rfl rfl rfl rfl ?_
    intro x h4
    cases x
    · (try simp only [qd, ne_eq] at h4)
      simp only [qz]
      refine rg_nil (ek_next (wk_cond_f rfl (wk_skip (ek_next (wk_seq ?_)))))
      rw [← hse]
      refine wk_region [0, 0, 0, 0, 1] rfl (by kernel_rfl) ?_
      simp only [qy]
      refine rg_move ?_
      simp only [qz]
      refine rg_move ?_
      simp only [qz]
      refine rg_move ?_
      simp only [qz]
      refine rf_add (r := ((a + 1 : Nat) : Int)) rfl rfl rfl rfl (wrap_eqB (by omega) (by omega) (by omega)) ?_
      simp only [qz]
      refine rg_eff (T := fun uV => WS N gw (bsZ b z (b - (a + 1))) (L ++ bsL b (b - (a + 1))) uV) (vb := s) (rest := [(g1, .cells #[.int .i64 (z a col).a, .int .i64 (z a col).b, .int .i64 (z a col).c, .int .i64 (z a col).d, .int .i64 (z a col).k] 45)]) (by rfl) (by kernel_rfl) (by simp only [qm, qs, Act.eval]; try rfl) (perm_atU (l := [_]) (u := s) (List.Perm.refl _)) (fun w hw => wbeside_any N b (a + 1) gw z L s hS hN (by omega) (by omega) (by omega) w hw) (fun uV hTuV => ?_)
      simp only [qz]
      refine rg_nil (ek_next (wk_seq ?_))
      obtain ⟨go2, oc2, ro2, rs2, ia2, ic2, u2, hse2, hrl2, hoc2, hlen2, hval2, hO2, hok2⟩ := hTuV.open_
      refine wk_perm ((((List.Perm.refl _).append_left _).trans (List.perm_middle (l₁ := uV))).trans ((List.Perm.refl _).cons _)) ?_
      rw [hse2]
      obtain ⟨⟨b3, c3, l3, r3⟩, hx3⟩ : ∃ x, rs2[a + 1]? = some x := ⟨rs2[a + 1]'(by omega), List.getElem?_eq_getElem (by omega)⟩
      have hl3 : l3.length = N := hlen2 ⟨b3, c3, l3, r3⟩ (List.mem_of_getElem? hx3)
      have hz3 : nm l3 col = (bsZ b z (b - (a + 1))) (a + 1) col := hval2 _ _ hx3 col hc
      have hmt := match_lt (z a col) ((bsZ b z (b - (a + 1))) (a + 1) col)
      have hy2 := hok2 (a + 1) col (by omega) hc
      refine wk_drawsT_m (hz1 := (sc _ (sk _ (sk _ ((sn.trans (List.sublist_append_right _ _)).trans (List.sublist_append_right _ _)))))) [(0, 0), (1, 0), (2, 0), (3, 0), (4, 0), (5, 0), (6, 0), (7, 0), (8, 0), (9, 0), (10, 0), (11, 0), (12, 0), (13, 0), (14, 0), (15, 1), (16, 0), (17, 2)] 17 (by kernel_rfl) (by kernel_rfl) (fun c d v a w h => by cases d <;> exact h) ?_
      simp only [List.map_cons, List.map_nil, List.getD_cons_zero, List.getD_cons_succ]
      refine rg_move ?_
      simp only [qz]
      refine rg_move ?_
      simp only [qz]
      refine rf_add (r := ((a + 1 : Nat) : Int)) rfl rfl rfl rfl (wrap_eqB (by omega) (by omega) (by omega)) ?_
      simp only [qz]
      refine rf_loadR (n := 5) rfl rfl rfl Try.underlying45 rfl (by kernel_rfl) (fun w hw => Kn.hd0 hw) rfl rfl ?_
      simp only [qz]
      refine rg_move ?_
      simp only [qz]
      apply rg_soft
      case hy => (intro w hw; go_simp; (try go_bits); exact Yld.mk _ _)
      simp only [qz]
      refine rf_field (n := 0) (j := 0) rfl rfl rfl Try.underlying131 rfl (by kernel_rfl) rfl ?_
      simp only [qz]
      refine rf_load rfl rfl rfl Try.underlying129 rfl (fun w hw => (Kn.hd0 (Kn.tl hw)).at rfl) ?_
      simp only [qz]
      refine rg_move ?_
      simp only [qz]
      refine rf_add rfl rfl rfl rfl (wrap_ok (by omega) (by omega)) ?_
      simp only [qz]
      refine rf_indexS (n := a + 1) (sz := 1) (j := a + 1) rfl rfl rfl rfl Try.underlying129 (by kernel_rfl) (by omega) (by omega) (by omega) ?_
      simp only [qz]
      refine rf_load (v := .slice (some ⟨b3, 0, none⟩) N c3) rfl rfl rfl Try.underlying36 rfl (fun w hw => Kn.outer (Kn.tl (Kn.tl hw)) (hx3)) ?_
      simp only [qz]
      refine rg_move ?_
      simp only [qz]
      refine rf_indexS (n := col) (sz := 5) (j := 0 + col * 5) rfl rfl rfl rfl Try.underlying36 (by kernel_rfl) (by omega) (by omega) rfl ?_
      simp only [qz]
      refine rf_loadC (n := 5) (vs := [.int .i64 ((bsZ b z (b - (a + 1))) (a + 1) col).a, .int .i64 ((bsZ b z (b - (a + 1))) (a + 1) col).b, .int .i64 ((bsZ b z (b - (a + 1))) (a + 1) col).c, .int .i64 ((bsZ b z (b - (a + 1))) (a + 1) col).d, .int .i64 ((bsZ b z (b - (a + 1))) (a + 1) col).k]) rfl rfl rfl Try.underlying45 rfl (by kernel_rfl) rfl (fun w hw => atN_range (by have := Kn.row (Kn.tl (Kn.tl (Kn.tl hw))) hx3 (k := col) (by rw [hl3]; exact hc); rw [hz3] at this; exact this)) ?_
      simp only [qz]
      apply rg_pure (by rfl) (by kernel_rfl)
      case hargs => (simp only [qm, qs, Act.eval]; exact rfl)
      case h => exact fun w hw => match_any (z a col) ((bsZ b z (b - (a + 1))) (a + 1) col) hy2 w
      case hz => exact (fun _ h => by cases h; exact (sc _ (sc _ (sc _ (List.Sublist.append_left (List.Sublist.append_left sn _) _)))))
      simp only [qz]
      refine rf_sub rfl rfl rfl rfl (wrap_ok (by omega) (by omega)) ?_
      simp only [qz]
      refine rg_effM (T := fun uW => WS N gw (phZ (a + 1) ((matchN (z a col) ((bsZ b z (b - (a + 1))) (a + 1) col) + 6) % 8) (bsZ b z (b - (a + 1)))) (if ((matchN (z a col) ((bsZ b z (b - (a + 1))) (a + 1) col) + 6) % 8) = 0 then (L ++ bsL b (b - (a + 1))) else (L ++ bsL b (b - (a + 1))) ++ [phsI (((a + 1 : Nat) : Int) + 1) (((matchN (z a col) ((bsZ b z (b - (a + 1))) (a + 1) col) + 6) % 8) : Nat)]) uW) (vb := uV) (rest := [(g1, .cells #[.int .i64 (z a col).a, .int .i64 (z a col).b, .int .i64 (z a col).c, .int .i64 (z a col).d, .int .i64 (z a col).k] 45)]) (by rfl) (by kernel_rfl) (by simp only [qm, qs, Act.eval]; try rfl) (by rw [← hse2]; exact (perm_atU (l := [_]) (u := uV) (List.Perm.refl _))) (sc _ sn) (fun w hw => wphase_any N (a + 1) gw (bsZ b z (b - (a + 1))) (L ++ bsL b (b - (a + 1))) uV hTuV hN (by rw [List.length_append, bsL_len]; omega) (by omega) _ ((matchN (z a col) ((bsZ b z (b - (a + 1))) (a + 1) col) + 6) % 8) (by omega) w hw) (fun uW hTuW => ?_)
      simp only [qz]
      refine rg_nil (ek_next (wk_seq ?_))
      refine wk_region [0, 0, 1] rfl (by kernel_rfl) ?_
      simp only [qy]
      refine rg_move ?_
      simp only [qz]
      refine rg_move ?_
      simp only [qz]
      refine rg_eff (T := fun uX => WS N gw (cpZ a (phZ (a + 1) ((matchN (z a col) ((bsZ b z (b - (a + 1))) (a + 1) col) + 6) % 8) (bsZ b z (b - (a + 1))))) ((if ((matchN (z a col) ((bsZ b z (b - (a + 1))) (a + 1) col) + 6) % 8) = 0 then (L ++ bsL b (b - (a + 1))) else (L ++ bsL b (b - (a + 1))) ++ [phsI (((a + 1 : Nat) : Int) + 1) (((matchN (z a col) ((bsZ b z (b - (a + 1))) (a + 1) col) + 6) % 8) : Nat)]) ++ [cplI ((a : Int) + 1)]) uX) (vb := uW) (rest := [(g1, .cells #[.int .i64 (z a col).a, .int .i64 (z a col).b, .int .i64 (z a col).c, .int .i64 (z a col).d, .int .i64 (z a col).k] 45)]) (by rfl) (by kernel_rfl) (by simp only [qm, qs, Act.eval]; try rfl) (List.Perm.refl _) (fun w hw => wcouple_any N a gw (phZ (a + 1) ((matchN (z a col) ((bsZ b z (b - (a + 1))) (a + 1) col) + 6) % 8) (bsZ b z (b - (a + 1)))) (if ((matchN (z a col) ((bsZ b z (b - (a + 1))) (a + 1) col) + 6) % 8) = 0 then (L ++ bsL b (b - (a + 1))) else (L ++ bsL b (b - (a + 1))) ++ [phsI (((a + 1 : Nat) : Int) + 1) (((matchN (z a col) ((bsZ b z (b - (a + 1))) (a + 1) col) + 6) % 8) : Nat)]) uW hTuW hN (by split <;> simp only [List.length_append, bsL_len, List.length_cons, List.length_nil] <;> omega) (by omega) w hw) (fun uX hTuX => ?_)
      simp only [qz]
      refine rg_nil (ek_next (wk_ret (ek_block_ret (ek_then_ret (ek_then_ret (ek_block_ret (ek_block_ret (ek_then_ret (ek_then_ret (ek_block_ret ?_))))))))))
      refine ek_sub (List.Sublist.append_left (sk _ sn) _) ?_
      refine ek_ret (fun w hw => ⟨rfl, _, res_0 rfl, ?_⟩)
      (try simp only [qz])
      exact ⟨(by first | rfl | trivial), _, hw.of_nil, _, _, hTuX, .inr ⟨a, b, by omega, by omega, by omega, h2, by omega, rfl, rfl⟩⟩
    (try simp only [qd, ne_eq] at h4)
    simp only [qz]
    refine rg_nil (ek_next (wk_cond_t rfl (wk_exit (ek_then_exit (ek_block_exit (ek_next ?_))))))
    refine wk_region [0, 0, 0] rfl (by kernel_rfl) ?_
    simp only [qy]
    refine rg_move ?_
    simp only [qz]
    refine rf_add rfl rfl rfl rfl (wrap_ok (by omega) (by omega)) ?_
    simp only [qz]
    refine rg_assign ?_
    simp only [qz]
    refine rg_nil ?_
    refine ek_roundF (N - (b + 1)) (by omega) (by kernel_rfl) ?_
    exact ⟨b + 1, rfl, by rfl, by rfl, by omega, by omega, (fun j y1 y2 => if e : j = b then e ▸ h4 else he3 j y1 (by omega))⟩
  (try simp only [qd, ne_eq] at h2)
  simp only [qz]
  refine rg_nil (ek_next (wk_cond_t rfl (wk_exit (ek_then_exit (ek_block_exit (ek_next ?_))))))
  refine wk_region [0, 0, 0] rfl (by kernel_rfl) ?_
  simp only [qy]
  refine rg_move ?_
  simp only [qz]
  refine rf_add rfl rfl rfl rfl (wrap_ok (by omega) (by omega)) ?_
  simp only [qz]
  refine rg_assign ?_
  simp only [qz]
  refine rg_nil ?_
  refine ek_sub (sk _ (sc _ (sc _ (List.Sublist.append_left (List.Sublist.append_left sn _) _)))) ?_
  refine ek_roundF (N - (a + 1)) (by omega) (by kernel_rfl) ?_
  exact ⟨a + 1, rfl, by rfl, by rfl, by omega, by omega, (fun i j y1 y2 y3 y4 y5 => if e : i = a then absurd h2 (e ▸ y5) else ho i j y1 (by omega) y3 y4 y5)⟩

end Go.Proofs.Ytccbinnlnkpplaa
