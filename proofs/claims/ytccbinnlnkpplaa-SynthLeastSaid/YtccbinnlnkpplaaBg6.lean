/- Numbers of any size: products. -/
import Derived.Test.YtccbinnlnkpplaaBg5
namespace Go.Proofs.Ytccbinnlnkpplaa
set_option linter.all false
open Go.RowKit

theorem dig_rep (n j : Nat) : dig (List.replicate n 0) j = 0 := by
  unfold dig; rw [List.getD_eq_getElem?_getD, List.getElem?_replicate]; split <;> rfl
theorem dig_mul {x y : Int} (h0 : 0 ≤ x) (h1 : x < 4294967296) (h2 : 0 ≤ y) (h3 : y < 4294967296) : 0 ≤ x * y ∧ x * y ≤ 18446744065119617025 :=
  ⟨Int.mul_nonneg h0 h2, Int.mul_le_mul (show x ≤ 4294967295 by omega) (show y ≤ 4294967295 by omega) h2 (by omega)⟩
theorem mul_step {xs vs zs : List Int} {i k : Nat} {cy t : Int} (hi : i + k < zs.length) (h : dval zs + 4294967296 ^ (i + k) * cy = dval (xs.take i) * dval vs + 4294967296 ^ i * (dig xs i * dval (vs.take k)))
    (ht : t = dig xs i * dig vs k + dig zs (i + k) + cy) : dval (zs.set (i + k) (t % 4294967296)) + 4294967296 ^ (i + (k + 1)) * (t / 4294967296) = dval (xs.take i) * dval vs + 4294967296 ^ i * (dig xs i * dval (vs.take (k + 1))) := by
  rw [dval_set _ hi, dval_take', ← Nat.add_assoc, pw_succ]
  have e : (4294967296 : Int) ^ (i + k) * (t % 4294967296) + 4294967296 * 4294967296 ^ (i + k) * (t / 4294967296) = 4294967296 ^ (i + k) * t := by
    have := Int.mul_ediv_add_emod t 4294967296
    grind
  have e2 : (4294967296 : Int) ^ (i + k) * t = 4294967296 ^ (i + k) * (dig xs i * dig vs k) + 4294967296 ^ (i + k) * dig zs (i + k) + 4294967296 ^ (i + k) * cy := by rw [ht]; grind
  have e3 : (4294967296 : Int) ^ (i + k) = 4294967296 ^ i * 4294967296 ^ k := Int.pow_add ..
  rw [e3] at *
  grind
theorem mul_row {xs vs zs : List Int} {i : Nat} {cy : Int} (hi : i < xs.length) (hl : i + vs.length < zs.length) (hz : ∀ j, i + vs.length ≤ j → dig zs j = 0)
    (h : dval zs + 4294967296 ^ (i + vs.length) * cy = dval (xs.take i) * dval vs + 4294967296 ^ i * (dig xs i * dval (vs.take vs.length))) : dval (zs.set (i + vs.length) cy) = dval (xs.take (i + 1)) * dval vs := by
  rw [dval_set _ hl, hz _ (Nat.le_refl _), dval_take']
  rw [List.take_of_length_le (Nat.le_refl _)] at h
  grind
theorem sgn_mul {m n : Int} (hm : m ≠ 0) (hn : n ≠ 0) : decide (m * n < 0) = (decide (m < 0) != decide (n < 0)) := by
  rcases Int.lt_or_gt_of_ne hm with h1 | h1 <;> rcases Int.lt_or_gt_of_ne hn with h2 | h2
  · have := Int.mul_pos_of_neg_of_neg h1 h2
    rw [decide_eq_true h1, decide_eq_true h2, decide_eq_false (by omega)]; rfl
  · have := Int.mul_neg_of_neg_of_pos h1 h2
    rw [decide_eq_true h1, decide_eq_false (show ¬ n < 0 by omega), decide_eq_true (by omega)]; rfl
  · have := Int.mul_neg_of_pos_of_neg h1 h2
    rw [decide_eq_false (show ¬ m < 0 by omega), decide_eq_true h2, decide_eq_true (by omega)]; rfl
  · have := Int.mul_pos h1 h2
    rw [decide_eq_false (show ¬ m < 0 by omega), decide_eq_false (show ¬ n < 0 by omega), decide_eq_false (by omega)]; rfl
set_option maxRecDepth 100000 in
set_option maxHeartbeats 1000000 in
theorem bmul_any (m n : Int) (s s2 : Value) (hl : (digs m.natAbs).length ≤ 1000) (hl2 : (digs n.natAbs).length ≤ 1000) (w : World) (hs : SA w s m.natAbs) (hs2 : SA w s2 n.natAbs) : Calls Try.prog 144 #[bgV m s, bgV n s2] w fun e w' => RetB w (m * n) e w' := by
  obtain ⟨a, c, rfl, hA⟩ := hs
  obtain ⟨a2, c2, rfl, hA2⟩ := hs2
  have hlm : (digs m.natAbs).length = 0 ↔ m = 0 := by rw [List.length_eq_zero_iff, digs_nil_iff]; omega
  have hln : (digs n.natAbs).length = 0 ↔ n = 0 := by rw [List.length_eq_zero_iff, digs_nil_iff]; omega
  go_enter Try.func144, Try.ntmps144
  refine wk_start ?_
  refine wk_seq ?_
  refine wk_region [1, 1, 1] rfl (by kernel_rfl) ?_
  simp only [List.zip_cons_cons, List.zip_nil_right]
  refine rg_new (cs := ?_) (ty := ?_) (by rfl) (fun w => ?_) (fun _ h => by cases h) (fun g1 => ?_); rotate_left 2
  focus (go_simp; rfl)
  simp only [Act.put, Act.eval, qn, qv, Nat.reduceAdd]
  refine rg_new (cs := ?_) (ty := ?_) (by rfl) (fun w => ?_) (fun _ h => by cases h) (fun g2 => ?_); rotate_left 2
  focus (go_simp; rfl)
  simp only [Act.put, Act.eval, qn, qv, Nat.reduceAdd]
  refine rg_new (cs := ?_) (ty := ?_) (by rfl) (fun w => ?_) (fun _ h => by cases h) (fun g3 => ?_); rotate_left 2
  focus (go_simp; rfl)
  simp only [Act.put, Act.eval, qn, qv, Nat.reduceAdd]
  refine rg_nil ?_
  refine ek_next ?_
  refine wk_seq ?_
  refine wk_seq ?_
  refine wk_region [0, 0, 0, 0, 0, 0, 0, 0, 0, 0] rfl (by kernel_rfl) ?_
  simp only [List.zip_cons_cons, List.zip_nil_right]
  refine rf_field (n := 0) (j := 1) rfl rfl rfl Try.underlying67 rfl (by kernel_rfl) rfl ?_
  simp only [Act.put, Act.eval, qn, qv, Nat.reduceAdd]
  refine rf_load rfl rfl rfl Try.underlying65 rfl (fun w hw => (Kn.hd0 (Kn.tl (Kn.tl hw))).at rfl) ?_
  simp only [Act.put, Act.eval, qn, qv, Nat.reduceAdd]
  refine rf_len rfl rfl rfl Try.underlying65 ?_
  simp only [Act.put, Act.eval, qn, qv, Nat.reduceAdd]
  refine rfb_eql rfl rfl rfl rfl ?_
  intro x h1
  cases x
  · (try simp only [decide_eq_true_eq, decide_eq_false_iff_not, Int.not_lt, Int.not_le, beq_iff_eq, beq_eq_false_iff_ne, bne_iff_ne, bne_eq_false_iff_eq, ne_eq, Bool.not_eq_true', Bool.not_eq_false'] at h1)
    simp only [Act.put, Act.eval, qn, qv, Nat.reduceAdd]
    refine rg_move ?_
    simp only [Act.put, Act.eval, qn, qv, Nat.reduceAdd]
    refine rf_field (n := 0) (j := 1) rfl rfl rfl Try.underlying67 rfl (by kernel_rfl) rfl ?_
    simp only [Act.put, Act.eval, qn, qv, Nat.reduceAdd]
    refine rf_load rfl rfl rfl Try.underlying65 rfl (fun w hw => (Kn.hd0 (Kn.tl hw)).at rfl) ?_
    simp only [Act.put, Act.eval, qn, qv, Nat.reduceAdd]
    refine rf_len rfl rfl rfl Try.underlying65 ?_
    simp only [Act.put, Act.eval, qn, qv, Nat.reduceAdd]
    refine rfb_eql rfl rfl rfl rfl ?_
    intro x h2
    cases x
    · (try simp only [decide_eq_true_eq, decide_eq_false_iff_not, Int.not_lt, Int.not_le, beq_iff_eq, beq_eq_false_iff_ne, bne_iff_ne, bne_eq_false_iff_eq, ne_eq, Bool.not_eq_true', Bool.not_eq_false'] at h2)
      simp only [Act.put, Act.eval, qn, qv, Nat.reduceAdd]
      obtain ⟨b, off, rfl, hlt, hcell⟩ := AS.openU hA (by omega)
      obtain ⟨b2, off2, rfl, hlt2, hcell2⟩ := AS.openU hA2 (by omega)
      have hdx := digs_dg m.natAbs
      have hdy := digs_dg n.natAbs
      refine rf_pick rfl rfl rfl ?_
      simp only [Act.put, Act.eval, qn, qv, Nat.reduceAdd]
      refine rg_nil ?_
      refine ek_next ?_
      refine wk_cond_f rfl ?_
      refine wk_skip ?_
      refine ek_next ?_
      refine wk_seq ?_
      refine wk_region [0, 0, 0, 0, 0, 0, 0, 1, 0] rfl (by kernel_rfl) ?_
      simp only [List.zip_cons_cons, List.zip_nil_right]
      refine rf_field (n := 0) (j := 1) rfl rfl rfl Try.underlying67 rfl (by kernel_rfl) rfl ?_
      simp only [Act.put, Act.eval, qn, qv, Nat.reduceAdd]
      refine rf_load rfl rfl rfl Try.underlying65 rfl (fun w hw => (Kn.hd0 (Kn.tl (Kn.tl hw))).at rfl) ?_
      simp only [Act.put, Act.eval, qn, qv, Nat.reduceAdd]
      refine rf_len rfl rfl rfl Try.underlying65 ?_
      simp only [Act.put, Act.eval, qn, qv, Nat.reduceAdd]
      refine rf_field (n := 0) (j := 1) rfl rfl rfl Try.underlying67 rfl (by kernel_rfl) rfl ?_
      simp only [Act.put, Act.eval, qn, qv, Nat.reduceAdd]
      refine rf_load rfl rfl rfl Try.underlying65 rfl (fun w hw => (Kn.hd0 (Kn.tl hw)).at rfl) ?_
      simp only [Act.put, Act.eval, qn, qv, Nat.reduceAdd]
      refine rf_len rfl rfl rfl Try.underlying65 ?_
      simp only [Act.put, Act.eval, qn, qv, Nat.reduceAdd]
      refine rf_add rfl rfl rfl rfl (wrap_ok (by omega) (by omega)) ?_
      simp only [Act.put, Act.eval, qn, qv, Nat.reduceAdd]
      refine rg_makeU (n := (digs m.natAbs).length + (digs n.natAbs).length) (by rfl) rfl rfl (by omega) (by omega) (fun _ h => by cases h) (fun g4 => ?_)
      simp only [Act.put, Act.eval, qn, qv, Nat.reduceAdd]
      refine rg_assign ?_
      simp only [Act.put, Act.eval, qn, qv, Nat.reduceAdd]
      refine rg_nil ?_
      refine ek_next ?_
      refine wk_seq ?_
      refine wk_seq ?_
      refine wk_region [0] rfl (by kernel_rfl) ?_
      simp only [List.zip_cons_cons, List.zip_nil_right]
      refine rg_assign ?_
      simp only [Act.put, Act.eval, qn, qv, Nat.reduceAdd]
      refine rg_nil ?_
      refine ek_next ?_
      refine wk_block ?_
      refine wk_loopF [6, 7, 8, 9, 29, 30, 31, 32, 33, 34, 35, 36, 37, 38, 39, 40, 41, 42, 43, 44, 45, 46, 47, 48, 49, 50, 51, 52, 53, 54, 55, 56, 57, 58, 59, 60, 61, 62, 63, 64, 65, 66, 67, 68, 69, 70, 71, 72, 73, 74, 75, 76, 77, 78, 79, 80, 81, 82, 83] (fun mz f s => ∃ (i : Nat) (zs : List Int), f 5 = .slice (some ⟨g4, 0, none⟩) ((digs m.natAbs).length + (digs n.natAbs).length) ((digs m.natAbs).length + (digs n.natAbs).length) ∧ f 6 = .int .i64 i ∧ s = ((g4, .cells (us zs).toArray 160) :: ((g3, .cells #[.bool false, .slice none 0 0] 67) :: ((g2, .cells #[.bool (decide (n < 0)), .slice (some ⟨b2, off2, none⟩) (digs n.natAbs).length c2] 67) :: ((g1, .cells #[.bool (decide (m < 0)), .slice (some ⟨b, off, none⟩) (digs m.natAbs).length c] 67) :: [])))) ∧ mz = (digs m.natAbs).length - i ∧ i ≤ (digs m.natAbs).length ∧ zs.length ≤ (digs m.natAbs).length + (digs n.natAbs).length ∧ (digs m.natAbs).length + (digs n.natAbs).length ≤ zs.length ∧ Dg zs ∧ dval zs = dval ((digs m.natAbs).take i) * dval (digs n.natAbs) ∧ (∀ j, i + (digs n.natAbs).length ≤ j → dig zs j = 0)) ((fun (i : Nat) (zs : List Int) => (digs m.natAbs).length - i) (0) ((List.replicate ((digs m.natAbs).length + (digs n.natAbs).length) 0))) ?_ (by kernel_rfl) ?_
      · exact ⟨0, (List.replicate ((digs m.natAbs).length + (digs n.natAbs).length) 0), rfl, rfl, rfl, rfl, by omega, by simp, by simp, Dg_zero _, (by simp [dval, dval_zero (dig_rep _)]), fun j hj => dig_rep _ j⟩
      rintro mz f1 s ⟨i, zs, hs1_5, hs1_6, rfl, hn, hc1, hc2, hc3, hc4, hc5, hc6⟩
      simp only [Act.putF, List.foldl_cons, List.foldl_nil, hs1_5, hs1_6, Act.put, Act.eval, q1, q2, q3, q4, q5, q6, q7, q8, q9, q10, q11, q12, q13, q14, q15, q16, q17, q18, Nat.reduceAdd, Bool.not_true, Bool.not_false]
      clear hs1_5 hs1_6
      have heq := Lib.hid hc5
      clear hc5
      refine wk_seq ?_
      refine wk_seq ?_
      refine wk_region [0, 0, 0, 0, 0] rfl (by kernel_rfl) ?_
      simp only [List.zip_cons_cons, List.zip_nil_right]
      refine rg_move ?_
      simp only [Act.put, Act.eval, qn, qv, Nat.reduceAdd]
      refine rf_field (n := 0) (j := 1) rfl rfl rfl Try.underlying67 rfl (by kernel_rfl) rfl ?_
      simp only [Act.put, Act.eval, qn, qv, Nat.reduceAdd]
      refine rf_load rfl rfl rfl Try.underlying65 rfl (fun w hw => (Kn.hd0 (Kn.tl (Kn.tl (Kn.tl hw)))).at rfl) ?_
      simp only [Act.put, Act.eval, qn, qv, Nat.reduceAdd]
      refine rf_len rfl rfl rfl Try.underlying65 ?_
      simp only [Act.put, Act.eval, qn, qv, Nat.reduceAdd]
      refine rfb_lss rfl rfl rfl rfl ?_
      intro x h3
      cases x
      · (try simp only [decide_eq_true_eq, decide_eq_false_iff_not, Int.not_lt, Int.not_le, beq_iff_eq, beq_eq_false_iff_ne, bne_iff_ne, bne_eq_false_iff_eq, ne_eq, Bool.not_eq_true', Bool.not_eq_false'] at h3)
        simp only [Act.put, Act.eval, qn, qv, Nat.reduceAdd]
        refine rg_nil ?_
        refine ek_next ?_
        refine wk_cond_f rfl ?_
        refine wk_exit ?_
        refine ek_then_exit ?_
        refine ek_then_exit ?_
        refine ek_block_exit ?_
        refine ek_next ?_
        refine wk_seq ?_
        refine wk_draws_m (hz1 := (sc _ (sk _ (sc _ (sc _ sn))))) [(0, 0), (1, 0), (2, 0), (3, 0), (4, 0), (5, 0), (6, 1), (7, 0), (8, 2)] 8 (by kernel_rfl) (by kernel_rfl) (fun c d v a w h => by cases d <;> exact h) ?_
        simp only [List.map_cons, List.map_nil, List.getD_cons_zero, List.getD_cons_succ]
        refine rf_field (n := 0) (j := 0) rfl rfl rfl Try.underlying67 rfl (by kernel_rfl) rfl ?_
        simp only [Act.put, Act.eval, qn, qv, Nat.reduceAdd]
        refine rf_load rfl rfl rfl Try.underlying4 rfl (fun w hw => (Kn.hd0 (Kn.tl (Kn.tl (Kn.tl hw)))).at rfl) ?_
        simp only [Act.put, Act.eval, qn, qv, Nat.reduceAdd]
        refine rf_field (n := 0) (j := 0) rfl rfl rfl Try.underlying67 rfl (by kernel_rfl) rfl ?_
        simp only [Act.put, Act.eval, qn, qv, Nat.reduceAdd]
        refine rf_load rfl rfl rfl Try.underlying4 rfl (fun w hw => (Kn.hd0 (Kn.tl (Kn.tl hw))).at rfl) ?_
        simp only [Act.put, Act.eval, qn, qv, Nat.reduceAdd]
        apply rg_soft
        case hy => (intro w hw; go_simp; (try go_bits); exact Yld.mk _ _)
        simp only [Act.put, Act.eval, qn, qv, Nat.reduceAdd]
        refine rg_move ?_
        simp only [Act.put, Act.eval, qn, qv, Nat.reduceAdd]
        have hO := OwnG.wholeU (g := g4) (zs := zs) (by omega)
        have hzl : zs.length = (digs m.natAbs).length + (digs n.natAbs).length := by omega
        rw [hzl] at hO
        apply (rg_or (X := fun v => ∃ k, k ≤ zs.length ∧ v = .slice (some ⟨g4, 0, none⟩) k ((digs m.natAbs).length + (digs n.natAbs).length) ∧ (∀ j, k ≤ j → dig zs j = 0) ∧ (k = 0 ∨ dig zs (k - 1) ≠ 0))) (by rfl) (by kernel_rfl)
        case hargs => (simp only [qm, qs, Act.eval]; exact rfl)
        case h => exact fun w hw => by have := trimmed_any zs (some ⟨g4, 0, none⟩) ((digs m.natAbs).length + (digs n.natAbs).length) hc4 (by omega) (by omega) w (hO.as' (Kn.sub (s' := [(g4, .cells (us zs).toArray 160)] ++ []) hw (sc _ (sk _ (sk _ (sk _ sn)))))); rw [hzl] at this; exact this.mono fun e w' ⟨m, h1, h2, h3, h4, h5⟩ => ⟨_, h2, ⟨m, hzl ▸ h1, rfl, h3, h4⟩, h5⟩
        case hz => exact (fun _ h => by cases h; exact (sc _ (sc _ (sc _ (sc _ sn)))))
        rintro v ⟨k, hm1, rfl, hm2, hm3⟩
        simp only [Act.put, Act.eval, qn, qv, Nat.reduceAdd]
        refine rf_build (cs := fun a => #[a.eval (.tmp 88), a.eval (.tmp 90)]) rfl rfl (by kernel_rfl) ?_
        simp only [Act.put, Act.eval, qn, qv, Nat.reduceAdd]
        refine rf_storeRM (n := 2) rfl rfl (by kernel_rfl) rfl rfl (UpdR.there _ (UpdR.here _ _ _ (Nat.le_of_ble_eq_true rfl))) (sc _ (sk _ (sc _ (sc _ sn)))) ?_
        simp only [Act.put, Act.eval, qn, qv, Nat.reduceAdd]
        refine rg_nil ?_
        refine ek_next ?_
        refine wk_ret ?_
        refine ek_ret (fun w hw => ⟨rfl, _, run_results1 rfl rfl (Kn.hd0 (Kn.tl hw)) Try.underlying67 rfl (by kernel_rfl), ?_⟩)
        (try simp only [Act.put, Act.eval, qn, qv, Nat.reduceAdd])
        have hm0 : m ≠ 0 := fun e => by have := hlm.2 e; omega
        have hn0 : n ≠ 0 := fun e => by have := hln.2 e; omega
        have e1 : dval zs = m.natAbs * n.natAbs := by
          have h1 := heq.out
          rw [List.take_of_length_le (by omega), dval_digs, dval_digs] at h1
          exact h1
        have e2 : (dval zs).toNat = (m * n).natAbs := by rw [e1, Int.natAbs_mul]; omega
        have hS := SU.own hO k hm1 ((trim_eq hc4 hm1 hm2 hm3).trans (by rw [e2])) (a := some ⟨g4, 0, none⟩) (c := (digs m.natAbs).length + (digs n.natAbs).length) (by rw [hzl])
        refine ⟨_, _, rfl, ⟨.slice (some ⟨g4, 0, none⟩) k ((digs m.natAbs).length + (digs n.natAbs).length), ?_, hS⟩, hw.made (sc _ (sk _ (sk _ (sk _ sn))))⟩
        unfold bgV
        rw [sgn_mul hm0 hn0]
        rfl
      · (try simp only [decide_eq_true_eq, decide_eq_false_iff_not, Int.not_lt, Int.not_le, beq_iff_eq, beq_eq_false_iff_ne, bne_iff_ne, bne_eq_false_iff_eq, ne_eq, Bool.not_eq_true', Bool.not_eq_false'] at h3)
        simp only [Act.put, Act.eval, qn, qv, Nat.reduceAdd]
        have hxi := hdx.at i
        refine rg_nil ?_
        refine ek_next ?_
        refine wk_cond_t rfl ?_
        refine wk_skip ?_
        refine ek_next ?_
        refine wk_seq ?_
        refine wk_block ?_
        refine wk_seq ?_
        refine wk_region [0] rfl (by kernel_rfl) ?_
        simp only [List.zip_cons_cons, List.zip_nil_right]
        refine rg_assign ?_
        simp only [Act.put, Act.eval, qn, qv, Nat.reduceAdd]
        refine rg_nil ?_
        refine ek_next ?_
        refine wk_seq ?_
        refine wk_seq ?_
        refine wk_region [0] rfl (by kernel_rfl) ?_
        simp only [List.zip_cons_cons, List.zip_nil_right]
        refine rg_assign ?_
        simp only [Act.put, Act.eval, qn, qv, Nat.reduceAdd]
        refine rg_nil ?_
        refine ek_next ?_
        refine wk_block ?_
        have hi1 : i < (digs m.natAbs).length := by omega
        refine wk_loopF [7, 8, 9, 36, 37, 38, 39, 40, 41, 42, 43, 44, 45, 46, 47, 48, 49, 50, 51, 52, 53, 54, 55, 56, 57, 58, 59, 60, 61, 62, 63, 64, 65, 66, 67, 68, 69, 70, 71, 72, 73, 74] (fun mz f s => ∃ (k : Nat) (cy : Int) (ys : List Int), f 5 = .slice (some ⟨g4, 0, none⟩) ((digs m.natAbs).length + (digs n.natAbs).length) ((digs m.natAbs).length + (digs n.natAbs).length) ∧ f 6 = .int .i64 i ∧ f 7 = .int .u64 cy ∧ f 8 = .int .i64 k ∧ s = ((g4, .cells (us ys).toArray 160) :: ((g3, .cells #[.bool false, .slice none 0 0] 67) :: ((g2, .cells #[.bool (decide (n < 0)), .slice (some ⟨b2, off2, none⟩) (digs n.natAbs).length c2] 67) :: ((g1, .cells #[.bool (decide (m < 0)), .slice (some ⟨b, off, none⟩) (digs m.natAbs).length c] 67) :: [])))) ∧ mz = (digs n.natAbs).length - k ∧ k ≤ (digs n.natAbs).length ∧ ys.length ≤ (digs m.natAbs).length + (digs n.natAbs).length ∧ (digs m.natAbs).length + (digs n.natAbs).length ≤ ys.length ∧ Dg ys ∧ 0 ≤ cy ∧ cy < 4294967296 ∧ dval ys + 4294967296 ^ (i + k) * cy = dval ((digs m.natAbs).take i) * dval (digs n.natAbs) + 4294967296 ^ i * (dig (digs m.natAbs) i * dval ((digs n.natAbs).take k)) ∧ (∀ j, i + (digs n.natAbs).length ≤ j → dig ys j = 0)) ((fun (k : Nat) (cy : Int) (ys : List Int) => (digs n.natAbs).length - k) (0) (0) (zs)) ?_ (by kernel_rfl) ?_
        · exact ⟨0, 0, zs, rfl, rfl, rfl, rfl, rfl, rfl, by omega, hc2, hc3, hc4, by omega, by omega, (by have := heq.out; simp [dval]; exact this), hc6⟩
        rintro mz f2 s ⟨k, cy, ys, hs2_5, hs2_6, hs2_7, hs2_8, rfl, hn, he1, he2, he3, he4, he5, he6, he7, he8⟩
        simp only [Act.putF, List.foldl_cons, List.foldl_nil, hs2_5, hs2_6, hs2_7, hs2_8, Act.put, Act.eval, q1, q2, q3, q4, q5, q6, q7, q8, q9, q10, q11, q12, q13, q14, q15, q16, q17, q18, Nat.reduceAdd, Bool.not_true, Bool.not_false]
        clear hs2_5 hs2_6 hs2_7 hs2_8
        have hd3 := he4
        have hd8 := he8
        have heq2 := Lib.hid he7
        clear he7 he4 he8
        refine wk_seq ?_
        refine wk_seq ?_
        refine wk_region [0, 0, 0, 0, 0] rfl (by kernel_rfl) ?_
        simp only [List.zip_cons_cons, List.zip_nil_right]
        refine rg_move ?_
        simp only [Act.put, Act.eval, qn, qv, Nat.reduceAdd]
        refine rf_field (n := 0) (j := 1) rfl rfl rfl Try.underlying67 rfl (by kernel_rfl) rfl ?_
        simp only [Act.put, Act.eval, qn, qv, Nat.reduceAdd]
        refine rf_load rfl rfl rfl Try.underlying65 rfl (fun w hw => (Kn.hd0 (Kn.tl (Kn.tl hw))).at rfl) ?_
        simp only [Act.put, Act.eval, qn, qv, Nat.reduceAdd]
        refine rf_len rfl rfl rfl Try.underlying65 ?_
        simp only [Act.put, Act.eval, qn, qv, Nat.reduceAdd]
        refine rfb_lss rfl rfl rfl rfl ?_
        intro x h4
        cases x
        · (try simp only [decide_eq_true_eq, decide_eq_false_iff_not, Int.not_lt, Int.not_le, beq_iff_eq, beq_eq_false_iff_ne, bne_iff_ne, bne_eq_false_iff_eq, ne_eq, Bool.not_eq_true', Bool.not_eq_false'] at h4)
          simp only [Act.put, Act.eval, qn, qv, Nat.reduceAdd]
          refine rg_nil ?_
          refine ek_next ?_
          refine wk_cond_f rfl ?_
          refine wk_exit ?_
          refine ek_then_exit ?_
          refine ek_then_exit ?_
          refine ek_block_exit ?_
          refine ek_next ?_
          refine wk_region [0, 0, 0, 0, 0, 0, 0, 0, 0, 1] rfl (by kernel_rfl) ?_
          simp only [List.zip_cons_cons, List.zip_nil_right]
          refine rg_move ?_
          simp only [Act.put, Act.eval, qn, qv, Nat.reduceAdd]
          refine rg_move ?_
          simp only [Act.put, Act.eval, qn, qv, Nat.reduceAdd]
          refine rf_field (n := 0) (j := 1) rfl rfl rfl Try.underlying67 rfl (by kernel_rfl) rfl ?_
          simp only [Act.put, Act.eval, qn, qv, Nat.reduceAdd]
          refine rf_load rfl rfl rfl Try.underlying65 rfl (fun w hw => (Kn.hd0 (Kn.tl (Kn.tl hw))).at rfl) ?_
          simp only [Act.put, Act.eval, qn, qv, Nat.reduceAdd]
          refine rf_len rfl rfl rfl Try.underlying65 ?_
          simp only [Act.put, Act.eval, qn, qv, Nat.reduceAdd]
          refine rf_add rfl rfl rfl rfl (wrap_ok (by omega) (by omega)) ?_
          simp only [Act.put, Act.eval, qn, qv, Nat.reduceAdd]
          refine rg_move ?_
          simp only [Act.put, Act.eval, qn, qv, Nat.reduceAdd]
          refine rf_conv rfl rfl rfl Try.underlying99 Try.underlying160 (wrap32_ok (by omega) (by omega)) ?_
          simp only [Act.put, Act.eval, qn, qv, Nat.reduceAdd]
          refine rf_indexS (n := i + (digs n.natAbs).length) (sz := 1) (j := i + (digs n.natAbs).length) rfl rfl rfl rfl Try.underlying65 (by kernel_rfl) (by omega) (by omega) (by omega) ?_
          simp only [Act.put, Act.eval, qn, qv, Nat.reduceAdd]
          refine rf_storeU (i := i + (digs n.natAbs).length) (z := cy) rfl rfl (by (try simp only [List.length_set]); omega) (Rep.here _) (fun _ h => by cases h) ?_
          simp only [Act.put, Act.eval, qn, qv, Nat.reduceAdd]
          refine rg_nil ?_
          refine ek_block ?_
          refine ek_next ?_
          refine wk_region [0, 0, 0] rfl (by kernel_rfl) ?_
          simp only [List.zip_cons_cons, List.zip_nil_right]
          refine rg_move ?_
          simp only [Act.put, Act.eval, qn, qv, Nat.reduceAdd]
          refine rf_add rfl rfl rfl rfl (wrap_ok (by omega) (by omega)) ?_
          simp only [Act.put, Act.eval, qn, qv, Nat.reduceAdd]
          refine rg_assign ?_
          simp only [Act.put, Act.eval, qn, qv, Nat.reduceAdd]
          refine rg_nil ?_
          have hkl : k = (digs n.natAbs).length := by omega
          subst hkl
          have hst := mul_row (zs := ys) hi1 (by omega) hd8 heq2.out
          refine ek_roundF ((digs m.natAbs).length - (i + 1)) (by omega) (by kernel_rfl) ?_
          exact ⟨i + 1, ys.set (i + (digs n.natAbs).length) cy, rfl, rfl, by rfl, by rfl, (by omega), (by rw [List.length_set]; omega), (by rw [List.length_set]; omega), Dg.set hd3 _ (by omega) (by omega), hst, fun j hj => by rw [dig_set _ _ (by omega), if_neg (by omega)]; exact hd8 j (by omega)⟩
        · (try simp only [decide_eq_true_eq, decide_eq_false_iff_not, Int.not_lt, Int.not_le, beq_iff_eq, beq_eq_false_iff_ne, bne_iff_ne, bne_eq_false_iff_eq, ne_eq, Bool.not_eq_true', Bool.not_eq_false'] at h4)
          simp only [Act.put, Act.eval, qn, qv, Nat.reduceAdd]
          have hyk := hdy.at k
          have hzk := hd3.at (i + k)
          obtain ⟨hp0, hp1⟩ := dig_mul hxi.1 hxi.2 hyk.1 hyk.2
          refine rg_nil ?_
          refine ek_next ?_
          refine wk_cond_t rfl ?_
          refine wk_skip ?_
          refine ek_next ?_
          refine wk_seq ?_
          refine wk_block ?_
          refine wk_seq ?_
          refine wk_draws _ _ [(0, 0), (1, 0), (2, 0), (3, 0), (4, 0), (5, 0), (6, 0), (7, 0), (8, 0), (9, 0), (10, 0), (11, 0), (12, 0), (13, 0), (14, 0), (15, 0), (16, 0), (17, 0), (18, 0), (19, 0), (20, 0), (21, 0), (22, 0), (23, 0)] [] (by kernel_rfl) (by kernel_rfl) (fun c d v a w h => by cases d <;> exact h) ((sc _ (sc _ (sc _ (sc _ sn))))) (fun e => by first | exact absurd e (by decide) | rfl) ?_
          simp only [List.map_cons, List.map_nil, List.getD_cons_zero, List.getD_cons_succ]
          refine rf_field (n := 0) (j := 1) rfl rfl rfl Try.underlying67 rfl (by kernel_rfl) rfl ?_
          simp only [Act.put, Act.eval, qn, qv, Nat.reduceAdd]
          refine rf_load rfl rfl rfl Try.underlying65 rfl (fun w hw => (Kn.hd0 (Kn.tl (Kn.tl (Kn.tl hw)))).at rfl) ?_
          simp only [Act.put, Act.eval, qn, qv, Nat.reduceAdd]
          refine rg_move ?_
          simp only [Act.put, Act.eval, qn, qv, Nat.reduceAdd]
          refine rf_indexS (n := i) (sz := 1) (j := off + i * 1) rfl rfl rfl rfl Try.underlying65 (by kernel_rfl) (by omega) (by omega) rfl ?_
          simp only [Act.put, Act.eval, qn, qv, Nat.reduceAdd]
          refine rf_load rfl rfl rfl Try.underlying160 rfl (fun w hw => (by have := (Kn.cellB hw hlt (by simp) (off + i)).trans (hcell i (by omega)); simpa using this)) ?_
          simp only [Act.put, Act.eval, qn, qv, Nat.reduceAdd]
          refine rf_conv rfl rfl rfl Try.underlying160 Try.underlying99 (wrap_okU (by omega) (by omega)) ?_
          simp only [Act.put, Act.eval, qn, qv, Nat.reduceAdd]
          refine rf_field (n := 0) (j := 1) rfl rfl rfl Try.underlying67 rfl (by kernel_rfl) rfl ?_
          simp only [Act.put, Act.eval, qn, qv, Nat.reduceAdd]
          refine rf_load rfl rfl rfl Try.underlying65 rfl (fun w hw => (Kn.hd0 (Kn.tl (Kn.tl hw))).at rfl) ?_
          simp only [Act.put, Act.eval, qn, qv, Nat.reduceAdd]
          refine rg_move ?_
          simp only [Act.put, Act.eval, qn, qv, Nat.reduceAdd]
          refine rf_indexS (n := k) (sz := 1) (j := off2 + k * 1) rfl rfl rfl rfl Try.underlying65 (by kernel_rfl) (by omega) (by omega) rfl ?_
          simp only [Act.put, Act.eval, qn, qv, Nat.reduceAdd]
          refine rf_load rfl rfl rfl Try.underlying160 rfl (fun w hw => (by have := (Kn.cellB hw hlt2 (by simp) (off2 + k)).trans (hcell2 k (by omega)); simpa using this)) ?_
          simp only [Act.put, Act.eval, qn, qv, Nat.reduceAdd]
          refine rf_conv rfl rfl rfl Try.underlying160 Try.underlying99 (wrap_okU (by omega) (by omega)) ?_
          simp only [Act.put, Act.eval, qn, qv, Nat.reduceAdd]
          refine rf_mul rfl rfl rfl rfl (wrap_okU (by omega) (by omega)) ?_
          simp only [Act.put, Act.eval, qn, qv, Nat.reduceAdd]
          refine rg_move ?_
          simp only [Act.put, Act.eval, qn, qv, Nat.reduceAdd]
          refine rg_move ?_
          simp only [Act.put, Act.eval, qn, qv, Nat.reduceAdd]
          refine rg_move ?_
          simp only [Act.put, Act.eval, qn, qv, Nat.reduceAdd]
          refine rf_add rfl rfl rfl rfl (wrap_ok (by omega) (by omega)) ?_
          simp only [Act.put, Act.eval, qn, qv, Nat.reduceAdd]
          refine rf_indexS (n := i + k) (sz := 1) (j := i + k) rfl rfl rfl rfl Try.underlying65 (by kernel_rfl) (by omega) (by omega) (by omega) ?_
          simp only [Act.put, Act.eval, qn, qv, Nat.reduceAdd]
          refine rf_load rfl rfl rfl Try.underlying160 rfl (fun w hw => (Kn.hd0 hw).at (us_getA _ _ (by (try simp only [List.length_set]); omega))) ?_
          simp only [Act.put, Act.eval, qn, qv, Nat.reduceAdd]
          refine rf_conv rfl rfl rfl Try.underlying160 Try.underlying99 (wrap_okU (by omega) (by omega)) ?_
          simp only [Act.put, Act.eval, qn, qv, Nat.reduceAdd]
          refine rf_add rfl rfl rfl rfl (wrap_okU (by omega) (by omega)) ?_
          simp only [Act.put, Act.eval, qn, qv, Nat.reduceAdd]
          refine rg_move ?_
          simp only [Act.put, Act.eval, qn, qv, Nat.reduceAdd]
          refine rf_add rfl rfl rfl rfl (wrap_okU (by omega) (by omega)) ?_
          simp only [Act.put, Act.eval, qn, qv, Nat.reduceAdd]
          refine rg_assign ?_
          simp only [Act.put, Act.eval, qn, qv, Nat.reduceAdd]
          refine rg_nil ?_
          refine ek_next ?_
          refine wk_seq ?_
          refine wk_region [0, 0, 0, 0, 0, 0, 0, 1] rfl (by kernel_rfl) ?_
          simp only [List.zip_cons_cons, List.zip_nil_right]
          refine rg_move ?_
          simp only [Act.put, Act.eval, qn, qv, Nat.reduceAdd]
          refine rg_move ?_
          simp only [Act.put, Act.eval, qn, qv, Nat.reduceAdd]
          refine rg_move ?_
          simp only [Act.put, Act.eval, qn, qv, Nat.reduceAdd]
          refine rf_add rfl rfl rfl rfl (wrap_ok (by omega) (by omega)) ?_
          simp only [Act.put, Act.eval, qn, qv, Nat.reduceAdd]
          refine rg_move ?_
          simp only [Act.put, Act.eval, qn, qv, Nat.reduceAdd]
          refine rf_conv rfl rfl rfl Try.underlying99 Try.underlying160 (IntKind.wrap_u32 _) ?_
          simp only [Act.put, Act.eval, qn, qv, Nat.reduceAdd]
          refine rf_indexS (n := i + k) (sz := 1) (j := i + k) rfl rfl rfl rfl Try.underlying65 (by kernel_rfl) (by omega) (by omega) (by omega) ?_
          simp only [Act.put, Act.eval, qn, qv, Nat.reduceAdd]
          refine rf_storeU (i := i + k) (z := (dig (digs m.natAbs) i * dig (digs n.natAbs) k + dig ys (i + k) + cy) % 4294967296) rfl rfl (by (try simp only [List.length_set]); omega) (Rep.here _) (fun _ h => by cases h) ?_
          simp only [Act.put, Act.eval, qn, qv, Nat.reduceAdd]
          refine rg_nil ?_
          refine ek_next ?_
          refine wk_region [0, 0, 0] rfl (by kernel_rfl) ?_
          simp only [List.zip_cons_cons, List.zip_nil_right]
          refine rg_move ?_
          simp only [Act.put, Act.eval, qn, qv, Nat.reduceAdd]
          refine rf_shr (c := 32) (q := 4294967296) rfl rfl rfl rfl rfl (by decide) ?_
          simp only [Act.put, Act.eval, qn, qv, Nat.reduceAdd]
          refine rg_assign ?_
          simp only [Act.put, Act.eval, qn, qv, Nat.reduceAdd]
          refine rg_nil ?_
          refine ek_block ?_
          refine ek_next ?_
          refine wk_region [0, 0, 0] rfl (by kernel_rfl) ?_
          simp only [List.zip_cons_cons, List.zip_nil_right]
          refine rg_move ?_
          simp only [Act.put, Act.eval, qn, qv, Nat.reduceAdd]
          refine rf_add rfl rfl rfl rfl (wrap_ok (by omega) (by omega)) ?_
          simp only [Act.put, Act.eval, qn, qv, Nat.reduceAdd]
          refine rg_assign ?_
          simp only [Act.put, Act.eval, qn, qv, Nat.reduceAdd]
          refine rg_nil ?_
          have hst := mul_step (t := dig (digs m.natAbs) i * dig (digs n.natAbs) k + dig ys (i + k) + cy) (by omega) heq2.out rfl
          refine ek_roundF ((digs n.natAbs).length - (k + 1)) (by omega) (by kernel_rfl) ?_
          exact ⟨k + 1, (dig (digs m.natAbs) i * dig (digs n.natAbs) k + dig ys (i + k) + cy) / 4294967296, ys.set (i + k) ((dig (digs m.natAbs) i * dig (digs n.natAbs) k + dig ys (i + k) + cy) % 4294967296), rfl, rfl, rfl, rfl, by rfl, by rfl, (by omega), (by rw [List.length_set]; omega), (by rw [List.length_set]; omega), Dg.set hd3 _ (by omega) (by omega), (by omega), (by omega), hst, fun j hj => by rw [dig_set _ _ (by omega), if_neg (by omega)]; exact hd8 j hj⟩
    · (try simp only [decide_eq_true_eq, decide_eq_false_iff_not, Int.not_lt, Int.not_le, beq_iff_eq, beq_eq_false_iff_ne, bne_iff_ne, bne_eq_false_iff_eq, ne_eq, Bool.not_eq_true', Bool.not_eq_false'] at h2)
      simp only [Act.put, Act.eval, qn, qv, Nat.reduceAdd]
      refine rf_pick rfl rfl rfl ?_
      simp only [Act.put, Act.eval, qn, qv, Nat.reduceAdd]
      refine rg_nil ?_
      refine ek_next ?_
      refine wk_cond_t rfl ?_
      refine wk_seq ?_
      refine wk_region [0, 1] rfl (by kernel_rfl) ?_
      simp only [List.zip_cons_cons, List.zip_nil_right]
      refine rf_build (cs := fun a => #[.bool false, .slice none 0 0]) rfl rfl (by kernel_rfl) ?_
      simp only [Act.put, Act.eval, qn, qv, Nat.reduceAdd]
      refine rf_storeR (n := 2) rfl rfl (by kernel_rfl) rfl rfl (UpdR.here _ _ _ (Nat.le_of_ble_eq_true rfl)) (fun _ h => by cases h) ?_
      simp only [Act.put, Act.eval, qn, qv, Nat.reduceAdd]
      refine rg_nil ?_
      refine ek_next ?_
      refine wk_ret ?_
      refine ek_then_ret ?_
      refine ek_ret (fun w hw => ⟨rfl, _, run_results1 rfl rfl (Kn.hd0 hw) Try.underlying67 rfl (by kernel_rfl), ?_⟩)
      (try simp only [Act.put, Act.eval, qn, qv, Nat.reduceAdd])
      have h0 : m = 0 ∨ n = 0 := by (first | exact .inl (hlm.1 (by omega)) | exact .inr (hln.1 (by omega)))
      have e0 : m * n = 0 := by rcases h0 with h | h <;> rw [h] <;> simp
      exact ⟨_, [], rfl, ⟨.slice none 0 0, by unfold bgV; rw [e0]; rfl, by rw [e0]; exact SU.nil⟩, hw.made (List.nil_sublist _)⟩
  · (try simp only [decide_eq_true_eq, decide_eq_false_iff_not, Int.not_lt, Int.not_le, beq_iff_eq, beq_eq_false_iff_ne, bne_iff_ne, bne_eq_false_iff_eq, ne_eq, Bool.not_eq_true', Bool.not_eq_false'] at h1)
    simp only [Act.put, Act.eval, qn, qv, Nat.reduceAdd]
    refine rg_move ?_
    simp only [Act.put, Act.eval, qn, qv, Nat.reduceAdd]
    refine rg_skip (by rfl) ?_
    simp only [Act.put, Act.eval, qn, qv, Nat.reduceAdd]
    refine rg_skip (by rfl) ?_
    simp only [Act.put, Act.eval, qn, qv, Nat.reduceAdd]
    refine rg_skip (by rfl) ?_
    simp only [Act.put, Act.eval, qn, qv, Nat.reduceAdd]
    refine rg_skip (by rfl) ?_
    simp only [Act.put, Act.eval, qn, qv, Nat.reduceAdd]
    refine rf_pick rfl rfl rfl ?_
    simp only [Act.put, Act.eval, qn, qv, Nat.reduceAdd]
    refine rg_nil ?_
    refine ek_next ?_
    refine wk_cond_t rfl ?_
    refine wk_seq ?_
    refine wk_region [0, 1] rfl (by kernel_rfl) ?_
    simp only [List.zip_cons_cons, List.zip_nil_right]
    refine rf_build (cs := fun a => #[.bool false, .slice none 0 0]) rfl rfl (by kernel_rfl) ?_
    simp only [Act.put, Act.eval, qn, qv, Nat.reduceAdd]
    refine rf_storeR (n := 2) rfl rfl (by kernel_rfl) rfl rfl (UpdR.here _ _ _ (Nat.le_of_ble_eq_true rfl)) (fun _ h => by cases h) ?_
    simp only [Act.put, Act.eval, qn, qv, Nat.reduceAdd]
    refine rg_nil ?_
    refine ek_next ?_
    refine wk_ret ?_
    refine ek_then_ret ?_
    refine ek_ret (fun w hw => ⟨rfl, _, run_results1 rfl rfl (Kn.hd0 hw) Try.underlying67 rfl (by kernel_rfl), ?_⟩)
    (try simp only [Act.put, Act.eval, qn, qv, Nat.reduceAdd])
    have h0 : m = 0 ∨ n = 0 := by (first | exact .inl (hlm.1 (by omega)) | exact .inr (hln.1 (by omega)))
    have e0 : m * n = 0 := by rcases h0 with h | h <;> rw [h] <;> simp
    exact ⟨_, [], rfl, ⟨.slice none 0 0, by unfold bgV; rw [e0]; rfl, by rw [e0]; exact SU.nil⟩, hw.made (List.nil_sublist _)⟩

end Go.Proofs.Ytccbinnlnkpplaa
