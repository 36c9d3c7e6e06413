/- Numbers of any size: halves. -/
import Derived.Test.YtccbinnlnkpplaaBg4
namespace Go.Proofs.Ytccbinnlnkpplaa
set_option linter.all false
open Go.RowKit

theorem Dg_zero (n : Nat) : Dg (List.replicate n 0) := fun x hx => by rw [List.mem_replicate] at hx; omega
theorem half_step {xs zs : List Int} {i : Nat} {v : Int} (h : 2 * dval (zs.take i) + dig xs 0 % 2 = dval (xs.take i) + 4294967296 ^ i * (dig xs i % 2)) (hi : i < zs.length)
    (hv : 2 * v = dig xs i - dig xs i % 2 + 4294967296 * (dig xs (i + 1) % 2)) : 2 * dval ((zs.set i v).take (i + 1)) + dig xs 0 % 2 = dval (xs.take (i + 1)) + 4294967296 ^ (i + 1) * (dig xs (i + 1) % 2) := by
  rw [dval_take', dval_take', dig_set _ _ hi, if_pos rfl, pw_succ]
  have e : (zs.set i v).take i = zs.take i := by rw [List.take_set_of_le (Nat.le_refl _)]
  rw [e]
  have e2 : (4294967296 : Int) ^ i * (2 * v) = 4294967296 ^ i * dig xs i - 4294967296 ^ i * (dig xs i % 2) + 4294967296 ^ i * (4294967296 * (dig xs (i + 1) % 2)) := by rw [hv]; grind
  grind
set_option maxRecDepth 100000 in
set_option maxHeartbeats 1000000 in
theorem bhalf_any (n : Int) (s : Value) (hl : (digs n.natAbs).length ≤ 1000) (he : n % 2 = 0) (w : World) (hs : SA w s n.natAbs) : Calls Try.prog 101 #[bgV n s] w fun e w' => RetB w (n / 2) e w' := by
  obtain ⟨a, c, rfl, hA⟩ := hs
  go_enter Try.func101, Try.ntmps101
  refine wk_start ?_
  refine wk_seq ?_
  refine wk_region [1, 1] rfl (by kernel_rfl) ?_
  simp only [List.zip_cons_cons, List.zip_nil_right]
  refine rg_new (cs := ?_) (ty := ?_) (by rfl) (fun w => ?_) (fun _ h => by cases h) (fun g1 => ?_); rotate_left 2
  focus (go_simp; rfl)
  simp only [Act.put, Act.eval, qn, qv, Nat.reduceAdd]
  refine rg_new (cs := ?_) (ty := ?_) (by rfl) (fun w => ?_) (fun _ h => by cases h) (fun g2 => ?_); rotate_left 2
  focus (go_simp; rfl)
  simp only [Act.put, Act.eval, qn, qv, Nat.reduceAdd]
  refine rg_nil ?_
  refine ek_next ?_
  refine wk_seq ?_
  refine wk_region [0, 0, 0, 1, 0] rfl (by kernel_rfl) ?_
  simp only [List.zip_cons_cons, List.zip_nil_right]
  refine rf_field (n := 0) (j := 1) rfl rfl rfl Try.underlying67 rfl (by kernel_rfl) rfl ?_
  simp only [Act.put, Act.eval, qn, qv, Nat.reduceAdd]
  refine rf_load rfl rfl rfl Try.underlying65 rfl (fun w hw => (Kn.hd0 (Kn.tl hw)).at rfl) ?_
  simp only [Act.put, Act.eval, qn, qv, Nat.reduceAdd]
  refine rf_len rfl rfl rfl Try.underlying65 ?_
  simp only [Act.put, Act.eval, qn, qv, Nat.reduceAdd]
  refine rg_makeU (n := (digs n.natAbs).length) (by rfl) rfl rfl (by omega) (by omega) (fun _ h => by cases h) (fun g3 => ?_)
  simp only [Act.put, Act.eval, qn, qv, Nat.reduceAdd]
  refine rg_assign ?_
  simp only [Act.put, Act.eval, qn, qv, Nat.reduceAdd]
  refine rg_nil ?_
  refine ek_next ?_
  refine wk_seq ?_
  refine wk_seq ?_
  refine wk_region [0] rfl (by kernel_rfl) ?_
  simp only [List.zip_cons_cons, List.zip_nil_right]
  refine rg_assign ?_
  simp only [Act.put, Act.eval, qn, qv, Nat.reduceAdd]
  refine rg_nil ?_
  refine ek_next ?_
  refine wk_block ?_
  refine wk_loopF [4, 9, 10, 11, 12, 13, 14, 15, 16, 17, 18, 19, 20, 21, 22, 23, 24, 25, 26, 27, 28, 29, 30, 31, 32, 33, 34, 35, 36, 37, 38, 39, 40, 41, 42, 43, 44, 45] (fun mz f s => ∃ (i : Nat) (zs : List Int), f 3 = .slice (some ⟨g3, 0, none⟩) (digs n.natAbs).length (digs n.natAbs).length ∧ f 4 = .int .i64 i ∧ s = ((g3, .cells (us zs).toArray 160) :: ((g2, .cells #[.bool false, .slice none 0 0] 67) :: ((g1, .cells #[.bool (decide (n < 0)), .slice a (digs n.natAbs).length c] 67) :: []))) ∧ mz = (digs n.natAbs).length - i ∧ zs.length ≤ (digs n.natAbs).length ∧ (digs n.natAbs).length ≤ zs.length ∧ Dg zs ∧ 2 * dval (zs.take i) + dig (digs n.natAbs) 0 % 2 = dval ((digs n.natAbs).take i) + 4294967296 ^ i * (dig (digs n.natAbs) i % 2) ∧ i ≤ (digs n.natAbs).length) ((fun (i : Nat) (zs : List Int) => (digs n.natAbs).length - i) (0) ((List.replicate (digs n.natAbs).length 0))) ?_ (by kernel_rfl) ?_
  · exact ⟨0, (List.replicate (digs n.natAbs).length 0), rfl, rfl, rfl, rfl, by simp, by simp, Dg_zero _, by simp [dval], by omega⟩
  rintro mz f1 s ⟨i, zs, hs1_3, hs1_4, rfl, hn, hc1, hc2, hc3, hc4, hc5⟩
  simp only [Act.putF, List.foldl_cons, List.foldl_nil, hs1_3, hs1_4, Act.put, Act.eval, q1, q2, q3, q4, q5, q6, q7, q8, q9, q10, q11, q12, q13, q14, q15, q16, q17, q18, Nat.reduceAdd, Bool.not_true, Bool.not_false]
  clear hs1_3 hs1_4
  have heq := Lib.hid hc4
  clear hc4
  refine wk_seq ?_
  refine wk_seq ?_
  refine wk_region [0, 0, 0, 0, 0] rfl (by kernel_rfl) ?_
  simp only [List.zip_cons_cons, List.zip_nil_right]
  refine rg_move ?_
  simp only [Act.put, Act.eval, qn, qv, Nat.reduceAdd]
  refine rf_field (n := 0) (j := 1) rfl rfl rfl Try.underlying67 rfl (by kernel_rfl) rfl ?_
  simp only [Act.put, Act.eval, qn, qv, Nat.reduceAdd]
  refine rf_load rfl rfl rfl Try.underlying65 rfl (fun w hw => (Kn.hd0 (Kn.tl (Kn.tl hw))).at rfl) ?_
  simp only [Act.put, Act.eval, qn, qv, Nat.reduceAdd]
  refine rf_len rfl rfl rfl Try.underlying65 ?_
  simp only [Act.put, Act.eval, qn, qv, Nat.reduceAdd]
  refine rfb_lss rfl rfl rfl rfl ?_
  intro x h1
  cases x
  · (try simp only [decide_eq_true_eq, decide_eq_false_iff_not, Int.not_lt, Int.not_le, beq_iff_eq, beq_eq_false_iff_ne, bne_iff_ne, bne_eq_false_iff_eq, ne_eq, Bool.not_eq_true', Bool.not_eq_false'] at h1)
    simp only [Act.put, Act.eval, qn, qv, Nat.reduceAdd]
    refine rg_nil ?_
    refine ek_next ?_
    refine wk_cond_f rfl ?_
    refine wk_exit ?_
    refine ek_then_exit ?_
    refine ek_then_exit ?_
    refine ek_block_exit ?_
    refine ek_next ?_
    refine wk_seq ?_
    refine wk_draws_m (hz1 := (sc _ (sk _ (sc _ sn)))) [(0, 0), (1, 0), (2, 0), (3, 1), (4, 0), (5, 2)] 5 (by kernel_rfl) (by kernel_rfl) (fun c d v a w h => by cases d <;> exact h) ?_
    simp only [List.map_cons, List.map_nil, List.getD_cons_zero, List.getD_cons_succ]
    refine rf_field (n := 0) (j := 0) rfl rfl rfl Try.underlying67 rfl (by kernel_rfl) rfl ?_
    simp only [Act.put, Act.eval, qn, qv, Nat.reduceAdd]
    refine rf_load rfl rfl rfl Try.underlying4 rfl (fun w hw => (Kn.hd0 (Kn.tl (Kn.tl hw))).at rfl) ?_
    simp only [Act.put, Act.eval, qn, qv, Nat.reduceAdd]
    refine rg_move ?_
    simp only [Act.put, Act.eval, qn, qv, Nat.reduceAdd]
    have hO := OwnG.wholeU (g := g3) (zs := zs) (by omega)
    have hzl : zs.length = (digs n.natAbs).length := by omega
    rw [hzl] at hO
    apply (rg_or (X := fun v => ∃ m, m ≤ zs.length ∧ v = .slice (some ⟨g3, 0, none⟩) m (digs n.natAbs).length ∧ (∀ j, m ≤ j → dig zs j = 0) ∧ (m = 0 ∨ dig zs (m - 1) ≠ 0))) (by rfl) (by kernel_rfl)
    case hargs => (simp only [qm, qs, Act.eval]; exact rfl)
    case h => exact fun w hw => by have := trimmed_any zs (some ⟨g3, 0, none⟩) (digs n.natAbs).length hc3 (by omega) (by omega) w (hO.as' (Kn.sub (s' := [(g3, .cells (us zs).toArray 160)] ++ []) hw (sc _ (sk _ (sk _ sn))))); rw [hzl] at this; exact this.mono fun e w' ⟨m, h1, h2, h3, h4, h5⟩ => ⟨_, h2, ⟨m, hzl ▸ h1, rfl, h3, h4⟩, h5⟩
    case hz => exact (fun _ h => by cases h; exact (sc _ (sc _ (sc _ sn))))
    rintro v ⟨m, hm1, rfl, hm2, hm3⟩
    simp only [Act.put, Act.eval, qn, qv, Nat.reduceAdd]
    refine rf_build (cs := fun a => #[a.eval (.tmp 47), a.eval (.tmp 49)]) rfl rfl (by kernel_rfl) ?_
    simp only [Act.put, Act.eval, qn, qv, Nat.reduceAdd]
    refine rf_storeRM (n := 2) rfl rfl (by kernel_rfl) rfl rfl (UpdR.there _ (UpdR.here _ _ _ (Nat.le_of_ble_eq_true rfl))) (sc _ (sk _ (sc _ sn))) ?_
    simp only [Act.put, Act.eval, qn, qv, Nat.reduceAdd]
    refine rg_nil ?_
    refine ek_next ?_
    refine wk_ret ?_
    refine ek_ret (fun w hw => ⟨rfl, _, run_results1 rfl rfl (Kn.hd0 (Kn.tl hw)) Try.underlying67 rfl (by kernel_rfl), ?_⟩)
    (try simp only [Act.put, Act.eval, qn, qv, Nat.reduceAdd])
    have e1 : dval zs = (n / 2).natAbs := by
      have h1 := heq.out
      rw [List.take_of_length_le (by omega), List.take_of_length_le (by omega), dval_digs, dig_out (k := i) (by omega), digs_even] at h1
      have h3 := (dval_range hc3).1
      omega
    have e2 : (dval zs).toNat = (n / 2).natAbs := by omega
    have hS := SU.own hO m hm1 ((trim_eq hc3 hm1 hm2 hm3).trans (by rw [e2])) (a := some ⟨g3, 0, none⟩) (c := (digs n.natAbs).length) (by rw [hzl])
    refine ⟨_, _, rfl, ⟨.slice (some ⟨g3, 0, none⟩) m (digs n.natAbs).length, ?_, hS⟩, hw.made (sc _ (sk _ (sk _ sn)))⟩
    unfold bgV
    rw [show decide (n / 2 < 0) = decide (n < 0) from decide_eq_decide.2 (by omega)]
  · (try simp only [decide_eq_true_eq, decide_eq_false_iff_not, Int.not_lt, Int.not_le, beq_iff_eq, beq_eq_false_iff_ne, bne_iff_ne, bne_eq_false_iff_eq, ne_eq, Bool.not_eq_true', Bool.not_eq_false'] at h1)
    simp only [Act.put, Act.eval, qn, qv, Nat.reduceAdd]
    have hpos : 0 < (digs n.natAbs).length := by omega
    obtain ⟨b, off, rfl, hlt, hcell⟩ := AS.openU hA hpos
    have hdi := (digs_dg n.natAbs).at i
    have hdi1 := (digs_dg n.natAbs).at (i + 1)
    refine rg_nil ?_
    refine ek_next ?_
    refine wk_cond_t rfl ?_
    refine wk_skip ?_
    refine ek_next ?_
    refine wk_seq ?_
    refine wk_block ?_
    refine wk_seq ?_
    refine wk_region [0, 0, 0, 0, 0, 0, 0, 0, 0, 1] rfl (by kernel_rfl) ?_
    simp only [List.zip_cons_cons, List.zip_nil_right]
    refine rg_move ?_
    simp only [Act.put, Act.eval, qn, qv, Nat.reduceAdd]
    refine rg_move ?_
    simp only [Act.put, Act.eval, qn, qv, Nat.reduceAdd]
    refine rf_field (n := 0) (j := 1) rfl rfl rfl Try.underlying67 rfl (by kernel_rfl) rfl ?_
    simp only [Act.put, Act.eval, qn, qv, Nat.reduceAdd]
    refine rf_load rfl rfl rfl Try.underlying65 rfl (fun w hw => (Kn.hd0 (Kn.tl (Kn.tl hw))).at rfl) ?_
    simp only [Act.put, Act.eval, qn, qv, Nat.reduceAdd]
    refine rg_move ?_
    simp only [Act.put, Act.eval, qn, qv, Nat.reduceAdd]
    refine rf_indexS (n := i) (sz := 1) (j := off + i * 1) rfl rfl rfl rfl Try.underlying65 (by kernel_rfl) (by omega) (by omega) rfl ?_
    simp only [Act.put, Act.eval, qn, qv, Nat.reduceAdd]
    refine rf_load rfl rfl rfl Try.underlying160 rfl (fun w hw => (by have := (Kn.cellB hw hlt (by simp) (off + i)).trans (hcell i (by omega)); simpa using this)) ?_
    simp only [Act.put, Act.eval, qn, qv, Nat.reduceAdd]
    refine rf_shr (c := 1) (q := 2) rfl rfl rfl rfl rfl (by decide) ?_
    simp only [Act.put, Act.eval, qn, qv, Nat.reduceAdd]
    refine rf_indexS (n := i) (sz := 1) (j := i) rfl rfl rfl rfl Try.underlying65 (by kernel_rfl) (by omega) (by omega) (by omega) ?_
    simp only [Act.put, Act.eval, qn, qv, Nat.reduceAdd]
    refine rf_storeU (i := i) (z := dig (digs n.natAbs) i / 2) rfl rfl (by (try simp only [List.length_set]); omega) (Rep.here _) (fun _ h => by cases h) ?_
    simp only [Act.put, Act.eval, qn, qv, Nat.reduceAdd]
    refine rg_nil ?_
    refine ek_next ?_
    refine wk_seq ?_
    refine wk_region [0, 0, 0, 0, 0, 0] rfl (by kernel_rfl) ?_
    simp only [List.zip_cons_cons, List.zip_nil_right]
    refine rg_move ?_
    simp only [Act.put, Act.eval, qn, qv, Nat.reduceAdd]
    refine rf_add rfl rfl rfl rfl (wrap_ok (by omega) (by omega)) ?_
    simp only [Act.put, Act.eval, qn, qv, Nat.reduceAdd]
    refine rf_field (n := 0) (j := 1) rfl rfl rfl Try.underlying67 rfl (by kernel_rfl) rfl ?_
    simp only [Act.put, Act.eval, qn, qv, Nat.reduceAdd]
    refine rf_load rfl rfl rfl Try.underlying65 rfl (fun w hw => (Kn.hd0 (Kn.tl (Kn.tl hw))).at rfl) ?_
    simp only [Act.put, Act.eval, qn, qv, Nat.reduceAdd]
    refine rf_len rfl rfl rfl Try.underlying65 ?_
    simp only [Act.put, Act.eval, qn, qv, Nat.reduceAdd]
    refine rfb_lss rfl rfl rfl rfl ?_
    intro x h2
    cases x
    · (try simp only [decide_eq_true_eq, decide_eq_false_iff_not, Int.not_lt, Int.not_le, beq_iff_eq, beq_eq_false_iff_ne, bne_iff_ne, bne_eq_false_iff_eq, ne_eq, Bool.not_eq_true', Bool.not_eq_false'] at h2)
      simp only [Act.put, Act.eval, qn, qv, Nat.reduceAdd]
      refine rg_nil ?_
      refine ek_next ?_
      refine wk_cond_f rfl ?_
      refine wk_skip ?_
      refine ek_block ?_
      refine ek_next ?_
      refine wk_region [0, 0, 0] rfl (by kernel_rfl) ?_
      simp only [List.zip_cons_cons, List.zip_nil_right]
      refine rg_move ?_
      simp only [Act.put, Act.eval, qn, qv, Nat.reduceAdd]
      refine rf_add rfl rfl rfl rfl (wrap_ok (by omega) (by omega)) ?_
      simp only [Act.put, Act.eval, qn, qv, Nat.reduceAdd]
      refine rg_assign ?_
      simp only [Act.put, Act.eval, qn, qv, Nat.reduceAdd]
      refine rg_nil ?_
      have hx1 := dig_out (xs := (digs n.natAbs)) (k := i + 1) (by omega)
      have hst := half_step (xs := (digs n.natAbs)) (zs := zs) (i := i) (v := dig (digs n.natAbs) i / 2) heq.out (by omega) (by omega)
      refine ek_roundF ((digs n.natAbs).length - (i + 1)) (by omega) (by kernel_rfl) ?_
      exact ⟨i + 1, zs.set i (dig (digs n.natAbs) i / 2), rfl, rfl, (by rfl), by rfl, (by rw [List.length_set]; exact hc1), (by rw [List.length_set]; exact hc2), Dg.set hc3 i (by omega) (by omega), hst, (by omega)⟩
    · (try simp only [decide_eq_true_eq, decide_eq_false_iff_not, Int.not_lt, Int.not_le, beq_iff_eq, beq_eq_false_iff_ne, bne_iff_ne, bne_eq_false_iff_eq, ne_eq, Bool.not_eq_true', Bool.not_eq_false'] at h2)
      simp only [Act.put, Act.eval, qn, qv, Nat.reduceAdd]
      have hset : dig (zs.set i (dig (digs n.natAbs) i / 2)) i = dig (digs n.natAbs) i / 2 := by rw [dig_set _ _ (by omega), if_pos rfl]
      have hor := or_u32 (x := dig (digs n.natAbs) i / 2) (y := dig (digs n.natAbs) (i + 1) * 2147483648 % 4294967296) (by omega) (by omega) (by omega)
      refine rg_nil ?_
      refine ek_next ?_
      refine wk_cond_t rfl ?_
      refine wk_draws_m (hz1 := (sk _ (sc _ (sc _ sn)))) [(0, 0), (1, 0), (2, 0), (3, 0), (4, 0), (5, 0), (6, 0), (7, 0), (8, 0), (9, 0), (10, 0), (11, 0), (12, 0), (13, 0), (14, 0), (15, 2)] 15 (by kernel_rfl) (by kernel_rfl) (fun c d v a w h => by cases d <;> exact h) ?_
      simp only [List.map_cons, List.map_nil, List.getD_cons_zero, List.getD_cons_succ]
      refine rg_move ?_
      simp only [Act.put, Act.eval, qn, qv, Nat.reduceAdd]
      refine rg_move ?_
      simp only [Act.put, Act.eval, qn, qv, Nat.reduceAdd]
      refine rg_move ?_
      simp only [Act.put, Act.eval, qn, qv, Nat.reduceAdd]
      refine rg_move ?_
      simp only [Act.put, Act.eval, qn, qv, Nat.reduceAdd]
      refine rf_indexS (n := i) (sz := 1) (j := i) rfl rfl rfl rfl Try.underlying65 (by kernel_rfl) (by omega) (by omega) (by omega) ?_
      simp only [Act.put, Act.eval, qn, qv, Nat.reduceAdd]
      refine rf_load rfl rfl rfl Try.underlying160 rfl (fun w hw => (Kn.hd0 hw).at (us_getA _ _ (by (try simp only [List.length_set]); omega))) ?_
      simp only [Act.put, Act.eval, qn, qv, Nat.reduceAdd]
      refine rf_field (n := 0) (j := 1) rfl rfl rfl Try.underlying67 rfl (by kernel_rfl) rfl ?_
      simp only [Act.put, Act.eval, qn, qv, Nat.reduceAdd]
      refine rf_load rfl rfl rfl Try.underlying65 rfl (fun w hw => (Kn.hd0 (Kn.tl (Kn.tl hw))).at rfl) ?_
      simp only [Act.put, Act.eval, qn, qv, Nat.reduceAdd]
      refine rg_move ?_
      simp only [Act.put, Act.eval, qn, qv, Nat.reduceAdd]
      refine rf_add rfl rfl rfl rfl (wrap_ok (by omega) (by omega)) ?_
      simp only [Act.put, Act.eval, qn, qv, Nat.reduceAdd]
      refine rf_indexS (n := i + 1) (sz := 1) (j := off + (i + 1) * 1) rfl rfl rfl rfl Try.underlying65 (by kernel_rfl) (by omega) (by omega) rfl ?_
      simp only [Act.put, Act.eval, qn, qv, Nat.reduceAdd]
      refine rf_load rfl rfl rfl Try.underlying160 rfl (fun w hw => (by have := (Kn.cellB hw hlt (by simp) (off + (i + 1))).trans (hcell (i + 1) (by omega)); simpa using this)) ?_
      simp only [Act.put, Act.eval, qn, qv, Nat.reduceAdd]
      refine rf_shl (c := 31) (q := 2147483648) rfl rfl rfl rfl rfl (by decide) (IntKind.wrap_u32 _) ?_
      simp only [Act.put, Act.eval, qn, qv, Nat.reduceAdd]
      apply rg_soft
      case hy => (intro w hw; go_simp; (try go_bits); exact Yld.mk _ _)
      simp only [Act.put, Act.eval, qn, qv, Nat.reduceAdd]
      refine rf_indexS (n := i) (sz := 1) (j := i) rfl rfl rfl rfl Try.underlying65 (by kernel_rfl) (by omega) (by omega) (by omega) ?_
      simp only [Act.put, Act.eval, qn, qv, Nat.reduceAdd]
      refine rf_storeUM (i := i) (z := dig (digs n.natAbs) i / 2 + dig (digs n.natAbs) (i + 1) * 2147483648 % 4294967296) rfl rfl (by (try simp only [List.length_set]); omega) (Rep.here _) (sk _ (sc _ (sc _ sn))) ?_
      simp only [Act.put, Act.eval, qn, qv, Nat.reduceAdd]
      refine rg_nil ?_
      refine ek_block ?_
      refine ek_next ?_
      refine wk_region [0, 0, 0] rfl (by kernel_rfl) ?_
      simp only [List.zip_cons_cons, List.zip_nil_right]
      refine rg_move ?_
      simp only [Act.put, Act.eval, qn, qv, Nat.reduceAdd]
      refine rf_add rfl rfl rfl rfl (wrap_ok (by omega) (by omega)) ?_
      simp only [Act.put, Act.eval, qn, qv, Nat.reduceAdd]
      refine rg_assign ?_
      simp only [Act.put, Act.eval, qn, qv, Nat.reduceAdd]
      refine rg_nil ?_
      have hst := half_step (xs := (digs n.natAbs)) (zs := zs) (i := i) (v := dig (digs n.natAbs) i / 2 + dig (digs n.natAbs) (i + 1) * 2147483648 % 4294967296) heq.out (by omega) (by omega)
      refine ek_roundF ((digs n.natAbs).length - (i + 1)) (by omega) (by kernel_rfl) ?_
      exact ⟨i + 1, zs.set i (dig (digs n.natAbs) i / 2 + dig (digs n.natAbs) (i + 1) * 2147483648 % 4294967296), rfl, rfl, (by rw [List.set_set]), by rfl, (by rw [List.length_set]; exact hc1), (by rw [List.length_set]; exact hc2), Dg.set hc3 i (by omega) (by omega), hst, (by omega)⟩

end Go.Proofs.Ytccbinnlnkpplaa
