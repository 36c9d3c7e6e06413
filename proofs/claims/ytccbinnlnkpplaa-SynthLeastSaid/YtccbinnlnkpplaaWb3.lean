/- Exact amplitudes of any size: products. -/
import Derived.Test.YtccbinnlnkpplaaWt
namespace Go.Proofs.Ytccbinnlnkpplaa
set_option linter.all false
open Go.RowKit

set_option maxRecDepth 100000 in
set_option maxHeartbeats 1000000 in
theorem wtimes_core (X Y : Nat → Int) (xa ya : Nat → Option Addr) (xc yc : Nat → Nat) (xk yk : Int) (lX : ∀ m, m < 4 → (digs (X m).natAbs).length ≤ 1000) (lY : ∀ m, m < 4 → (digs (Y m).natAbs).length ≤ 1000) (hP : ∀ i k, i < 4 → k < 4 → -1231312693637327475383720003129487931408741852202045208373384168882678805359287831606695820465153613775207124697088 ≤ X i * Y k ∧ X i * Y k ≤ 1231312693637327475383720003129487931408741852202045208373384168882678805359287831606695820465153613775207124697088) (hk : 0 ≤ xk) (hk1 : xk ≤ 10000) (hk2 : 0 ≤ yk) (hk3 : yk ≤ 10000) (w : World) (hX : ∀ m, m < 4 → SA w (slD X xa xc m) (X m).natAbs) (hY : ∀ m, m < 4 → SA w (slD Y ya yc m) (Y m).natAbs) : Calls Try.prog 117 #[.agg (wdC X xa xc xk), .agg (wdC Y ya yc yk)] w fun e w' => RetT w (acc X Y 16) (xk + yk) e w' := by
  go_enter Try.func117, Try.ntmps117
  refine wk_start ?_
  refine wk_seq ?_
  refine wk_region [1, 1, 1] rfl (by kernel_rfl) ?_
  simp only [List.zip_cons_cons, List.zip_nil_right]
  refine rg_new (cs := ?_) (ty := ?_) (by rfl) (fun w => ?_) (fun _ h => by cases h) (fun g1 => ?_); rotate_left 2
  focus (go_simp; rfl)
  simp only [Act.put, Act.eval, qn, qv, Nat.reduceAdd]
  refine rg_new (cs := ?_) (ty := ?_) (by rfl) (fun w => ?_) (fun _ h => by cases h) (fun g2 => ?_); rotate_left 2
  focus (go_simp; rfl)
  simp only [Act.put, Act.eval, qn, qv, Nat.reduceAdd]
  refine rg_new (cs := ?_) (ty := ?_) (by rfl) (fun w => ?_) (fun _ h => by cases h) (fun g3 => ?_); rotate_left 2
  focus (go_simp; rfl)
  simp only [Act.put, Act.eval, qn, qv, Nat.reduceAdd]
  refine rg_nil ?_
  refine ek_next ?_
  refine wk_seq ?_
  refine wk_region [0, 0, 0, 0, 0, 0, 1, 1] rfl (by kernel_rfl) ?_
  simp only [List.zip_cons_cons, List.zip_nil_right]
  refine rf_field (n := 0) (j := 8) rfl rfl rfl Try.underlying70 rfl (by kernel_rfl) rfl ?_
  simp only [Act.put, Act.eval, qn, qv, Nat.reduceAdd]
  refine rf_load rfl rfl rfl Try.underlying3 rfl (fun w hw => (Kn.hd0 (Kn.tl (Kn.tl hw))).at rfl) ?_
  simp only [Act.put, Act.eval, qn, qv, Nat.reduceAdd]
  refine rf_field (n := 0) (j := 8) rfl rfl rfl Try.underlying70 rfl (by kernel_rfl) rfl ?_
  simp only [Act.put, Act.eval, qn, qv, Nat.reduceAdd]
  refine rf_load rfl rfl rfl Try.underlying3 rfl (fun w hw => (Kn.hd0 (Kn.tl hw)).at rfl) ?_
  simp only [Act.put, Act.eval, qn, qv, Nat.reduceAdd]
  refine rf_add rfl rfl rfl rfl (wrap_ok (by omega) (by omega)) ?_
  simp only [Act.put, Act.eval, qn, qv, Nat.reduceAdd]
  refine rf_build (cs := fun a => #[.bool false, .slice none 0 0, .bool false, .slice none 0 0, .bool false, .slice none 0 0, .bool false, .slice none 0 0, a.eval (.tmp 13)]) rfl rfl (by kernel_rfl) ?_
  simp only [Act.put, Act.eval, qn, qv, Nat.reduceAdd]
  refine rg_new (cs := ?_) (ty := ?_) (by rfl) (fun w => ?_) (fun _ h => by cases h) (fun g4 => ?_); rotate_left 2
  focus (go_simp; rfl)
  simp only [Act.put, Act.eval, qn, qv, Nat.reduceAdd]
  refine rf_storeR (n := 9) rfl rfl (by kernel_rfl) rfl rfl (UpdR.here _ _ _ (Nat.le_of_ble_eq_true rfl)) (fun _ h => by cases h) ?_
  simp only [Act.put, Act.eval, qn, qv, Nat.reduceAdd]
  refine rg_nil ?_
  refine ek_next ?_
  refine wk_seq ?_
  refine wk_seq ?_
  rw [wd_zero (xk + yk)]
  refine wk_region [0] rfl (by kernel_rfl) ?_
  simp only [List.zip_cons_cons, List.zip_nil_right]
  refine rg_assign ?_
  simp only [Act.put, Act.eval, qn, qv, Nat.reduceAdd]
  refine rg_nil ?_
  refine ek_next ?_
  refine wk_block ?_
  refine wk_loopF [6, 7, 8, 15, 16, 17, 18, 19, 20, 21, 22, 23, 24, 25, 26, 27, 28, 29, 30, 31, 32, 33, 34, 35, 36, 37, 38, 39, 40, 41, 42, 43, 44, 45, 46, 47, 48, 49, 50, 51, 52] (fun mz f s => ∃ (i : Nat) (T : Nat → Int) (da : Nat → Option Addr) (dc : Nat → Nat) (u : List Blk), f 6 = .int .i64 i ∧ s = (u ++ ((g4, .cells (wdC T da dc (xk + yk)) 70) :: ((g3, .cells #[.bool false, .slice none 0 0, .bool false, .slice none 0 0, .bool false, .slice none 0 0, .bool false, .slice none 0 0, .int .i64 0] 70) :: ((g2, .cells (wdC Y ya yc yk) 70) :: ((g1, .cells (wdC X xa xc xk) 70) :: []))))) ∧ mz = 4 - i ∧ i ≤ 4 ∧ Hid (acc X Y (i * 4) = T) ∧ (∀ m, m < 4 → SU u (slD T da dc m) (T m).natAbs)) ((fun (i : Nat) (T : Nat → Int) (da : Nat → Option Addr) (dc : Nat → Nat) (u : List Blk) => 4 - i) (0) (fun _ => 0) (fun _ => none) (fun _ => 0) ([])) ?_ (by kernel_rfl) ?_
  · exact ⟨0, fun _ => 0, fun _ => none, fun _ => 0, [], rfl, rfl, rfl, by omega, (Lib.hid rfl), (fun m _ => by unfold slD; simp only [Int.natAbs_zero, digs_zero]; exact SU.nil)⟩
  rintro mz f1 s ⟨i, T, da, dc, u, hs1_6, rfl, hn, hd1, hd2, hd3⟩
  simp only [Act.putF, List.foldl_cons, List.foldl_nil, hs1_6, Act.put, Act.eval, q1, q2, q3, q4, q5, q6, q7, q8, q9, q10, q11, q12, q13, q14, q15, q16, q17, q18, Nat.reduceAdd, Bool.not_true, Bool.not_false]
  clear hs1_6
  have hac := hd2
  have hsu := hd3
  clear hd2 hd3
  refine wk_seq ?_
  refine wk_seq ?_
  refine wk_region [0, 0] rfl (by kernel_rfl) ?_
  simp only [List.zip_cons_cons, List.zip_nil_right]
  refine rg_move ?_
  simp only [Act.put, Act.eval, qn, qv, Nat.reduceAdd]
  refine rfb_lss rfl rfl rfl rfl ?_
  intro x h1
  cases x
  · (try simp only [decide_eq_true_eq, decide_eq_false_iff_not, Int.not_lt, Int.not_le, beq_iff_eq, beq_eq_false_iff_ne, bne_iff_ne, bne_eq_false_iff_eq, ne_eq, Bool.not_eq_true', Bool.not_eq_false'] at h1)
    simp only [Act.put, Act.eval, qn, qv, Nat.reduceAdd]
    refine rg_nil ?_
    refine ek_next ?_
    refine wk_cond_f rfl ?_
    refine wk_exit ?_
    refine ek_then_exit ?_
    refine ek_then_exit ?_
    refine ek_block_exit ?_
    refine ek_next ?_
    refine wk_seq ?_
    refine wk_region [0, 1] rfl (by kernel_rfl) ?_
    simp only [List.zip_cons_cons, List.zip_nil_right]
    refine rf_loadC (n := 9) (vs := [.bool (decide (T 0 < 0)), slD T da dc 0, .bool (decide (T 1 < 0)), slD T da dc 1, .bool (decide (T 2 < 0)), slD T da dc 2, .bool (decide (T 3 < 0)), slD T da dc 3, .int .i64 (xk + yk)]) rfl rfl rfl Try.underlying70 rfl (by kernel_rfl) rfl (fun w hw => wd_all (Kn.hd0 (Kn.tlU hw))) ?_
    simp only [Act.put, Act.eval, qn, qv, Nat.reduceAdd]
    refine rf_storeR (n := 9) rfl rfl (by kernel_rfl) rfl rfl (UpdR.app _ (UpdR.there _ (UpdR.here _ _ _ (Nat.le_of_ble_eq_true rfl)))) (fun _ h => by cases h) ?_
    simp only [Act.put, Act.eval, qn, qv, Nat.reduceAdd]
    refine rg_nil ?_
    refine ek_next ?_
    refine wk_ret ?_
    refine ek_ret (fun w hw => ⟨rfl, _, run_results1 rfl rfl (Kn.hd0 (Kn.tl (Kn.tlU hw))) Try.underlying70 rfl (by kernel_rfl), ?_⟩)
    (try simp only [Act.put, Act.eval, qn, qv, Nat.reduceAdd])
    obtain rfl : i = 4 := by omega
    exact ⟨_, u, rfl, ⟨da, dc, by rw [show acc X Y 16 = T from hac.out]; rfl, by rw [show acc X Y 16 = T from hac.out]; exact hsu⟩, hw.made (List.sublist_append_left _ _)⟩
  · (try simp only [decide_eq_true_eq, decide_eq_false_iff_not, Int.not_lt, Int.not_le, beq_iff_eq, beq_eq_false_iff_ne, bne_iff_ne, bne_eq_false_iff_eq, ne_eq, Bool.not_eq_true', Bool.not_eq_false'] at h1)
    simp only [Act.put, Act.eval, qn, qv, Nat.reduceAdd]
    refine rg_nil ?_
    refine ek_next ?_
    refine wk_cond_t rfl ?_
    refine wk_skip ?_
    refine ek_next ?_
    refine wk_seq ?_
    refine wk_block ?_
    refine wk_seq ?_
    refine wk_region [0] rfl (by kernel_rfl) ?_
    simp only [List.zip_cons_cons, List.zip_nil_right]
    refine rg_assign ?_
    simp only [Act.put, Act.eval, qn, qv, Nat.reduceAdd]
    refine rg_nil ?_
    refine ek_next ?_
    refine wk_block ?_
    refine wk_loopF [7, 8, 19, 20, 21, 22, 23, 24, 25, 26, 27, 28, 29, 30, 31, 32, 33, 34, 35, 36, 37, 38, 39, 40, 41, 42, 43, 44, 45, 46, 47, 48, 49, 50, 51, 52] (fun mz f s => ∃ (k : Nat) (T2 : Nat → Int) (da2 : Nat → Option Addr) (dc2 : Nat → Nat) (u2 : List Blk), f 7 = .int .i64 k ∧ s = (u2 ++ ((g4, .cells (wdC T2 da2 dc2 (xk + yk)) 70) :: ((g3, .cells #[.bool false, .slice none 0 0, .bool false, .slice none 0 0, .bool false, .slice none 0 0, .bool false, .slice none 0 0, .int .i64 0] 70) :: ((g2, .cells (wdC Y ya yc yk) 70) :: ((g1, .cells (wdC X xa xc xk) 70) :: []))))) ∧ mz = 4 - k ∧ k ≤ 4 ∧ Hid (acc X Y (i * 4 + k) = T2) ∧ (∀ m, m < 4 → SU u2 (slD T2 da2 dc2 m) (T2 m).natAbs)) ((fun (k : Nat) (T2 : Nat → Int) (da2 : Nat → Option Addr) (dc2 : Nat → Nat) (u2 : List Blk) => 4 - k) (0) (T) (da) (dc) (u)) ?_ (by kernel_rfl) ?_
    · exact ⟨0, T, da, dc, u, rfl, rfl, rfl, by omega, hac, hsu⟩
    rintro mz f2 s ⟨k, T2, da2, dc2, u2, hs2_7, rfl, hn, he1, he2, he3⟩
    simp only [Act.putF, List.foldl_cons, List.foldl_nil, hs2_7, Act.put, Act.eval, q1, q2, q3, q4, q5, q6, q7, q8, q9, q10, q11, q12, q13, q14, q15, q16, q17, q18, Nat.reduceAdd, Bool.not_true, Bool.not_false]
    clear hs2_7
    have hac2 := he2
    have hsu2 := he3
    clear he2 he3
    refine wk_seq ?_
    refine wk_seq ?_
    refine wk_region [0, 0] rfl (by kernel_rfl) ?_
    simp only [List.zip_cons_cons, List.zip_nil_right]
    refine rg_move ?_
    simp only [Act.put, Act.eval, qn, qv, Nat.reduceAdd]
    refine rfb_lss rfl rfl rfl rfl ?_
    intro x h2
    cases x
    · (try simp only [decide_eq_true_eq, decide_eq_false_iff_not, Int.not_lt, Int.not_le, beq_iff_eq, beq_eq_false_iff_ne, bne_iff_ne, bne_eq_false_iff_eq, ne_eq, Bool.not_eq_true', Bool.not_eq_false'] at h2)
      simp only [Act.put, Act.eval, qn, qv, Nat.reduceAdd]
      refine rg_nil ?_
      refine ek_next ?_
      refine wk_cond_f rfl ?_
      refine wk_exit ?_
      refine ek_then_exit ?_
      refine ek_then_exit ?_
      refine ek_block_exit ?_
      refine ek_block ?_
      refine ek_next ?_
      refine wk_region [0, 0, 0] rfl (by kernel_rfl) ?_
      simp only [List.zip_cons_cons, List.zip_nil_right]
      refine rg_move ?_
      simp only [Act.put, Act.eval, qn, qv, Nat.reduceAdd]
      refine rf_add rfl rfl rfl rfl (wrap_ok (by omega) (by omega)) ?_
      simp only [Act.put, Act.eval, qn, qv, Nat.reduceAdd]
      refine rg_assign ?_
      simp only [Act.put, Act.eval, qn, qv, Nat.reduceAdd]
      refine rg_nil ?_
      obtain rfl : k = 4 := by omega
      have hac' : acc X Y ((i + 1) * 4) = T2 := by rw [← hac2.out]; congr 1; omega
      refine ek_roundF (4 - (i + 1)) (by omega) (by kernel_rfl) ?_
      exact ⟨i + 1, T2, da2, dc2, u2, rfl, by rfl, by rfl, (by omega), (Lib.hid hac'), hsu2⟩
    · (try simp only [decide_eq_true_eq, decide_eq_false_iff_not, Int.not_lt, Int.not_le, beq_iff_eq, beq_eq_false_iff_ne, bne_iff_ne, bne_eq_false_iff_eq, ne_eq, Bool.not_eq_true', Bool.not_eq_false'] at h2)
      simp only [Act.put, Act.eval, qn, qv, Nat.reduceAdd]
      refine rg_nil ?_
      refine ek_next ?_
      refine wk_cond_t rfl ?_
      refine wk_skip ?_
      refine ek_next ?_
      refine wk_seq ?_
      refine wk_block ?_
      refine wk_cutF [8, 23, 24, 25, 26, 27, 28, 29, 30, 31] (fun f s => ∃ (gp : Nat) (uq : List Blk) (pa : Option Addr) (pc : Nat), f 8 = .pointer (some ⟨gp, 0, none⟩) ∧ s = ((gp, .cells #[.bool (decide (X i * Y k < 0)), .slice pa (digs (X i * Y k).natAbs).length pc] 67) :: (uq ++ (u2 ++ ((g4, .cells (wdC T2 da2 dc2 (xk + yk)) 70) :: ((g3, .cells #[.bool false, .slice none 0 0, .bool false, .slice none 0 0, .bool false, .slice none 0 0, .bool false, .slice none 0 0, .int .i64 0] 70) :: ((g2, .cells (wdC Y ya yc yk) 70) :: ((g1, .cells (wdC X xa xc xk) 70) :: []))))))) ∧ SU uq (.slice pa (digs (X i * Y k).natAbs).length pc) (X i * Y k).natAbs) ?_ ?_
      · refine wk_rt _ (by kernel_rfl) (List.Sublist.append_left (sc _ (sc _ (sc _ (sc _ sn)))) _) ?_
        refine rt_soft (i := 0) rfl (by kernel_rfl) (fun c d v a w h => by cases d <;> exact h) (List.Sublist.append_left (sc _ (sc _ (sc _ (sc _ sn)))) _) ?_
        refine rg_move ?_
        simp only [Act.put, Act.eval, qn, qv, Nat.reduceAdd]
        refine rg_nil ?_
        refine ek_rt (List.Sublist.append_left (sc _ (sc _ (sc _ (sc _ sn)))) _) ?_
        refine rt_soft (i := 1) rfl (by kernel_rfl) (fun c d v a w h => by cases d <;> exact h) (List.Sublist.append_left (sc _ (sc _ (sc _ (sc _ sn)))) _) ?_
        refine rf_field (n := 7) (j := 0) rfl rfl rfl Try.underlying70 rfl (by kernel_rfl) rfl ?_
        simp only [Act.put, Act.eval, qn, qv, Nat.reduceAdd]
        refine rg_nil ?_
        refine ek_rt (List.Sublist.append_left (sc _ (sc _ (sc _ (sc _ sn)))) _) ?_
        refine rt_soft (i := 2) rfl (by kernel_rfl) (fun c d v a w h => by cases d <;> exact h) (List.Sublist.append_left (sc _ (sc _ (sc _ (sc _ sn)))) _) ?_
        refine rf_indexA (n := i) (sz := 2) (j := 0 + i * 2) rfl rfl rfl rfl Try.underlying68 (by kernel_rfl) (by omega) rfl ?_
        simp only [Act.put, Act.eval, qn, qv, Nat.reduceAdd]
        refine rg_nil ?_
        refine ek_rt (List.Sublist.append_left (sc _ (sc _ (sc _ (sc _ sn)))) _) ?_
        refine rt_soft (i := 3) rfl (by kernel_rfl) (fun c d v a w h => by cases d <;> exact h) (List.Sublist.append_left (sc _ (sc _ (sc _ (sc _ sn)))) _) ?_
        refine rf_loadC (n := 2) (vs := [.bool (decide (X (i) < 0)), slD X xa xc (i)]) rfl rfl rfl Try.underlying67 rfl (by kernel_rfl) rfl (fun w hw => wd_row (Kn.hd0 (Kn.tl (Kn.tl (Kn.tl (Kn.tlU hw))))) (by omega)) ?_
        simp only [Act.put, Act.eval, qn, qv, Nat.reduceAdd]
        refine rg_nil ?_
        refine ek_rt (List.Sublist.append_left (sc _ (sc _ (sc _ (sc _ sn)))) _) ?_
        refine rt_soft (i := 4) rfl (by kernel_rfl) (fun c d v a w h => by cases d <;> exact h) (List.Sublist.append_left (sc _ (sc _ (sc _ (sc _ sn)))) _) ?_
        refine rg_move ?_
        simp only [Act.put, Act.eval, qn, qv, Nat.reduceAdd]
        refine rg_nil ?_
        refine ek_rt (List.Sublist.append_left (sc _ (sc _ (sc _ (sc _ sn)))) _) ?_
        refine rt_soft (i := 5) rfl (by kernel_rfl) (fun c d v a w h => by cases d <;> exact h) (List.Sublist.append_left (sc _ (sc _ (sc _ (sc _ sn)))) _) ?_
        refine rf_field (n := 7) (j := 0) rfl rfl rfl Try.underlying70 rfl (by kernel_rfl) rfl ?_
        simp only [Act.put, Act.eval, qn, qv, Nat.reduceAdd]
        refine rg_nil ?_
        refine ek_rt (List.Sublist.append_left (sc _ (sc _ (sc _ (sc _ sn)))) _) ?_
        refine rt_soft (i := 6) rfl (by kernel_rfl) (fun c d v a w h => by cases d <;> exact h) (List.Sublist.append_left (sc _ (sc _ (sc _ (sc _ sn)))) _) ?_
        refine rf_indexA (n := k) (sz := 2) (j := 0 + k * 2) rfl rfl rfl rfl Try.underlying68 (by kernel_rfl) (by omega) rfl ?_
        simp only [Act.put, Act.eval, qn, qv, Nat.reduceAdd]
        refine rg_nil ?_
        refine ek_rt (List.Sublist.append_left (sc _ (sc _ (sc _ (sc _ sn)))) _) ?_
        refine rt_soft (i := 7) rfl (by kernel_rfl) (fun c d v a w h => by cases d <;> exact h) (List.Sublist.append_left (sc _ (sc _ (sc _ (sc _ sn)))) _) ?_
        refine rf_loadC (n := 2) (vs := [.bool (decide (Y (k) < 0)), slD Y ya yc (k)]) rfl rfl rfl Try.underlying67 rfl (by kernel_rfl) rfl (fun w hw => wd_row (Kn.hd0 (Kn.tl (Kn.tl (Kn.tlU hw)))) (by omega)) ?_
        simp only [Act.put, Act.eval, qn, qv, Nat.reduceAdd]
        refine rg_nil ?_
        refine ek_rt (List.Sublist.append_left (sc _ (sc _ (sc _ (sc _ sn)))) _) ?_
        refine rt_hard2 (i := 8) (j := 9) (by kernel_rfl) rfl rfl ?_ ?_
        · apply (rg_made (T := fun v u => ∃ s, v = bgV (X i * Y k) s ∧ SU u s (X i * Y k).natAbs)) (by rfl) (by kernel_rfl)
          case hargs => (simp only [qm, qs, Act.eval]; exact rfl)
          case h => exact fun w hw => bmul_any (X i) (Y k) _ _ (lX i (by omega)) (lY k (by omega)) w ((hX i (by omega)).kn hw) ((hY k (by omega)).kn hw)
          case hz => exact (fun _ h => by cases h; exact (List.Sublist.append_left (sc _ (sc _ (sc _ (sc _ sn)))) _))
          rintro _ uP ⟨sP, rfl, hSP⟩
          obtain ⟨⟨daP, dcP, rfl⟩, -⟩ := id hSP
          simp only [Act.put, Act.eval, qn, qv, Nat.reduceAdd]
          refine rg_nil ?_
          refine ek_rt ((List.Sublist.append_left (sc _ (sc _ (sc _ (sc _ sn)))) _).trans (List.sublist_append_right _ _)) ?_
          refine rt_hard1 (i := 9) (by kernel_rfl) rfl ?_
          refine rg_new (cs := ?_) (ty := ?_) (by rfl) (fun w => ?_) (fun _ h => by cases h; exact ((List.Sublist.append_left (sc _ (sc _ (sc _ (sc _ sn)))) _).trans (List.sublist_append_right _ _))) (fun g5 => ?_); rotate_left 2
          focus (go_simp; rfl)
          simp only [Act.put, Act.eval, qn, qv, Nat.reduceAdd]
          refine rg_nil ?_
          refine ek_rt (sk _ ((List.Sublist.append_left (sc _ (sc _ (sc _ (sc _ sn)))) _).trans (List.sublist_append_right _ _))) ?_
          refine rt_hard1 (i := 10) (by kernel_rfl) rfl ?_
          refine rf_storeR (n := 2) rfl rfl (by kernel_rfl) rfl rfl (UpdR.here _ _ _ (Nat.le_of_ble_eq_true rfl)) (fun _ h => by cases h; exact (sk _ ((List.Sublist.append_left (sc _ (sc _ (sc _ (sc _ sn)))) _).trans (List.sublist_append_right _ _)))) ?_
          simp only [Act.put, Act.eval, qn, qv, Nat.reduceAdd]
          refine rg_nil ?_
          refine ek_rt (sk _ ((List.Sublist.append_left (sc _ (sc _ (sc _ (sc _ sn)))) _).trans (List.sublist_append_right _ _))) ?_
          refine rt_nil (by kernel_rfl) ?_
          refine ek_midF (by kernel_rfl) ?_
          exact ⟨g5, uP, daP, dcP, rfl, by rfl, hSP⟩
        · refine rg_new (cs := ?_) (ty := ?_) (by rfl) (fun w => ?_) (fun _ h => by cases h; exact (List.Sublist.append_left (sc _ (sc _ (sc _ (sc _ sn)))) _)) (fun g6 => ?_); rotate_left 2
          focus (go_simp; rfl)
          simp only [Act.put, Act.eval, qn, qv, Nat.reduceAdd]
          refine rg_nil ?_
          refine ek_rt (sk _ (List.Sublist.append_left (sc _ (sc _ (sc _ (sc _ sn)))) _)) ?_
          refine rt_hard1 (i := 8) (by kernel_rfl) rfl ?_
          apply (rg_made (T := fun v u => ∃ s, v = bgV (X i * Y k) s ∧ SU u s (X i * Y k).natAbs)) (by rfl) (by kernel_rfl)
          case hargs => (simp only [qm, qs, Act.eval]; exact rfl)
          case h => exact fun w hw => bmul_any (X i) (Y k) _ _ (lX i (by omega)) (lY k (by omega)) w ((hX i (by omega)).kn hw) ((hY k (by omega)).kn hw)
          case hz => exact (fun _ h => by cases h; exact (sk _ (List.Sublist.append_left (sc _ (sc _ (sc _ (sc _ sn)))) _)))
          rintro _ uP ⟨sP, rfl, hSP⟩
          obtain ⟨⟨daP, dcP, rfl⟩, -⟩ := id hSP
          simp only [Act.put, Act.eval, qn, qv, Nat.reduceAdd]
          refine rg_nil ?_
          refine ek_rt ((sk _ (List.Sublist.append_left (sc _ (sc _ (sc _ (sc _ sn)))) _)).trans (List.sublist_append_right _ _)) ?_
          refine rt_hard1 (i := 10) (by kernel_rfl) rfl ?_
          refine rf_storeR (n := 2) rfl rfl (by kernel_rfl) rfl rfl (UpdR.app _ (UpdR.here _ _ _ (Nat.le_of_ble_eq_true rfl))) (fun _ h => by cases h; exact ((sk _ (List.Sublist.append_left (sc _ (sc _ (sc _ (sc _ sn)))) _)).trans (List.sublist_append_right _ _))) ?_
          simp only [Act.put, Act.eval, qn, qv, Nat.reduceAdd]
          refine rg_nil ?_
          refine ek_rt ((sk _ (List.Sublist.append_left (sc _ (sc _ (sc _ (sc _ sn)))) _)).trans (List.sublist_append_right _ _)) ?_
          refine rt_nil (by kernel_rfl) ?_
          refine ek_perm (perm_at (l := (uP)) (((((((List.Perm.refl _).cons _).cons _).cons _).cons _).append_left _).append_left _)) ?_
          refine ek_midF (by kernel_rfl) ?_
          exact ⟨g6, uP, daP, dcP, rfl, by rfl, hSP⟩
      · rintro f3 s ⟨gp, uq, pa, pc, hs3_8, rfl, hSp⟩
        simp only [Act.putF, List.foldl_cons, List.foldl_nil, hs3_8, Act.put, Act.eval, q1, q2, q3, q4, q5, q6, q7, q8, q9, q10, q11, q12, q13, q14, q15, q16, q17, q18, Nat.reduceAdd, Bool.not_true, Bool.not_false]
        clear hs3_8
        have hpp := hP i k (by omega) (by omega)
        refine wk_seq ?_
        refine wk_seq ?_
        refine wk_region [0, 0, 0, 0] rfl (by kernel_rfl) ?_
        simp only [List.zip_cons_cons, List.zip_nil_right]
        refine rg_move ?_
        simp only [Act.put, Act.eval, qn, qv, Nat.reduceAdd]
        refine rg_move ?_
        simp only [Act.put, Act.eval, qn, qv, Nat.reduceAdd]
        refine rf_add rfl rfl rfl rfl (wrap_ok (by omega) (by omega)) ?_
        simp only [Act.put, Act.eval, qn, qv, Nat.reduceAdd]
        refine rfb_geq rfl rfl rfl rfl ?_
        intro x h3
        cases x
        · (try simp only [decide_eq_true_eq, decide_eq_false_iff_not, Int.not_lt, Int.not_le, beq_iff_eq, beq_eq_false_iff_ne, bne_iff_ne, bne_eq_false_iff_eq, ne_eq, Bool.not_eq_true', Bool.not_eq_false'] at h3)
          simp only [Act.put, Act.eval, qn, qv, Nat.reduceAdd]
          refine rg_nil ?_
          refine ek_next ?_
          refine wk_cond_f rfl ?_
          refine wk_skip ?_
          refine ek_next ?_
          refine wk_draws_m (hz1 := (sc _ (List.Sublist.append_left (List.Sublist.append_left (sk _ (sc _ (sc _ (sc _ sn)))) _) _))) [(0, 0), (1, 0), (2, 0), (3, 0), (4, 0), (5, 0), (6, 0), (7, 0), (8, 0), (9, 0), (10, 0), (11, 0), (13, 3), (12, 1), (14, 0), (15, 2)] 15 (by kernel_rfl) (by kernel_rfl) (fun c d v a w h => by cases d <;> exact h) ?_
          simp only [List.map_cons, List.map_nil, List.getD_cons_zero, List.getD_cons_succ]
          refine rg_move ?_
          simp only [Act.put, Act.eval, qn, qv, Nat.reduceAdd]
          refine rg_move ?_
          simp only [Act.put, Act.eval, qn, qv, Nat.reduceAdd]
          refine rf_add rfl rfl rfl rfl (wrap_ok (by omega) (by omega)) ?_
          simp only [Act.put, Act.eval, qn, qv, Nat.reduceAdd]
          refine rf_rem (r := (((i + k) % 4 : Nat) : Int)) rfl rfl rfl rfl (by decide) ((rem_ok (by omega)).trans (by omega)) ?_
          simp only [Act.put, Act.eval, qn, qv, Nat.reduceAdd]
          refine rg_move ?_
          simp only [Act.put, Act.eval, qn, qv, Nat.reduceAdd]
          refine rg_move ?_
          simp only [Act.put, Act.eval, qn, qv, Nat.reduceAdd]
          refine rf_add rfl rfl rfl rfl (wrap_ok (by omega) (by omega)) ?_
          simp only [Act.put, Act.eval, qn, qv, Nat.reduceAdd]
          refine rf_rem (r := (((i + k) % 4 : Nat) : Int)) rfl rfl rfl rfl (by decide) ((rem_ok (by omega)).trans (by omega)) ?_
          simp only [Act.put, Act.eval, qn, qv, Nat.reduceAdd]
          refine rf_field (n := 7) (j := 0) rfl rfl rfl Try.underlying70 rfl (by kernel_rfl) rfl ?_
          simp only [Act.put, Act.eval, qn, qv, Nat.reduceAdd]
          refine rf_indexA (n := (i + k) % 4) (sz := 2) (j := 0 + ((i + k) % 4) * 2) rfl rfl rfl rfl Try.underlying68 (by kernel_rfl) (by omega) rfl ?_
          simp only [Act.put, Act.eval, qn, qv, Nat.reduceAdd]
          refine rf_loadC (n := 2) (vs := [.bool (decide (T2 ((i + k) % 4) < 0)), slD T2 da2 dc2 ((i + k) % 4)]) rfl rfl rfl Try.underlying67 rfl (by kernel_rfl) rfl (fun w hw => wd_row (Kn.hd0 (Kn.tlU (Kn.tlU (Kn.tl hw)))) (by omega)) ?_
          simp only [Act.put, Act.eval, qn, qv, Nat.reduceAdd]
          refine rf_loadR (n := 2) rfl rfl rfl Try.underlying67 rfl (by kernel_rfl) (fun w hw => Kn.hd0 hw) rfl rfl ?_
          simp only [Act.put, Act.eval, qn, qv, Nat.reduceAdd]
          refine rf_field (n := 7) (j := 0) rfl rfl rfl Try.underlying70 rfl (by kernel_rfl) rfl ?_
          simp only [Act.put, Act.eval, qn, qv, Nat.reduceAdd]
          have hT := acc_bound (X := X) (Y := Y) (by decide) hP (i * 4 + k) ((i + k) % 4) (by omega)
          rw [hac2.out] at hT
          have hn15 : ((i * 4 + k : Nat) : Int) * 1231312693637327475383720003129487931408741852202045208373384168882678805359287831606695820465153613775207124697088 ≤ 15 * 1231312693637327475383720003129487931408741852202045208373384168882678805359287831606695820465153613775207124697088 := Int.mul_le_mul_of_nonneg_right (by omega) (by decide)
          have hpp := hP i k (by omega) (by omega)
          apply (rg_made (T := fun v u => ∃ s, v = bgV (T2 ((i + k) % 4) + X i * Y k) s ∧ SU u s (T2 ((i + k) % 4) + X i * Y k).natAbs)) (by rfl) (by kernel_rfl)
          case hargs => (simp only [qm, qs, Act.eval]; exact rfl)
          case h => exact fun w hw => badd_any (T2 ((i + k) % 4)) (X i * Y k) _ _ (len_big (by omega) (by omega)) (len_big (by omega) (by omega)) w ((hsu2 _ (by omega)).at hw (List.Sublist.cons _ ((List.sublist_append_left _ _).trans (List.sublist_append_right _ _)))) (hSp.at hw (List.Sublist.cons _ (List.sublist_append_left _ _)))
          case hz => exact (fun _ h => by cases h; exact (sc _ (List.Sublist.append_left (List.Sublist.append_left (sc _ (sc _ (sc _ (sc _ sn)))) _) _)))
          rintro _ uN ⟨sN, rfl, hSN⟩
          obtain ⟨⟨daN, dcN, rfl⟩, -⟩ := id hSN
          simp only [Act.put, Act.eval, qn, qv, Nat.reduceAdd]
          refine rf_indexA (n := (i + k) % 4) (sz := 2) (j := 0 + ((i + k) % 4) * 2) rfl rfl rfl rfl Try.underlying68 (by kernel_rfl) (by omega) rfl ?_
          simp only [Act.put, Act.eval, qn, qv, Nat.reduceAdd]
          refine rf_storeRM (n := 2) rfl rfl (by kernel_rfl) rfl rfl (UpdR.app _ (UpdR.there _ (UpdR.app _ (UpdR.app _ (UpdR.here _ _ _ (show 0 + ((i + k) % 4) * 2 + 2 ≤ 9 by omega)))))) ((sc _ (List.Sublist.append_left (List.Sublist.append_left (sk _ (sc _ (sc _ (sc _ sn)))) _) _)).trans (List.sublist_append_right _ _)) ?_
          simp only [Act.put, Act.eval, qn, qv, Nat.reduceAdd]
          refine rg_nil ?_
          refine ek_block ?_
          refine ek_next ?_
          refine wk_region [0, 0, 0] rfl (by kernel_rfl) ?_
          simp only [List.zip_cons_cons, List.zip_nil_right]
          refine rg_move ?_
          simp only [Act.put, Act.eval, qn, qv, Nat.reduceAdd]
          refine rf_add rfl rfl rfl rfl (wrap_ok (by omega) (by omega)) ?_
          simp only [Act.put, Act.eval, qn, qv, Nat.reduceAdd]
          refine rg_assign ?_
          simp only [Act.put, Act.eval, qn, qv, Nat.reduceAdd]
          refine rg_nil ?_
          refine ek_sub (List.Sublist.append_left (sk _ ((List.Sublist.append_left (sc _ (sc _ (sc _ (sc _ sn)))) _).trans (List.sublist_append_right _ _))) _) ?_
          refine ek_roundF (4 - (k + 1)) (by omega) (by kernel_rfl) ?_
          exact ⟨k + 1, upd T2 ((i + k) % 4) (T2 ((i + k) % 4) + X i * Y k), upd da2 ((i + k) % 4) daN, upd dc2 ((i + k) % 4) dcN, uN ++ u2, rfl, (by rw [List.append_assoc, wd_set' (by omega)]), by rfl, (by omega), (Lib.hid (by rw [acc_step (by omega) hac2.out, if_neg (by omega)])), (su_upd hsu2 hSN)⟩
        · (try simp only [decide_eq_true_eq, decide_eq_false_iff_not, Int.not_lt, Int.not_le, beq_iff_eq, beq_eq_false_iff_ne, bne_iff_ne, bne_eq_false_iff_eq, ne_eq, Bool.not_eq_true', Bool.not_eq_false'] at h3)
          simp only [Act.put, Act.eval, qn, qv, Nat.reduceAdd]
          refine rg_nil ?_
          refine ek_next ?_
          refine wk_cond_t rfl ?_
          refine wk_region [0, 1, 1] rfl (by kernel_rfl) ?_
          simp only [List.zip_cons_cons, List.zip_nil_right]
          refine rf_loadR (n := 2) rfl rfl rfl Try.underlying67 rfl (by kernel_rfl) (fun w hw => Kn.hd0 hw) rfl rfl ?_
          simp only [Act.put, Act.eval, qn, qv, Nat.reduceAdd]
          apply rg_pure (by rfl) (by kernel_rfl)
          case hargs => (simp only [qm, qs, Act.eval]; exact rfl)
          case h => exact fun w hw => bneg_any (X i * Y k) _ (len_big (by omega) (by omega)) w (hSp.at hw (List.Sublist.cons _ (List.sublist_append_left _ _)))
          case hz => exact (fun _ h => by cases h)
          simp only [Act.put, Act.eval, qn, qv, Nat.reduceAdd]
          refine rf_storeR (n := 2) rfl rfl (by kernel_rfl) rfl rfl (UpdR.here _ _ _ (Nat.le_of_ble_eq_true rfl)) (fun _ h => by cases h) ?_
          simp only [Act.put, Act.eval, qn, qv, Nat.reduceAdd]
          refine rg_nil ?_
          refine ek_next ?_
          refine wk_draws_m (hz1 := (sc _ (List.Sublist.append_left (List.Sublist.append_left (sk _ (sc _ (sc _ (sc _ sn)))) _) _))) [(0, 0), (1, 0), (2, 0), (3, 0), (4, 0), (5, 0), (6, 0), (7, 0), (8, 0), (9, 0), (10, 0), (11, 0), (13, 3), (12, 1), (14, 0), (15, 2)] 15 (by kernel_rfl) (by kernel_rfl) (fun c d v a w h => by cases d <;> exact h) ?_
          simp only [List.map_cons, List.map_nil, List.getD_cons_zero, List.getD_cons_succ]
          refine rg_move ?_
          simp only [Act.put, Act.eval, qn, qv, Nat.reduceAdd]
          refine rg_move ?_
          simp only [Act.put, Act.eval, qn, qv, Nat.reduceAdd]
          refine rf_add rfl rfl rfl rfl (wrap_ok (by omega) (by omega)) ?_
          simp only [Act.put, Act.eval, qn, qv, Nat.reduceAdd]
          refine rf_rem (r := (((i + k) % 4 : Nat) : Int)) rfl rfl rfl rfl (by decide) ((rem_ok (by omega)).trans (by omega)) ?_
          simp only [Act.put, Act.eval, qn, qv, Nat.reduceAdd]
          refine rg_move ?_
          simp only [Act.put, Act.eval, qn, qv, Nat.reduceAdd]
          refine rg_move ?_
          simp only [Act.put, Act.eval, qn, qv, Nat.reduceAdd]
          refine rf_add rfl rfl rfl rfl (wrap_ok (by omega) (by omega)) ?_
          simp only [Act.put, Act.eval, qn, qv, Nat.reduceAdd]
          refine rf_rem (r := (((i + k) % 4 : Nat) : Int)) rfl rfl rfl rfl (by decide) ((rem_ok (by omega)).trans (by omega)) ?_
          simp only [Act.put, Act.eval, qn, qv, Nat.reduceAdd]
          refine rf_field (n := 7) (j := 0) rfl rfl rfl Try.underlying70 rfl (by kernel_rfl) rfl ?_
          simp only [Act.put, Act.eval, qn, qv, Nat.reduceAdd]
          refine rf_indexA (n := (i + k) % 4) (sz := 2) (j := 0 + ((i + k) % 4) * 2) rfl rfl rfl rfl Try.underlying68 (by kernel_rfl) (by omega) rfl ?_
          simp only [Act.put, Act.eval, qn, qv, Nat.reduceAdd]
          refine rf_loadC (n := 2) (vs := [.bool (decide (T2 ((i + k) % 4) < 0)), slD T2 da2 dc2 ((i + k) % 4)]) rfl rfl rfl Try.underlying67 rfl (by kernel_rfl) rfl (fun w hw => wd_row (Kn.hd0 (Kn.tlU (Kn.tlU (Kn.tl hw)))) (by omega)) ?_
          simp only [Act.put, Act.eval, qn, qv, Nat.reduceAdd]
          refine rf_loadR (n := 2) rfl rfl rfl Try.underlying67 rfl (by kernel_rfl) (fun w hw => Kn.hd0 hw) rfl rfl ?_
          simp only [Act.put, Act.eval, qn, qv, Nat.reduceAdd]
          refine rf_field (n := 7) (j := 0) rfl rfl rfl Try.underlying70 rfl (by kernel_rfl) rfl ?_
          simp only [Act.put, Act.eval, qn, qv, Nat.reduceAdd]
          have hT := acc_bound (X := X) (Y := Y) (by decide) hP (i * 4 + k) ((i + k) % 4) (by omega)
          rw [hac2.out] at hT
          have hn15 : ((i * 4 + k : Nat) : Int) * 1231312693637327475383720003129487931408741852202045208373384168882678805359287831606695820465153613775207124697088 ≤ 15 * 1231312693637327475383720003129487931408741852202045208373384168882678805359287831606695820465153613775207124697088 := Int.mul_le_mul_of_nonneg_right (by omega) (by decide)
          have hpp := hP i k (by omega) (by omega)
          apply (rg_made (T := fun v u => ∃ s, v = bgV (T2 ((i + k) % 4) + -(X i * Y k)) s ∧ SU u s (T2 ((i + k) % 4) + -(X i * Y k)).natAbs)) (by rfl) (by kernel_rfl)
          case hargs => (simp only [qm, qs, Act.eval]; exact rfl)
          case h => exact fun w hw => badd_any (T2 ((i + k) % 4)) (-(X i * Y k)) _ _ (len_big (by omega) (by omega)) (len_big (by omega) (by omega)) w ((hsu2 _ (by omega)).at hw (List.Sublist.cons _ ((List.sublist_append_left _ _).trans (List.sublist_append_right _ _)))) (by rw [Int.natAbs_neg]; exact hSp.at hw (List.Sublist.cons _ (List.sublist_append_left _ _)))
          case hz => exact (fun _ h => by cases h; exact (sc _ (List.Sublist.append_left (List.Sublist.append_left (sc _ (sc _ (sc _ (sc _ sn)))) _) _)))
          rintro _ uN ⟨sN, rfl, hSN⟩
          obtain ⟨⟨daN, dcN, rfl⟩, -⟩ := id hSN
          simp only [Act.put, Act.eval, qn, qv, Nat.reduceAdd]
          refine rf_indexA (n := (i + k) % 4) (sz := 2) (j := 0 + ((i + k) % 4) * 2) rfl rfl rfl rfl Try.underlying68 (by kernel_rfl) (by omega) rfl ?_
          simp only [Act.put, Act.eval, qn, qv, Nat.reduceAdd]
          refine rf_storeRM (n := 2) rfl rfl (by kernel_rfl) rfl rfl (UpdR.app _ (UpdR.there _ (UpdR.app _ (UpdR.app _ (UpdR.here _ _ _ (show 0 + ((i + k) % 4) * 2 + 2 ≤ 9 by omega)))))) ((sc _ (List.Sublist.append_left (List.Sublist.append_left (sk _ (sc _ (sc _ (sc _ sn)))) _) _)).trans (List.sublist_append_right _ _)) ?_
          simp only [Act.put, Act.eval, qn, qv, Nat.reduceAdd]
          refine rg_nil ?_
          refine ek_block ?_
          refine ek_next ?_
          refine wk_region [0, 0, 0] rfl (by kernel_rfl) ?_
          simp only [List.zip_cons_cons, List.zip_nil_right]
          refine rg_move ?_
          simp only [Act.put, Act.eval, qn, qv, Nat.reduceAdd]
          refine rf_add rfl rfl rfl rfl (wrap_ok (by omega) (by omega)) ?_
          simp only [Act.put, Act.eval, qn, qv, Nat.reduceAdd]
          refine rg_assign ?_
          simp only [Act.put, Act.eval, qn, qv, Nat.reduceAdd]
          refine rg_nil ?_
          refine ek_sub (List.Sublist.append_left (sk _ ((List.Sublist.append_left (sc _ (sc _ (sc _ (sc _ sn)))) _).trans (List.sublist_append_right _ _))) _) ?_
          refine ek_roundF (4 - (k + 1)) (by omega) (by kernel_rfl) ?_
          exact ⟨k + 1, upd T2 ((i + k) % 4) (T2 ((i + k) % 4) + -(X i * Y k)), upd da2 ((i + k) % 4) daN, upd dc2 ((i + k) % 4) dcN, uN ++ u2, rfl, (by rw [List.append_assoc, wd_set' (by omega)]), by rfl, (by omega), (Lib.hid (by rw [acc_step (by omega) hac2.out, if_pos (by omega)])), (su_upd hsu2 hSN)⟩

theorem sel_cases {p : Nat → Prop} (h0 : p 0) (h1 : p 1) (h2 : p 2) (h3 : p 3) : ∀ m, m < 4 → p m := fun m hm => by
  rcases lt4 hm with rfl | rfl | rfl | rfl <;> assumption
def ProdB (x y : Nm) : Prop := ∀ i k, i < 4 → k < 4 → -1231312693637327475383720003129487931408741852202045208373384168882678805359287831606695820465153613775207124697088 ≤ sel4 x.a x.b x.c x.d i * sel4 y.a y.b y.c y.d k ∧ sel4 x.a x.b x.c x.d i * sel4 y.a y.b y.c y.d k ≤ 1231312693637327475383720003129487931408741852202045208373384168882678805359287831606695820465153613775207124697088
theorem prodB_ok {x y : Nm} (hx : x.Fit 1000000000) (hy : y.Fit 1000000000) : ProdB x y := by
  obtain ⟨a1, a2, a3, a4, a5, a6, a7, a8⟩ := hx
  obtain ⟨b1, b2, b3, b4, b5, b6, b7, b8⟩ := hy
  have key : ∀ a b : Int, -1000000000 ≤ a → a ≤ 1000000000 → -1000000000 ≤ b → b ≤ 1000000000 → -1231312693637327475383720003129487931408741852202045208373384168882678805359287831606695820465153613775207124697088 ≤ a * b ∧ a * b ≤ 1231312693637327475383720003129487931408741852202045208373384168882678805359287831606695820465153613775207124697088 := fun a b h1 h2 h3 h4 => by
    have := mul_le h1 h2 h3 h4
    omega
  intro i k hi hk
  rcases lt4 hi with rfl | rfl | rfl | rfl <;> rcases lt4 hk with rfl | rfl | rfl | rfl <;> exact key _ _ (by assumption) (by assumption) (by assumption) (by assumption)
theorem wtimes_any (x y : Nm) (s0 s1 s2 s3 p0 p1 p2 p3 : Value) (hx : x.Fit 9850501549098619803069760025035903451269934817616361666987073351061430442874302652853566563721228910201656997576704) (hy : y.Fit 9850501549098619803069760025035903451269934817616361666987073351061430442874302652853566563721228910201656997576704) (hP : ProdB x y) (hk : 0 ≤ x.k) (hk1 : x.k ≤ 10000) (hk2 : 0 ≤ y.k) (hk3 : y.k ≤ 10000) (w : World) (hs : SA4 w x s0 s1 s2 s3) (hs2 : SA4 w y p0 p1 p2 p3) :
    Calls Try.prog 117 #[wdV x s0 s1 s2 s3, wdV y p0 p1 p2 p3] w fun e w' => RetW w (x.mulR y) e w' := by
  obtain ⟨⟨a0, c0, rfl⟩, ⟨a1, c1, rfl⟩, ⟨a2, c2, rfl⟩, ⟨a3, c3, rfl⟩⟩ := (⟨hs.a.form, hs.b.form, hs.c.form, hs.d.form⟩ : _ ∧ _ ∧ _ ∧ _)
  obtain ⟨⟨b0, d0, rfl⟩, ⟨b1, d1, rfl⟩, ⟨b2, d2, rfl⟩, ⟨b3, d3, rfl⟩⟩ := (⟨hs2.a.form, hs2.b.form, hs2.c.form, hs2.d.form⟩ : _ ∧ _ ∧ _ ∧ _)
  obtain ⟨la, lb, lc, ld⟩ := fit_big hx
  obtain ⟨ma, mb, mc, md⟩ := fit_big hy
  refine (wtimes_core (sel4 x.a x.b x.c x.d) (sel4 y.a y.b y.c y.d) (sel4 a0 a1 a2 a3) (sel4 b0 b1 b2 b3) (sel4 c0 c1 c2 c3) (sel4 d0 d1 d2 d3) x.k y.k (sel_cases la lb lc ld) (sel_cases ma mb mc md) hP hk hk1 hk2 hk3 w (sel_cases hs.a hs.b hs.c hs.d) (sel_cases hs2.a hs2.b hs2.c hs2.d)).mono ?_
  rintro e w' ⟨v, u, he, ⟨sa, sc, hv, hsu⟩, hm⟩
  rw [← acc_16 x y]
  exact ⟨v, u, he, ⟨_, _, _, _, hv, ⟨hsu 0 (by decide), hsu 1 (by decide), hsu 2 (by decide), hsu 3 (by decide)⟩⟩, hm⟩
end Go.Proofs.Ytccbinnlnkpplaa
