/- Exact amplitudes of any size: of numbers, multiples of the root of 2. -/
import Derived.Test.YtccbinnlnkpplaaWb
namespace Go.Proofs.Ytccbinnlnkpplaa
set_option linter.all false
open Go.RowKit

set_option maxRecDepth 100000 in
set_option maxHeartbeats 1000000 in
theorem timesR_any (z : Nm) (s0 s1 s2 s3 : Value) (hz : z.Fit 9850501549098619803069760025035903451269934817616361666987073351061430442874302652853566563721228910201656997576704) (w : World) (hs : SA4 w z s0 s1 s2 s3) : Calls Try.prog 98 #[arV z s0 s1 s2 s3] w fun e w' => RetA w z.tr e w' := by
  obtain ⟨ha, hb, hc, hd⟩ := hs
  obtain ⟨la, lb, lc, ld⟩ := fit_big hz
  obtain ⟨⟨a0, c0, rfl⟩, ⟨a1, c1, rfl⟩, ⟨a2, c2, rfl⟩, ⟨a3, c3, rfl⟩⟩ := (⟨ha.form, hb.form, hc.form, hd.form⟩ : _ ∧ _ ∧ _ ∧ _)
  go_enter Try.func98, Try.ntmps98
  refine wk_start ?_
  refine wk_seq ?_
  refine wk_region [1, 1] rfl (by kernel_rfl) ?_
  simp only [List.zip_cons_cons, List.zip_nil_right]
  refine rg_new (cs := ?_) (ty := ?_) (by rfl) (fun w => ?_) (fun _ h => by cases h) (fun g1 => ?_); rotate_left 2
  focus (go_simp; rfl)
  simp only [Act.put, Act.eval, qn, qv, Nat.reduceAdd]
  refine rg_new (cs := ?_) (ty := ?_) (by rfl) (fun w => ?_) (fun _ h => by cases h) (fun g2 => ?_); rotate_left 2
  focus (go_simp; rfl)
  simp only [Act.put, Act.eval, qn, qv, Nat.reduceAdd]
  refine rg_nil ?_
  refine ek_next ?_
  refine wk_seq ?_
  refine wk_draws_m (hz1 := (sk _ (sc _ sn))) [(0, 0), (1, 0), (2, 0), (3, 0), (5, 0), (6, 0), (7, 0), (8, 0), (10, 0), (11, 0), (12, 0), (13, 0), (15, 0), (16, 0), (17, 0), (18, 0), (4, 1), (9, 1), (14, 1), (19, 1), (20, 0), (21, 2)] 21 (by kernel_rfl) (by kernel_rfl) (fun c d v a w h => by cases d <;> exact h) ?_
  simp only [List.map_cons, List.map_nil, List.getD_cons_zero, List.getD_cons_succ]
  refine rf_indexA (n := 1) (sz := 2) (j := 2) rfl rfl rfl rfl Try.underlying68 (by kernel_rfl) (by decide) rfl ?_
  simp only [Act.put, Act.eval, qn, qv, Nat.reduceAdd]
  refine rf_loadR (n := 2) rfl rfl rfl Try.underlying67 rfl (by kernel_rfl) (fun w hw => Kn.hd0 (Kn.tl hw)) rfl rfl ?_
  simp only [Act.put, Act.eval, qn, qv, Nat.reduceAdd]
  refine rf_indexA (n := 3) (sz := 2) (j := 6) rfl rfl rfl rfl Try.underlying68 (by kernel_rfl) (by decide) rfl ?_
  simp only [Act.put, Act.eval, qn, qv, Nat.reduceAdd]
  refine rf_loadR (n := 2) rfl rfl rfl Try.underlying67 rfl (by kernel_rfl) (fun w hw => Kn.hd0 (Kn.tl hw)) rfl rfl ?_
  simp only [Act.put, Act.eval, qn, qv, Nat.reduceAdd]
  refine rf_indexA (n := 0) (sz := 2) (j := 0) rfl rfl rfl rfl Try.underlying68 (by kernel_rfl) (by decide) rfl ?_
  simp only [Act.put, Act.eval, qn, qv, Nat.reduceAdd]
  refine rf_loadR (n := 2) rfl rfl rfl Try.underlying67 rfl (by kernel_rfl) (fun w hw => Kn.hd0 (Kn.tl hw)) rfl rfl ?_
  simp only [Act.put, Act.eval, qn, qv, Nat.reduceAdd]
  refine rf_indexA (n := 2) (sz := 2) (j := 4) rfl rfl rfl rfl Try.underlying68 (by kernel_rfl) (by decide) rfl ?_
  simp only [Act.put, Act.eval, qn, qv, Nat.reduceAdd]
  refine rf_loadR (n := 2) rfl rfl rfl Try.underlying67 rfl (by kernel_rfl) (fun w hw => Kn.hd0 (Kn.tl hw)) rfl rfl ?_
  simp only [Act.put, Act.eval, qn, qv, Nat.reduceAdd]
  refine rf_indexA (n := 1) (sz := 2) (j := 2) rfl rfl rfl rfl Try.underlying68 (by kernel_rfl) (by decide) rfl ?_
  simp only [Act.put, Act.eval, qn, qv, Nat.reduceAdd]
  refine rf_loadR (n := 2) rfl rfl rfl Try.underlying67 rfl (by kernel_rfl) (fun w hw => Kn.hd0 (Kn.tl hw)) rfl rfl ?_
  simp only [Act.put, Act.eval, qn, qv, Nat.reduceAdd]
  refine rf_indexA (n := 3) (sz := 2) (j := 6) rfl rfl rfl rfl Try.underlying68 (by kernel_rfl) (by decide) rfl ?_
  simp only [Act.put, Act.eval, qn, qv, Nat.reduceAdd]
  refine rf_loadR (n := 2) rfl rfl rfl Try.underlying67 rfl (by kernel_rfl) (fun w hw => Kn.hd0 (Kn.tl hw)) rfl rfl ?_
  simp only [Act.put, Act.eval, qn, qv, Nat.reduceAdd]
  refine rf_indexA (n := 2) (sz := 2) (j := 4) rfl rfl rfl rfl Try.underlying68 (by kernel_rfl) (by decide) rfl ?_
  simp only [Act.put, Act.eval, qn, qv, Nat.reduceAdd]
  refine rf_loadR (n := 2) rfl rfl rfl Try.underlying67 rfl (by kernel_rfl) (fun w hw => Kn.hd0 (Kn.tl hw)) rfl rfl ?_
  simp only [Act.put, Act.eval, qn, qv, Nat.reduceAdd]
  refine rf_indexA (n := 0) (sz := 2) (j := 0) rfl rfl rfl rfl Try.underlying68 (by kernel_rfl) (by decide) rfl ?_
  simp only [Act.put, Act.eval, qn, qv, Nat.reduceAdd]
  refine rf_loadR (n := 2) rfl rfl rfl Try.underlying67 rfl (by kernel_rfl) (fun w hw => Kn.hd0 (Kn.tl hw)) rfl rfl ?_
  simp only [Act.put, Act.eval, qn, qv, Nat.reduceAdd]
  apply (rg_made (T := fun v u => ∃ s, v = bgV (z.b - z.d) s ∧ SU u s (z.b - z.d).natAbs)) (by rfl) (by kernel_rfl)
  case hargs => (simp only [qm, qs, Act.eval]; exact rfl)
  case h => exact fun w hw => bsub_any z.b z.d _ _ lb ld w (hb.kn hw) (hd.kn hw)
  case hz => exact (fun _ h => by cases h; exact (sc _ (sc _ sn)))
  rintro _ u3 ⟨s3, rfl, hS3⟩
  obtain ⟨⟨sa3, sc3, rfl⟩, -⟩ := id hS3
  simp only [Act.put, Act.eval, qn, qv, Nat.reduceAdd]
  apply (rg_made (T := fun v u => ∃ s, v = bgV (z.a + z.c) s ∧ SU u s (z.a + z.c).natAbs)) (by rfl) (by kernel_rfl)
  case hargs => (simp only [qm, qs, Act.eval]; exact rfl)
  case h => exact fun w hw => badd_any z.a z.c _ _ la lc w (ha.kn hw) (hc.kn hw)
  case hz => exact (fun _ h => by cases h; exact ((sc _ (sc _ sn)).trans (List.sublist_append_right _ _)))
  rintro _ u4 ⟨s4, rfl, hS4⟩
  obtain ⟨⟨sa4, sc4, rfl⟩, -⟩ := id hS4
  simp only [Act.put, Act.eval, qn, qv, Nat.reduceAdd]
  apply (rg_made (T := fun v u => ∃ s, v = bgV (z.b + z.d) s ∧ SU u s (z.b + z.d).natAbs)) (by rfl) (by kernel_rfl)
  case hargs => (simp only [qm, qs, Act.eval]; exact rfl)
  case h => exact fun w hw => badd_any z.b z.d _ _ lb ld w (hb.kn hw) (hd.kn hw)
  case hz => exact (fun _ h => by cases h; exact (((sc _ (sc _ sn)).trans (List.sublist_append_right _ _)).trans (List.sublist_append_right _ _)))
  rintro _ u5 ⟨s5, rfl, hS5⟩
  obtain ⟨⟨sa5, sc5, rfl⟩, -⟩ := id hS5
  simp only [Act.put, Act.eval, qn, qv, Nat.reduceAdd]
  apply (rg_made (T := fun v u => ∃ s, v = bgV (z.c - z.a) s ∧ SU u s (z.c - z.a).natAbs)) (by rfl) (by kernel_rfl)
  case hargs => (simp only [qm, qs, Act.eval]; exact rfl)
  case h => exact fun w hw => bsub_any z.c z.a _ _ lc la w (hc.kn hw) (ha.kn hw)
  case hz => exact (fun _ h => by cases h; exact ((((sc _ (sc _ sn)).trans (List.sublist_append_right _ _)).trans (List.sublist_append_right _ _)).trans (List.sublist_append_right _ _)))
  rintro _ u6 ⟨s6, rfl, hS6⟩
  obtain ⟨⟨sa6, sc6, rfl⟩, -⟩ := id hS6
  simp only [Act.put, Act.eval, qn, qv, Nat.reduceAdd]
  refine rf_build (cs := fun a => #[cellAt (a.eval (.tmp 7)) 0, cellAt (a.eval (.tmp 7)) 1, cellAt (a.eval (.tmp 12)) 0, cellAt (a.eval (.tmp 12)) 1, cellAt (a.eval (.tmp 17)) 0, cellAt (a.eval (.tmp 17)) 1, cellAt (a.eval (.tmp 22)) 0, cellAt (a.eval (.tmp 22)) 1]) rfl rfl (by kernel_rfl) ?_
  simp only [Act.put, Act.eval, qn, qv, Nat.reduceAdd]
  refine rf_storeRM (n := 8) rfl rfl (by kernel_rfl) rfl rfl (UpdR.app _ (UpdR.app _ (UpdR.app _ (UpdR.app _ (UpdR.here _ _ _ (Nat.le_of_ble_eq_true rfl)))))) (((((sk _ (sc _ sn)).trans (List.sublist_append_right _ _)).trans (List.sublist_append_right _ _)).trans (List.sublist_append_right _ _)).trans (List.sublist_append_right _ _)) ?_
  simp only [Act.put, Act.eval, qn, qv, Nat.reduceAdd]
  refine rg_nil ?_
  refine ek_next ?_
  refine wk_ret ?_
  refine ek_ret (fun w hw => ⟨rfl, _, run_results1 rfl rfl (Kn.hd0 (Kn.tlU (Kn.tlU (Kn.tlU (Kn.tlU hw))))) Try.underlying68 rfl (by kernel_rfl), ?_⟩)
  (try simp only [Act.put, Act.eval, qn, qv, Nat.reduceAdd])
  exact ⟨_, (u6 ++ (u5 ++ (u4 ++ u3))), rfl, ⟨_, _, _, _, rfl, ⟨(hS3.mono ((((List.Sublist.refl _).trans (List.sublist_append_right _ _)).trans (List.sublist_append_right _ _)).trans (List.sublist_append_right _ _))), (hS4.mono (((List.sublist_append_left _ _).trans (List.sublist_append_right _ _)).trans (List.sublist_append_right _ _))), (hS5.mono ((List.sublist_append_left _ _).trans (List.sublist_append_right _ _))), (hS6.mono (List.sublist_append_left _ _))⟩⟩, hw.made (List.Sublist.append_left (List.Sublist.append_left (List.Sublist.append_left (List.sublist_append_left _ _) _) _) _)⟩

set_option maxRecDepth 100000 in
set_option maxHeartbeats 1000000 in
theorem wideOf_any (z : Nm) (hz : z.Fit 4611686018427387903) (w : World) : Calls Try.prog 51 #[nmV z] w fun e w' => RetW w z e w' := by
  obtain ⟨fa0, fa1, fb0, fb1, fc0, fc1, fd0, fd1⟩ := id hz
  go_enter Try.func51, Try.ntmps51
  refine wk_start ?_
  refine wk_seq ?_
  refine wk_region [1, 1] rfl (by kernel_rfl) ?_
  simp only [List.zip_cons_cons, List.zip_nil_right]
  refine rg_new (cs := ?_) (ty := ?_) (by rfl) (fun w => ?_) (fun _ h => by cases h) (fun g1 => ?_); rotate_left 2
  focus (go_simp; rfl)
  simp only [Act.put, Act.eval, qn, qv, Nat.reduceAdd]
  refine rg_new (cs := ?_) (ty := ?_) (by rfl) (fun w => ?_) (fun _ h => by cases h) (fun g2 => ?_); rotate_left 2
  focus (go_simp; rfl)
  simp only [Act.put, Act.eval, qn, qv, Nat.reduceAdd]
  refine rg_nil ?_
  refine ek_next ?_
  refine wk_seq ?_
  refine wk_region [1] rfl (by kernel_rfl) ?_
  simp only [List.zip_cons_cons, List.zip_nil_right]
  refine rg_new (cs := ?_) (ty := ?_) (by rfl) (fun w => ?_) (fun _ h => by cases h) (fun g3 => ?_); rotate_left 2
  focus (go_simp; rfl)
  simp only [Act.put, Act.eval, qn, qv, Nat.reduceAdd]
  refine rg_nil ?_
  refine ek_next ?_
  refine wk_seq ?_
  refine wk_seq ?_
  refine wk_region [0] rfl (by kernel_rfl) ?_
  simp only [List.zip_cons_cons, List.zip_nil_right]
  refine rg_assign ?_
  simp only [Act.put, Act.eval, qn, qv, Nat.reduceAdd]
  refine rg_nil ?_
  refine ek_next ?_
  refine wk_block ?_
  refine wk_unroll 4 ?_
  refine wk_seq ?_
  refine wk_seq ?_
  refine wk_region [0, 0] rfl (by kernel_rfl) ?_
  simp only [List.zip_cons_cons, List.zip_nil_right]
  refine rg_move ?_
  simp only [Act.put, Act.eval, qn, qv, Nat.reduceAdd]
  refine rf_lss (b := true) rfl rfl rfl rfl (by decide) ?_
  simp only [Act.put, Act.eval, qn, qv, Nat.reduceAdd]
  refine rg_nil ?_
  refine ek_next ?_
  refine wk_cond_t rfl ?_
  refine wk_skip ?_
  refine ek_next ?_
  refine wk_seq ?_
  refine wk_block ?_
  refine wk_region [0, 0, 0, 0, 0, 1, 0, 0, 1] rfl (by kernel_rfl) ?_
  simp only [List.zip_cons_cons, List.zip_nil_right]
  refine rg_move ?_
  simp only [Act.put, Act.eval, qn, qv, Nat.reduceAdd]
  refine rg_move ?_
  simp only [Act.put, Act.eval, qn, qv, Nat.reduceAdd]
  refine rf_field (n := 3) (j := 0) rfl rfl rfl Try.underlying45 rfl (by kernel_rfl) rfl ?_
  simp only [Act.put, Act.eval, qn, qv, Nat.reduceAdd]
  refine rf_indexA (n := 0) (sz := 1) (j := 0) rfl rfl rfl rfl Try.underlying43 (by kernel_rfl) (by decide) rfl ?_
  simp only [Act.put, Act.eval, qn, qv, Nat.reduceAdd]
  refine rf_load rfl rfl rfl Try.underlying3 rfl (fun w hw => (Kn.hd0 (Kn.tl (Kn.tl hw))).at rfl) ?_
  simp only [Act.put, Act.eval, qn, qv, Nat.reduceAdd]
  apply (rg_made (T := fun v u => ∃ s, v = bgV (z.a) s ∧ SU u s (z.a).natAbs)) (by rfl) (by kernel_rfl)
  case hargs => (simp only [qm, qs, Act.eval]; exact rfl)
  case h => exact fun w hw => bigOf_any z.a (by omega) (by omega) w
  case hz => exact (fun _ h => by cases h)
  rintro _ u4 ⟨s4, rfl, hS4⟩
  obtain ⟨⟨sa4, sc4, rfl⟩, -⟩ := id hS4
  simp only [Act.put, Act.eval, qn, qv, Nat.reduceAdd]
  refine rf_field (n := 7) (j := 0) rfl rfl rfl Try.underlying70 rfl (by kernel_rfl) rfl ?_
  simp only [Act.put, Act.eval, qn, qv, Nat.reduceAdd]
  refine rf_indexA (n := 0) (sz := 2) (j := 0) rfl rfl rfl rfl Try.underlying68 (by kernel_rfl) (by decide) rfl ?_
  simp only [Act.put, Act.eval, qn, qv, Nat.reduceAdd]
  refine rf_storeR (n := 2) rfl rfl (by kernel_rfl) rfl rfl (UpdR.app _ (UpdR.here _ _ _ (Nat.le_of_ble_eq_true rfl))) (fun _ h => by cases h) ?_
  simp only [Act.put, Act.eval, qn, qv, Nat.reduceAdd]
  refine rg_nil ?_
  refine ek_block ?_
  refine ek_next ?_
  refine wk_region [0, 0, 0] rfl (by kernel_rfl) ?_
  simp only [List.zip_cons_cons, List.zip_nil_right]
  refine rg_move ?_
  simp only [Act.put, Act.eval, qn, qv, Nat.reduceAdd]
  refine rf_add (r := 1) rfl rfl rfl rfl (by decide) ?_
  simp only [Act.put, Act.eval, qn, qv, Nat.reduceAdd]
  refine rg_assign ?_
  simp only [Act.put, Act.eval, qn, qv, Nat.reduceAdd]
  refine rg_nil ?_
  refine ek_again ?_
  refine wk_seq ?_
  refine wk_seq ?_
  refine wk_region [0, 0] rfl (by kernel_rfl) ?_
  simp only [List.zip_cons_cons, List.zip_nil_right]
  refine rg_move ?_
  simp only [Act.put, Act.eval, qn, qv, Nat.reduceAdd]
  refine rf_lss (b := true) rfl rfl rfl rfl (by decide) ?_
  simp only [Act.put, Act.eval, qn, qv, Nat.reduceAdd]
  refine rg_nil ?_
  refine ek_next ?_
  refine wk_cond_t rfl ?_
  refine wk_skip ?_
  refine ek_next ?_
  refine wk_seq ?_
  refine wk_block ?_
  refine wk_region [0, 0, 0, 0, 0, 1, 0, 0, 1] rfl (by kernel_rfl) ?_
  simp only [List.zip_cons_cons, List.zip_nil_right]
  refine rg_move ?_
  simp only [Act.put, Act.eval, qn, qv, Nat.reduceAdd]
  refine rg_move ?_
  simp only [Act.put, Act.eval, qn, qv, Nat.reduceAdd]
  refine rf_field (n := 3) (j := 0) rfl rfl rfl Try.underlying45 rfl (by kernel_rfl) rfl ?_
  simp only [Act.put, Act.eval, qn, qv, Nat.reduceAdd]
  refine rf_indexA (n := 1) (sz := 1) (j := 1) rfl rfl rfl rfl Try.underlying43 (by kernel_rfl) (by decide) rfl ?_
  simp only [Act.put, Act.eval, qn, qv, Nat.reduceAdd]
  refine rf_load rfl rfl rfl Try.underlying3 rfl (fun w hw => (Kn.hd0 (Kn.tl (Kn.tl (Kn.tlU hw)))).at rfl) ?_
  simp only [Act.put, Act.eval, qn, qv, Nat.reduceAdd]
  apply (rg_made (T := fun v u => ∃ s, v = bgV (z.b) s ∧ SU u s (z.b).natAbs)) (by rfl) (by kernel_rfl)
  case hargs => (simp only [qm, qs, Act.eval]; exact rfl)
  case h => exact fun w hw => bigOf_any z.b (by omega) (by omega) w
  case hz => exact (fun _ h => by cases h)
  rintro _ u5 ⟨s5, rfl, hS5⟩
  obtain ⟨⟨sa5, sc5, rfl⟩, -⟩ := id hS5
  simp only [Act.put, Act.eval, qn, qv, Nat.reduceAdd]
  refine rf_field (n := 7) (j := 0) rfl rfl rfl Try.underlying70 rfl (by kernel_rfl) rfl ?_
  simp only [Act.put, Act.eval, qn, qv, Nat.reduceAdd]
  refine rf_indexA (n := 1) (sz := 2) (j := 2) rfl rfl rfl rfl Try.underlying68 (by kernel_rfl) (by decide) rfl ?_
  simp only [Act.put, Act.eval, qn, qv, Nat.reduceAdd]
  refine rf_storeR (n := 2) rfl rfl (by kernel_rfl) rfl rfl (UpdR.app _ (UpdR.app _ (UpdR.here _ _ _ (Nat.le_of_ble_eq_true rfl)))) (fun _ h => by cases h) ?_
  simp only [Act.put, Act.eval, qn, qv, Nat.reduceAdd]
  refine rg_nil ?_
  refine ek_block ?_
  refine ek_next ?_
  refine wk_region [0, 0, 0] rfl (by kernel_rfl) ?_
  simp only [List.zip_cons_cons, List.zip_nil_right]
  refine rg_move ?_
  simp only [Act.put, Act.eval, qn, qv, Nat.reduceAdd]
  refine rf_add (r := 2) rfl rfl rfl rfl (by decide) ?_
  simp only [Act.put, Act.eval, qn, qv, Nat.reduceAdd]
  refine rg_assign ?_
  simp only [Act.put, Act.eval, qn, qv, Nat.reduceAdd]
  refine rg_nil ?_
  refine ek_again ?_
  refine wk_seq ?_
  refine wk_seq ?_
  refine wk_region [0, 0] rfl (by kernel_rfl) ?_
  simp only [List.zip_cons_cons, List.zip_nil_right]
  refine rg_move ?_
  simp only [Act.put, Act.eval, qn, qv, Nat.reduceAdd]
  refine rf_lss (b := true) rfl rfl rfl rfl (by decide) ?_
  simp only [Act.put, Act.eval, qn, qv, Nat.reduceAdd]
  refine rg_nil ?_
  refine ek_next ?_
  refine wk_cond_t rfl ?_
  refine wk_skip ?_
  refine ek_next ?_
  refine wk_seq ?_
  refine wk_block ?_
  refine wk_region [0, 0, 0, 0, 0, 1, 0, 0, 1] rfl (by kernel_rfl) ?_
  simp only [List.zip_cons_cons, List.zip_nil_right]
  refine rg_move ?_
  simp only [Act.put, Act.eval, qn, qv, Nat.reduceAdd]
  refine rg_move ?_
  simp only [Act.put, Act.eval, qn, qv, Nat.reduceAdd]
  refine rf_field (n := 3) (j := 0) rfl rfl rfl Try.underlying45 rfl (by kernel_rfl) rfl ?_
  simp only [Act.put, Act.eval, qn, qv, Nat.reduceAdd]
  refine rf_indexA (n := 2) (sz := 1) (j := 2) rfl rfl rfl rfl Try.underlying43 (by kernel_rfl) (by decide) rfl ?_
  simp only [Act.put, Act.eval, qn, qv, Nat.reduceAdd]
  refine rf_load rfl rfl rfl Try.underlying3 rfl (fun w hw => (Kn.hd0 (Kn.tl (Kn.tl (Kn.tlU (Kn.tlU hw))))).at rfl) ?_
  simp only [Act.put, Act.eval, qn, qv, Nat.reduceAdd]
  apply (rg_made (T := fun v u => ∃ s, v = bgV (z.c) s ∧ SU u s (z.c).natAbs)) (by rfl) (by kernel_rfl)
  case hargs => (simp only [qm, qs, Act.eval]; exact rfl)
  case h => exact fun w hw => bigOf_any z.c (by omega) (by omega) w
  case hz => exact (fun _ h => by cases h)
  rintro _ u6 ⟨s6, rfl, hS6⟩
  obtain ⟨⟨sa6, sc6, rfl⟩, -⟩ := id hS6
  simp only [Act.put, Act.eval, qn, qv, Nat.reduceAdd]
  refine rf_field (n := 7) (j := 0) rfl rfl rfl Try.underlying70 rfl (by kernel_rfl) rfl ?_
  simp only [Act.put, Act.eval, qn, qv, Nat.reduceAdd]
  refine rf_indexA (n := 2) (sz := 2) (j := 4) rfl rfl rfl rfl Try.underlying68 (by kernel_rfl) (by decide) rfl ?_
  simp only [Act.put, Act.eval, qn, qv, Nat.reduceAdd]
  refine rf_storeR (n := 2) rfl rfl (by kernel_rfl) rfl rfl (UpdR.app _ (UpdR.app _ (UpdR.app _ (UpdR.here _ _ _ (Nat.le_of_ble_eq_true rfl))))) (fun _ h => by cases h) ?_
  simp only [Act.put, Act.eval, qn, qv, Nat.reduceAdd]
  refine rg_nil ?_
  refine ek_block ?_
  refine ek_next ?_
  refine wk_region [0, 0, 0] rfl (by kernel_rfl) ?_
  simp only [List.zip_cons_cons, List.zip_nil_right]
  refine rg_move ?_
  simp only [Act.put, Act.eval, qn, qv, Nat.reduceAdd]
  refine rf_add (r := 3) rfl rfl rfl rfl (by decide) ?_
  simp only [Act.put, Act.eval, qn, qv, Nat.reduceAdd]
  refine rg_assign ?_
  simp only [Act.put, Act.eval, qn, qv, Nat.reduceAdd]
  refine rg_nil ?_
  refine ek_again ?_
  refine wk_seq ?_
  refine wk_seq ?_
  refine wk_region [0, 0] rfl (by kernel_rfl) ?_
  simp only [List.zip_cons_cons, List.zip_nil_right]
  refine rg_move ?_
  simp only [Act.put, Act.eval, qn, qv, Nat.reduceAdd]
  refine rf_lss (b := true) rfl rfl rfl rfl (by decide) ?_
  simp only [Act.put, Act.eval, qn, qv, Nat.reduceAdd]
  refine rg_nil ?_
  refine ek_next ?_
  refine wk_cond_t rfl ?_
  refine wk_skip ?_
  refine ek_next ?_
  refine wk_seq ?_
  refine wk_block ?_
  refine wk_region [0, 0, 0, 0, 0, 1, 0, 0, 1] rfl (by kernel_rfl) ?_
  simp only [List.zip_cons_cons, List.zip_nil_right]
  refine rg_move ?_
  simp only [Act.put, Act.eval, qn, qv, Nat.reduceAdd]
  refine rg_move ?_
  simp only [Act.put, Act.eval, qn, qv, Nat.reduceAdd]
  refine rf_field (n := 3) (j := 0) rfl rfl rfl Try.underlying45 rfl (by kernel_rfl) rfl ?_
  simp only [Act.put, Act.eval, qn, qv, Nat.reduceAdd]
  refine rf_indexA (n := 3) (sz := 1) (j := 3) rfl rfl rfl rfl Try.underlying43 (by kernel_rfl) (by decide) rfl ?_
  simp only [Act.put, Act.eval, qn, qv, Nat.reduceAdd]
  refine rf_load rfl rfl rfl Try.underlying3 rfl (fun w hw => (Kn.hd0 (Kn.tl (Kn.tl (Kn.tlU (Kn.tlU (Kn.tlU hw)))))).at rfl) ?_
  simp only [Act.put, Act.eval, qn, qv, Nat.reduceAdd]
  apply (rg_made (T := fun v u => ∃ s, v = bgV (z.d) s ∧ SU u s (z.d).natAbs)) (by rfl) (by kernel_rfl)
  case hargs => (simp only [qm, qs, Act.eval]; exact rfl)
  case h => exact fun w hw => bigOf_any z.d (by omega) (by omega) w
  case hz => exact (fun _ h => by cases h)
  rintro _ u7 ⟨s7, rfl, hS7⟩
  obtain ⟨⟨sa7, sc7, rfl⟩, -⟩ := id hS7
  simp only [Act.put, Act.eval, qn, qv, Nat.reduceAdd]
  refine rf_field (n := 7) (j := 0) rfl rfl rfl Try.underlying70 rfl (by kernel_rfl) rfl ?_
  simp only [Act.put, Act.eval, qn, qv, Nat.reduceAdd]
  refine rf_indexA (n := 3) (sz := 2) (j := 6) rfl rfl rfl rfl Try.underlying68 (by kernel_rfl) (by decide) rfl ?_
  simp only [Act.put, Act.eval, qn, qv, Nat.reduceAdd]
  refine rf_storeR (n := 2) rfl rfl (by kernel_rfl) rfl rfl (UpdR.app _ (UpdR.app _ (UpdR.app _ (UpdR.app _ (UpdR.here _ _ _ (Nat.le_of_ble_eq_true rfl)))))) (fun _ h => by cases h) ?_
  simp only [Act.put, Act.eval, qn, qv, Nat.reduceAdd]
  refine rg_nil ?_
  refine ek_block ?_
  refine ek_next ?_
  refine wk_region [0, 0, 0] rfl (by kernel_rfl) ?_
  simp only [List.zip_cons_cons, List.zip_nil_right]
  refine rg_move ?_
  simp only [Act.put, Act.eval, qn, qv, Nat.reduceAdd]
  refine rf_add (r := 4) rfl rfl rfl rfl (by decide) ?_
  simp only [Act.put, Act.eval, qn, qv, Nat.reduceAdd]
  refine rg_assign ?_
  simp only [Act.put, Act.eval, qn, qv, Nat.reduceAdd]
  refine rg_nil ?_
  refine ek_again ?_
  refine wk_seq ?_
  refine wk_seq ?_
  refine wk_region [0, 0] rfl (by kernel_rfl) ?_
  simp only [List.zip_cons_cons, List.zip_nil_right]
  refine rg_move ?_
  simp only [Act.put, Act.eval, qn, qv, Nat.reduceAdd]
  refine rf_lss (b := false) rfl rfl rfl rfl (by decide) ?_
  simp only [Act.put, Act.eval, qn, qv, Nat.reduceAdd]
  refine rg_nil ?_
  refine ek_next ?_
  refine wk_cond_f rfl ?_
  refine wk_exit ?_
  refine ek_then_exit ?_
  refine ek_then_exit ?_
  refine ek_block_exit ?_
  refine ek_next ?_
  refine wk_seq ?_
  refine wk_region [0, 0, 0, 1] rfl (by kernel_rfl) ?_
  simp only [List.zip_cons_cons, List.zip_nil_right]
  refine rf_field (n := 0) (j := 4) rfl rfl rfl Try.underlying45 rfl (by kernel_rfl) rfl ?_
  simp only [Act.put, Act.eval, qn, qv, Nat.reduceAdd]
  refine rf_load rfl rfl rfl Try.underlying3 rfl (fun w hw => (Kn.hd0 (Kn.tl (Kn.tl (Kn.tlU (Kn.tlU (Kn.tlU (Kn.tlU hw))))))).at rfl) ?_
  simp only [Act.put, Act.eval, qn, qv, Nat.reduceAdd]
  refine rf_field (n := 0) (j := 8) rfl rfl rfl Try.underlying70 rfl (by kernel_rfl) rfl ?_
  simp only [Act.put, Act.eval, qn, qv, Nat.reduceAdd]
  refine rf_store rfl rfl (by kernel_rfl) rfl rfl (UpdR.app _ (UpdR.app _ (UpdR.app _ (UpdR.app _ (UpdR.here _ _ _ (Nat.le_of_ble_eq_true rfl)))))) (fun _ h => by cases h) ?_
  simp only [Act.put, Act.eval, qn, qv, Nat.reduceAdd]
  refine rg_nil ?_
  refine ek_next ?_
  refine wk_seq ?_
  refine wk_region [0, 1] rfl (by kernel_rfl) ?_
  simp only [List.zip_cons_cons, List.zip_nil_right]
  refine rf_loadR (n := 9) rfl rfl rfl Try.underlying70 rfl (by kernel_rfl) (fun w hw => Kn.hd0 (Kn.tlU (Kn.tlU (Kn.tlU (Kn.tlU hw))))) rfl rfl ?_
  simp only [Act.put, Act.eval, qn, qv, Nat.reduceAdd]
  refine rf_storeR (n := 9) rfl rfl (by kernel_rfl) rfl rfl (UpdR.app _ (UpdR.app _ (UpdR.app _ (UpdR.app _ (UpdR.there _ (UpdR.here _ _ _ (Nat.le_of_ble_eq_true rfl))))))) (fun _ h => by cases h) ?_
  simp only [Act.put, Act.eval, qn, qv, Nat.reduceAdd]
  refine rg_nil ?_
  refine ek_next ?_
  refine wk_ret ?_
  refine ek_ret (fun w hw => ⟨rfl, _, run_results1 rfl rfl (Kn.hd0 (Kn.tl (Kn.tlU (Kn.tlU (Kn.tlU (Kn.tlU hw)))))) Try.underlying70 rfl (by kernel_rfl), ?_⟩)
  (try simp only [Act.put, Act.eval, qn, qv, Nat.reduceAdd])
  exact ⟨_, (u7 ++ (u6 ++ (u5 ++ u4))), rfl, ⟨_, _, _, _, rfl, ⟨(hS4.mono ((((List.Sublist.refl _).trans (List.sublist_append_right _ _)).trans (List.sublist_append_right _ _)).trans (List.sublist_append_right _ _))), (hS5.mono (((List.sublist_append_left _ _).trans (List.sublist_append_right _ _)).trans (List.sublist_append_right _ _))), (hS6.mono ((List.sublist_append_left _ _).trans (List.sublist_append_right _ _))), (hS7.mono (List.sublist_append_left _ _))⟩⟩, hw.made (List.Sublist.append_left (List.Sublist.append_left (List.Sublist.append_left (List.sublist_append_left _ _) _) _) _)⟩

end Go.Proofs.Ytccbinnlnkpplaa
