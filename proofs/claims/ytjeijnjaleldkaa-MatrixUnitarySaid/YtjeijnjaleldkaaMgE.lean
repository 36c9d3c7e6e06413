/- Several texts in one. -/
import Derived.Test.YtjeijnjaleldkaaMgD
import Derived.Test.YtjeijnjaleldkaaDc0
import Derived.Test.YtjeijnjaleldkaaMgB
namespace Go.Proofs.Ytjeijnjaleldkaa
set_option linter.all false
open Go.RowKit

theorem tr_len {z : Nm} (h : z.Fit 9850501549098619803069760025035903451269934817616361666987073351061430442874302652853566563721228910201656997576704) : (digs z.tr.a.natAbs).length ≤ 1000 ∧ (digs z.tr.b.natAbs).length ≤ 1000 ∧ (digs z.tr.c.natAbs).length ≤ 1000 ∧ (digs z.tr.d.natAbs).length ≤ 1000 := by
  obtain ⟨h1, h2, h3, h4, h5, h6, h7, h8⟩ := h
  simp only [Nm.tr]
  exact ⟨len_big (by omega) (by omega), len_big (by omega) (by omega), len_big (by omega) (by omega), len_big (by omega) (by omega)⟩
set_option maxRecDepth 100000 in
set_option maxHeartbeats 2000000 in
theorem wnum_any (z : Nm) (s0 s1 s2 s3 : Value) (hz : z.Fit 9850501549098619803069760025035903451269934817616361666987073351061430442874302652853566563721228910201656997576704) (hk : 0 ≤ z.k) (hk1 : z.k ≤ 10000) (w : World) (hs : SA4 w z s0 s1 s2 s3) : Calls Try.prog 60 #[wdV z s0 s1 s2 s3] w fun e w' => e = .returned (.tuple #[nmV (wnum z).1, .bool (wnum z).2]) ∧ Below w.heap.size w w' := by
  obtain ⟨⟨a0, c0, rfl⟩, ⟨a1, c1, rfl⟩, ⟨a2, c2, rfl⟩, ⟨a3, c3, rfl⟩⟩ := (⟨hs.a.form, hs.b.form, hs.c.form, hs.d.form⟩ : _ ∧ _ ∧ _ ∧ _)
  go_enter Try.func60, Try.ntmps60
  refine wk_start ?_
  refine wk_seq ?_
  refine wk_region [1, 1, 0] rfl (by kernel_rfl) ?_
  simp only [qy]
  refine rg_new (cs := ?_) (ty := ?_) (by rfl) (fun w => ?_) (fun _ h => by cases h) (fun g1 => ?_); rotate_left 2
  focus (go_simp; rfl)
  simp only [qz]
  refine rg_new (cs := ?_) (ty := ?_) (by rfl) (fun w => ?_) (fun _ h => by cases h) (fun g2 => ?_); rotate_left 2
  focus (go_simp; rfl)
  simp only [qz]
  refine rg_assign ?_
  simp only [qz]
  refine rg_nil (ek_next ?_)
  refine wk_cutF [4, 5, 10, 11, 12, 13, 14, 15, 16, 17, 18, 19, 20, 21, 22, 23, 24, 25, 26, 27, 28, 29, 30, 31, 32, 33, 34, 35, 36, 37, 38, 39, 40, 41, 42, 43, 44, 45, 46, 47, 48, 49, 50, 51] (fun f s => ∃ (y : Nm) (ta0 ta1 ta2 ta3 : Option Addr) (tc0 tc1 tc2 tc3 : Nat) (u : List Blk), s = (u ++ ((g2, .cells #[.int .i64 0, .int .i64 0, .int .i64 0, .int .i64 0, .int .i64 0] 29) :: ((g1, .cells #[.bool (decide (y.a < 0)), .slice ta0 (digs y.a.natAbs).length tc0, .bool (decide (y.b < 0)), .slice ta1 (digs y.b.natAbs).length tc1, .bool (decide (y.c < 0)), .slice ta2 (digs y.c.natAbs).length tc2, .bool (decide (y.d < 0)), .slice ta3 (digs y.d.natAbs).length tc3, .int .i64 y.k] 73) :: []))) ∧ Hid (y.nf = z.nf) ∧ y.nf = y ∧ SK4 w u y (.slice ta0 (digs y.a.natAbs).length tc0) (.slice ta1 (digs y.b.natAbs).length tc1) (.slice ta2 (digs y.c.natAbs).length tc2) (.slice ta3 (digs y.d.natAbs).length tc3) ∧ y.Fit 9850501549098619803069760025035903451269934817616361666987073351061430442874302652853566563721228910201656997576704) ?_ ?_
  · refine wk_block ?_
    refine wk_loopF [4, 5, 10, 11, 12, 13, 14, 15, 16, 17, 18, 19, 20, 21, 22, 23, 24, 25, 26, 27, 28, 29, 30, 31, 32, 33, 34, 35, 36, 37, 38, 39, 40, 41, 42, 43, 44, 45, 46, 47, 48, 49, 50, 51] (fun mz f s => ∃ (y : Nm) (ta0 ta1 ta2 ta3 : Option Addr) (tc0 tc1 tc2 tc3 : Nat) (u : List Blk), s = (u ++ ((g2, .cells #[.int .i64 0, .int .i64 0, .int .i64 0, .int .i64 0, .int .i64 0] 29) :: ((g1, .cells #[.bool (decide (y.a < 0)), .slice ta0 (digs y.a.natAbs).length tc0, .bool (decide (y.b < 0)), .slice ta1 (digs y.b.natAbs).length tc1, .bool (decide (y.c < 0)), .slice ta2 (digs y.c.natAbs).length tc2, .bool (decide (y.d < 0)), .slice ta3 (digs y.d.natAbs).length tc3, .int .i64 y.k] 73) :: []))) ∧ mz = y.k.toNat ∧ Hid (y.nf = z.nf) ∧ SK4 w u y (.slice ta0 (digs y.a.natAbs).length tc0) (.slice ta1 (digs y.b.natAbs).length tc1) (.slice ta2 (digs y.c.natAbs).length tc2) (.slice ta3 (digs y.d.natAbs).length tc3) ∧ y.Fit 9850501549098619803069760025035903451269934817616361666987073351061430442874302652853566563721228910201656997576704 ∧ 0 ≤ y.k ∧ y.k ≤ 10000) ((fun (y : Nm) (ta0 ta1 ta2 ta3 : Option Addr) (tc0 tc1 tc2 tc3 : Nat) (u : List Blk) => y.k.toNat) (z) (a0) (a1) (a2) (a3) (c0) (c1) (c2) (c3) ([])) ?_ (by kernel_rfl) ?_
    · exact ⟨z, a0, a1, a2, a3, c0, c1, c2, c3, [], rfl, rfl, Lib.hid rfl, SK4.arg hs, hz, hk, hk1⟩
    rintro mz f1 s ⟨y, ta0, ta1, ta2, ta3, tc0, tc1, tc2, tc3, u, rfl, hn, hd1, hd2, hd3, hd4, hd5⟩
    simp only [Act.putF, List.foldl_cons, List.foldl_nil, Act.put, Act.eval, q1, q2, q3, q4, q5, q6, q7, q8, q9, q10, q11, q12, q13, q14, q15, q16, q17, q18, Nat.reduceAdd, Bool.not_true, Bool.not_false]
    have hnf := hd1
    have hsk := hd2
    have hfit := hd3
    clear hd1 hd2 hd3
    refine wk_seq (wk_seq ?_)
    refine wk_region [0, 0, 0, 0, 0, 0, 0, 0, 0, 0, 1, 1, 0, 0, 0, 0, 0, 0, 0, 0, 1, 1, 0] rfl (by kernel_rfl) ?_
    simp only [qy]
    refine rf_field (n := 0) (j := 8) rfl rfl rfl Try.underlying73 rfl (by kernel_rfl) rfl ?_
    simp only [qz]
    refine rf_load rfl rfl rfl Try.underlying3 rfl (fun w hw => (Kn.hd0 (Kn.tl (Kn.tlU hw))).at rfl) ?_
    simp only [qz]
    refine rfb_gtr rfl rfl rfl rfl ?_
    intro x h1
    cases x
    · (try simp only [qd, ne_eq] at h1)
      simp only [qz]
      refine rg_move ?_
      simp only [qz]
      refine rg_skip (by rfl) ?_
      simp only [qz]
      refine rg_skip (by rfl) ?_
      simp only [qz]
      refine rg_skip (by rfl) ?_
      simp only [qz]
      refine rg_skip (by rfl) ?_
      simp only [qz]
      refine rg_skip (by rfl) ?_
      simp only [qz]
      refine rg_skip (by rfl) ?_
      simp only [qz]
      refine rg_skip_h (by rfl) (fun _ h => by cases h) ?_
      simp only [qz]
      refine rg_skip_h (by rfl) (fun _ h => by cases h) ?_
      simp only [qz]
      refine rf_pick rfl rfl rfl ?_
      simp only [qz]
      refine rg_move ?_
      simp only [qz]
      refine rg_skip (by rfl) ?_
      simp only [qz]
      refine rg_skip (by rfl) ?_
      simp only [qz]
      refine rg_skip (by rfl) ?_
      simp only [qz]
      refine rg_skip (by rfl) ?_
      simp only [qz]
      refine rg_skip (by rfl) ?_
      simp only [qz]
      refine rg_skip (by rfl) ?_
      simp only [qz]
      refine rg_skip_h (by rfl) (fun _ h => by cases h) ?_
      simp only [qz]
      refine rg_skip_h (by rfl) (fun _ h => by cases h) ?_
      simp only [qz]
      refine rf_pick rfl rfl rfl ?_
      simp only [qz]
      refine rg_nil (ek_next (wk_cond_f rfl (wk_exit (ek_then_exit (ek_then_exit (ek_block_exit ?_))))))
      refine ek_midF (by kernel_rfl) ?_
      exact ⟨y, ta0, ta1, ta2, ta3, tc0, tc1, tc2, tc3, u, by rfl, hnf, (nf_stop (fun hh => by have := hh.1; have := hh.2.1; have := hh.2.2; omega)), hsk, hfit⟩
    (try simp only [qd, ne_eq] at h1)
    simp only [qz]
    refine rg_move ?_
    simp only [qz]
    refine rf_field (n := 7) (j := 0) rfl rfl rfl Try.underlying73 rfl (by kernel_rfl) rfl ?_
    simp only [qz]
    refine rf_indexA (n := 0) (sz := 2) (j := 0) rfl rfl rfl rfl Try.underlying71 (by kernel_rfl) (by decide) rfl ?_
    simp only [qz]
    refine rf_loadR (n := 2) rfl rfl rfl Try.underlying70 rfl (by kernel_rfl) (fun w hw => Kn.hd0 (Kn.tl (Kn.tlU hw))) rfl rfl ?_
    simp only [qz]
    refine rf_field (n := 7) (j := 0) rfl rfl rfl Try.underlying73 rfl (by kernel_rfl) rfl ?_
    simp only [qz]
    refine rf_indexA (n := 2) (sz := 2) (j := 4) rfl rfl rfl rfl Try.underlying71 (by kernel_rfl) (by decide) rfl ?_
    simp only [qz]
    refine rf_loadR (n := 2) rfl rfl rfl Try.underlying70 rfl (by kernel_rfl) (fun w hw => Kn.hd0 (Kn.tl (Kn.tlU hw))) rfl rfl ?_
    simp only [qz]
    obtain ⟨la, lb, lc, ld⟩ := fit_big hfit
    obtain ⟨fa0, fa1, fb0, fb1, fc0, fc1, fd0, fd1⟩ := id hfit
    apply (rg_made (T := fun v u => ∃ s, v = bgV (y.a + y.c) s ∧ SU u s (y.a + y.c).natAbs)) (by rfl) (by kernel_rfl)
    case hargs => (simp only [qm, qs, Act.eval]; exact rfl)
    case h => exact fun w hw => badd_any y.a y.c _ _ la lc w (hsk.a.at hw (List.sublist_append_left _ _)) (hsk.c.at hw (List.sublist_append_left _ _))
    case hz => exact (fun _ h => by cases h)
    rintro _ u3 ⟨s3, rfl, hS3⟩
    obtain ⟨⟨sa3, sc3, rfl⟩, -⟩ := id hS3
    simp only [qz]
    apply rg_pureb (by rfl) (by kernel_rfl)
    case hargs => (simp only [qm, qs, Act.eval]; exact rfl)
    case h => exact fun w hw => beven_any (y.a + y.c) _ (len_big (by omega) (by omega)) w (hS3.at hw (List.sublist_append_left _ _))
    case hz => exact (fun _ h => by cases h)
    intro x h2
    cases x
    · (try simp only [qd, ne_eq] at h2)
      simp only [qz]
      refine rf_pick rfl rfl rfl ?_
      simp only [qz]
      refine rg_move ?_
      simp only [qz]
      refine rg_skip (by rfl) ?_
      simp only [qz]
      refine rg_skip (by rfl) ?_
      simp only [qz]
      refine rg_skip (by rfl) ?_
      simp only [qz]
      refine rg_skip (by rfl) ?_
      simp only [qz]
      refine rg_skip (by rfl) ?_
      simp only [qz]
      refine rg_skip (by rfl) ?_
      simp only [qz]
      refine rg_skip_h (by rfl) (fun _ h => by cases h) ?_
      simp only [qz]
      refine rg_skip_h (by rfl) (fun _ h => by cases h) ?_
      simp only [qz]
      refine rf_pick rfl rfl rfl ?_
      simp only [qz]
      refine rg_nil (ek_next (wk_cond_f rfl (wk_exit (ek_then_exit (ek_then_exit (ek_block_exit ?_))))))
      refine ek_sub ((List.Sublist.append_left (sc _ (sc _ sn)) _).trans (List.sublist_append_right _ _)) ?_
      refine ek_midF (by kernel_rfl) ?_
      exact ⟨y, ta0, ta1, ta2, ta3, tc0, tc1, tc2, tc3, u, by rfl, hnf, (nf_stop (fun hh => by have := hh.1; have := hh.2.1; have := hh.2.2; omega)), hsk, hfit⟩
    (try simp only [qd, ne_eq] at h2)
    simp only [qz]
    refine rf_pick rfl rfl rfl ?_
    simp only [qz]
    refine rg_move ?_
    simp only [qz]
    refine rf_field (n := 7) (j := 0) rfl rfl rfl Try.underlying73 rfl (by kernel_rfl) rfl ?_
    simp only [qz]
    refine rf_indexA (n := 1) (sz := 2) (j := 2) rfl rfl rfl rfl Try.underlying71 (by kernel_rfl) (by decide) rfl ?_
    simp only [qz]
    refine rf_loadR (n := 2) rfl rfl rfl Try.underlying70 rfl (by kernel_rfl) (fun w hw => Kn.hd0 (Kn.tl (Kn.tlU (Kn.tlU hw)))) rfl rfl ?_
    simp only [qz]
    refine rf_field (n := 7) (j := 0) rfl rfl rfl Try.underlying73 rfl (by kernel_rfl) rfl ?_
    simp only [qz]
    refine rf_indexA (n := 3) (sz := 2) (j := 6) rfl rfl rfl rfl Try.underlying71 (by kernel_rfl) (by decide) rfl ?_
    simp only [qz]
    refine rf_loadR (n := 2) rfl rfl rfl Try.underlying70 rfl (by kernel_rfl) (fun w hw => Kn.hd0 (Kn.tl (Kn.tlU (Kn.tlU hw)))) rfl rfl ?_
    simp only [qz]
    apply (rg_made (T := fun v u => ∃ s, v = bgV (y.b + y.d) s ∧ SU u s (y.b + y.d).natAbs)) (by rfl) (by kernel_rfl)
    case hargs => (simp only [qm, qs, Act.eval]; exact rfl)
    case h => exact fun w hw => badd_any y.b y.d _ _ lb ld w (hsk.b.at hw ((List.sublist_append_left _ _).trans (List.sublist_append_right _ _))) (hsk.d.at hw ((List.sublist_append_left _ _).trans (List.sublist_append_right _ _)))
    case hz => exact (fun _ h => by cases h)
    rintro _ u4 ⟨s4, rfl, hS4⟩
    obtain ⟨⟨sa4, sc4, rfl⟩, -⟩ := id hS4
    simp only [qz]
    apply rg_pureb (by rfl) (by kernel_rfl)
    case hargs => (simp only [qm, qs, Act.eval]; exact rfl)
    case h => exact fun w hw => beven_any (y.b + y.d) _ (len_big (by omega) (by omega)) w (hS4.at hw (List.sublist_append_left _ _))
    case hz => exact (fun _ h => by cases h)
    intro x h3
    cases x
    · (try simp only [qd, ne_eq] at h3)
      simp only [qz]
      refine rf_pick rfl rfl rfl ?_
      simp only [qz]
      refine rg_nil (ek_next (wk_cond_f rfl (wk_exit (ek_then_exit (ek_then_exit (ek_block_exit ?_))))))
      refine ek_sub (((List.Sublist.append_left (sc _ (sc _ sn)) _).trans (List.sublist_append_right _ _)).trans (List.sublist_append_right _ _)) ?_
      refine ek_midF (by kernel_rfl) ?_
      exact ⟨y, ta0, ta1, ta2, ta3, tc0, tc1, tc2, tc3, u, by rfl, hnf, (nf_stop (fun hh => by have := hh.1; have := hh.2.1; have := hh.2.2; omega)), hsk, hfit⟩
    (try simp only [qd, ne_eq] at h3)
    simp only [qz]
    refine rf_pick rfl rfl rfl ?_
    simp only [qz]
    refine rg_nil (ek_next (wk_cond_t rfl (wk_skip (ek_next (wk_block (wk_seq ?_))))))
    refine wk_region [0, 0, 1, 1, 1] rfl (by kernel_rfl) ?_
    simp only [qy]
    refine rf_field (n := 7) (j := 0) rfl rfl rfl Try.underlying73 rfl (by kernel_rfl) rfl ?_
    simp only [qz]
    refine rf_loadR (n := 8) rfl rfl rfl Try.underlying71 rfl (by kernel_rfl) (fun w hw => Kn.hd0 (Kn.tl (Kn.tlU (Kn.tlU (Kn.tlU hw))))) rfl rfl ?_
    simp only [qz]
    apply (rg_made (T := fun v u => ∃ s0 s1 s2 s3, v = arV (y.tr) s0 s1 s2 s3 ∧ SU4 u (y.tr) s0 s1 s2 s3)) (by rfl) (by kernel_rfl)
    case hargs => (simp only [qm, qs, Act.eval]; exact rfl)
    case h => exact fun w hw => timesR_any y _ _ _ _ hfit w (hsk.at hw (((List.sublist_append_left _ _).trans (List.sublist_append_right _ _)).trans (List.sublist_append_right _ _)))
    case hz => exact (fun _ h => by cases h)
    rintro _ u5 ⟨t0, t1, t2, t3, rfl, hS5⟩
    obtain ⟨⟨ta5_0, tc5_0, rfl⟩, -⟩ := id hS5.a
    obtain ⟨⟨ta5_1, tc5_1, rfl⟩, -⟩ := id hS5.b
    obtain ⟨⟨ta5_2, tc5_2, rfl⟩, -⟩ := id hS5.c
    obtain ⟨⟨ta5_3, tc5_3, rfl⟩, -⟩ := id hS5.d
    simp only [qz]
    obtain ⟨ma, mb, mc, md⟩ := tr_len hfit
    refine rg_new (cs := ?_) (ty := ?_) (by rfl) (fun w => ?_) (fun _ h => by cases h) (fun g6 => ?_); rotate_left 2
    focus (go_simp; rfl)
    simp only [qz]
    refine rf_storeR (n := 8) rfl rfl (by kernel_rfl) rfl rfl (UpdR.here _ _ _ (Nat.le_of_ble_eq_true rfl)) (fun _ h => by cases h) ?_
    simp only [qz, Nat.reduceAdd]
    refine rg_nil (ek_next (wk_seq (wk_seq ?_)))
    refine wk_region [0] rfl (by kernel_rfl) ?_
    simp only [qy]
    refine rg_assign ?_
    simp only [qz]
    refine rg_nil (ek_next (wk_block ?_))
    refine wk_unroll 4 ?_
    refine wk_seq (wk_seq ?_)
    refine wk_region [0, 0] rfl (by kernel_rfl) ?_
    simp only [qy]
    refine rg_move ?_
    simp only [qz]
    refine rf_lss (b := true) rfl rfl rfl rfl (by decide) ?_
    simp only [qz]
    refine rg_nil (ek_next (wk_cond_t rfl (wk_skip (ek_next (wk_seq (wk_block ?_))))))
    refine wk_region [0, 0, 0, 0, 1, 0, 1] rfl (by kernel_rfl) ?_
    simp only [qy]
    refine rg_move ?_
    simp only [qz]
    refine rg_move ?_
    simp only [qz]
    refine rf_indexA (n := 0) (sz := 2) (j := 0) rfl rfl rfl rfl Try.underlying71 (by kernel_rfl) (by decide) rfl ?_
    simp only [qz]
    refine rf_loadR (n := 2) rfl rfl rfl Try.underlying70 rfl (by kernel_rfl) (fun w hw => Kn.hd0 hw) rfl rfl ?_
    simp only [qz]
    apply (rg_made (T := fun v u => ∃ s, v = bgV (y.tr.a / 2) s ∧ SU u s (y.tr.a / 2).natAbs)) (by rfl) (by kernel_rfl)
    case hargs => (simp only [qm, qs, Act.eval]; exact rfl)
    case h => exact fun w hw => bhalf_any y.tr.a _ ma (by simp only [Nm.tr]; omega) w (hS5.a.at hw (List.Sublist.cons _ (List.sublist_append_left _ _)))
    case hz => exact (fun _ h => by cases h)
    rintro _ u7 ⟨s7, rfl, hS7⟩
    obtain ⟨⟨sa7, sc7, rfl⟩, -⟩ := id hS7
    simp only [qz]
    refine rf_indexA (n := 0) (sz := 2) (j := 0) rfl rfl rfl rfl Try.underlying71 (by kernel_rfl) (by decide) rfl ?_
    simp only [qz]
    refine rf_storeR (n := 2) rfl rfl (by kernel_rfl) rfl rfl (UpdR.app _ (UpdR.here _ _ _ (Nat.le_of_ble_eq_true rfl))) (fun _ h => by cases h) ?_
    simp only [qz, Nat.reduceAdd]
    refine rg_nil (ek_block (ek_next ?_))
    refine wk_region [0, 0, 0] rfl (by kernel_rfl) ?_
    simp only [qy]
    refine rg_move ?_
    simp only [qz]
    refine rf_add (r := 1) rfl rfl rfl rfl (by decide) ?_
    simp only [qz]
    refine rg_assign ?_
    simp only [qz]
    refine rg_nil (ek_again (wk_seq (wk_seq ?_)))
    refine wk_region [0, 0] rfl (by kernel_rfl) ?_
    simp only [qy]
    refine rg_move ?_
    simp only [qz]
    refine rf_lss (b := true) rfl rfl rfl rfl (by decide) ?_
    simp only [qz]
    refine rg_nil (ek_next (wk_cond_t rfl (wk_skip (ek_next (wk_seq (wk_block ?_))))))
    refine wk_region [0, 0, 0, 0, 1, 0, 1] rfl (by kernel_rfl) ?_
    simp only [qy]
    refine rg_move ?_
    simp only [qz]
    refine rg_move ?_
    simp only [qz]
    refine rf_indexA (n := 1) (sz := 2) (j := 2) rfl rfl rfl rfl Try.underlying71 (by kernel_rfl) (by decide) rfl ?_
    simp only [qz]
    refine rf_loadR (n := 2) rfl rfl rfl Try.underlying70 rfl (by kernel_rfl) (fun w hw => Kn.hd0 (Kn.tlU hw)) rfl rfl ?_
    simp only [qz]
    apply (rg_made (T := fun v u => ∃ s, v = bgV (y.tr.b / 2) s ∧ SU u s (y.tr.b / 2).natAbs)) (by rfl) (by kernel_rfl)
    case hargs => (simp only [qm, qs, Act.eval]; exact rfl)
    case h => exact fun w hw => bhalf_any y.tr.b _ mb (by simp only [Nm.tr]; omega) w (hS5.b.at hw ((List.Sublist.cons _ (List.sublist_append_left _ _)).trans (List.sublist_append_right _ _)))
    case hz => exact (fun _ h => by cases h)
    rintro _ u8 ⟨s8, rfl, hS8⟩
    obtain ⟨⟨sa8, sc8, rfl⟩, -⟩ := id hS8
    simp only [qz]
    refine rf_indexA (n := 1) (sz := 2) (j := 2) rfl rfl rfl rfl Try.underlying71 (by kernel_rfl) (by decide) rfl ?_
    simp only [qz]
    refine rf_storeR (n := 2) rfl rfl (by kernel_rfl) rfl rfl (UpdR.app _ (UpdR.app _ (UpdR.here _ _ _ (Nat.le_of_ble_eq_true rfl)))) (fun _ h => by cases h) ?_
    simp only [qz, Nat.reduceAdd]
    refine rg_nil (ek_block (ek_next ?_))
    refine wk_region [0, 0, 0] rfl (by kernel_rfl) ?_
    simp only [qy]
    refine rg_move ?_
    simp only [qz]
    refine rf_add (r := 2) rfl rfl rfl rfl (by decide) ?_
    simp only [qz]
    refine rg_assign ?_
    simp only [qz]
    refine rg_nil (ek_again (wk_seq (wk_seq ?_)))
    refine wk_region [0, 0] rfl (by kernel_rfl) ?_
    simp only [qy]
    refine rg_move ?_
    simp only [qz]
    refine rf_lss (b := true) rfl rfl rfl rfl (by decide) ?_
    simp only [qz]
    refine rg_nil (ek_next (wk_cond_t rfl (wk_skip (ek_next (wk_seq (wk_block ?_))))))
    refine wk_region [0, 0, 0, 0, 1, 0, 1] rfl (by kernel_rfl) ?_
    simp only [qy]
    refine rg_move ?_
    simp only [qz]
    refine rg_move ?_
    simp only [qz]
    refine rf_indexA (n := 2) (sz := 2) (j := 4) rfl rfl rfl rfl Try.underlying71 (by kernel_rfl) (by decide) rfl ?_
    simp only [qz]
    refine rf_loadR (n := 2) rfl rfl rfl Try.underlying70 rfl (by kernel_rfl) (fun w hw => Kn.hd0 (Kn.tlU (Kn.tlU hw))) rfl rfl ?_
    simp only [qz]
    apply (rg_made (T := fun v u => ∃ s, v = bgV (y.tr.c / 2) s ∧ SU u s (y.tr.c / 2).natAbs)) (by rfl) (by kernel_rfl)
    case hargs => (simp only [qm, qs, Act.eval]; exact rfl)
    case h => exact fun w hw => bhalf_any y.tr.c _ mc (by simp only [Nm.tr]; omega) w (hS5.c.at hw (((List.Sublist.cons _ (List.sublist_append_left _ _)).trans (List.sublist_append_right _ _)).trans (List.sublist_append_right _ _)))
    case hz => exact (fun _ h => by cases h)
    rintro _ u9 ⟨s9, rfl, hS9⟩
    obtain ⟨⟨sa9, sc9, rfl⟩, -⟩ := id hS9
    simp only [qz]
    refine rf_indexA (n := 2) (sz := 2) (j := 4) rfl rfl rfl rfl Try.underlying71 (by kernel_rfl) (by decide) rfl ?_
    simp only [qz]
    refine rf_storeR (n := 2) rfl rfl (by kernel_rfl) rfl rfl (UpdR.app _ (UpdR.app _ (UpdR.app _ (UpdR.here _ _ _ (Nat.le_of_ble_eq_true rfl))))) (fun _ h => by cases h) ?_
    simp only [qz, Nat.reduceAdd]
    refine rg_nil (ek_block (ek_next ?_))
    refine wk_region [0, 0, 0] rfl (by kernel_rfl) ?_
    simp only [qy]
    refine rg_move ?_
    simp only [qz]
    refine rf_add (r := 3) rfl rfl rfl rfl (by decide) ?_
    simp only [qz]
    refine rg_assign ?_
    simp only [qz]
    refine rg_nil (ek_again (wk_seq (wk_seq ?_)))
    refine wk_region [0, 0] rfl (by kernel_rfl) ?_
    simp only [qy]
    refine rg_move ?_
    simp only [qz]
    refine rf_lss (b := true) rfl rfl rfl rfl (by decide) ?_
    simp only [qz]
    refine rg_nil (ek_next (wk_cond_t rfl (wk_skip (ek_next (wk_seq (wk_block ?_))))))
    refine wk_region [0, 0, 0, 0, 1, 0, 1] rfl (by kernel_rfl) ?_
    simp only [qy]
    refine rg_move ?_
    simp only [qz]
    refine rg_move ?_
    simp only [qz]
    refine rf_indexA (n := 3) (sz := 2) (j := 6) rfl rfl rfl rfl Try.underlying71 (by kernel_rfl) (by decide) rfl ?_
    simp only [qz]
    refine rf_loadR (n := 2) rfl rfl rfl Try.underlying70 rfl (by kernel_rfl) (fun w hw => Kn.hd0 (Kn.tlU (Kn.tlU (Kn.tlU hw)))) rfl rfl ?_
    simp only [qz]
    apply (rg_made (T := fun v u => ∃ s, v = bgV (y.tr.d / 2) s ∧ SU u s (y.tr.d / 2).natAbs)) (by rfl) (by kernel_rfl)
    case hargs => (simp only [qm, qs, Act.eval]; exact rfl)
    case h => exact fun w hw => bhalf_any y.tr.d _ md (by simp only [Nm.tr]; omega) w (hS5.d.at hw ((((List.Sublist.cons _ (List.sublist_append_left _ _)).trans (List.sublist_append_right _ _)).trans (List.sublist_append_right _ _)).trans (List.sublist_append_right _ _)))
    case hz => exact (fun _ h => by cases h)
    rintro _ u10 ⟨s10, rfl, hS10⟩
    obtain ⟨⟨sa10, sc10, rfl⟩, -⟩ := id hS10
    simp only [qz]
    refine rf_indexA (n := 3) (sz := 2) (j := 6) rfl rfl rfl rfl Try.underlying71 (by kernel_rfl) (by decide) rfl ?_
    simp only [qz]
    refine rf_storeR (n := 2) rfl rfl (by kernel_rfl) rfl rfl (UpdR.app _ (UpdR.app _ (UpdR.app _ (UpdR.app _ (UpdR.here _ _ _ (Nat.le_of_ble_eq_true rfl)))))) (fun _ h => by cases h) ?_
    simp only [qz, Nat.reduceAdd]
    refine rg_nil (ek_block (ek_next ?_))
    refine wk_region [0, 0, 0] rfl (by kernel_rfl) ?_
    simp only [qy]
    refine rg_move ?_
    simp only [qz]
    refine rf_add (r := 4) rfl rfl rfl rfl (by decide) ?_
    simp only [qz]
    refine rg_assign ?_
    simp only [qz]
    refine rg_nil (ek_again (wk_seq (wk_seq ?_)))
    refine wk_region [0, 0] rfl (by kernel_rfl) ?_
    simp only [qy]
    refine rg_move ?_
    simp only [qz]
    refine rf_lss (b := false) rfl rfl rfl rfl (by decide) ?_
    simp only [qz]
    refine rg_nil (ek_next (wk_cond_f rfl (wk_exit (ek_then_exit (ek_then_exit (ek_block_exit (ek_next ?_)))))))
    refine wk_region [0, 0, 0, 0, 0, 1, 0, 1] rfl (by kernel_rfl) ?_
    simp only [qy]
    refine rf_loadR (n := 8) rfl rfl rfl Try.underlying71 rfl (by kernel_rfl) (fun w hw => Kn.hd0 (Kn.tlU (Kn.tlU (Kn.tlU (Kn.tlU hw))))) rfl rfl ?_
    simp only [qz]
    refine rf_field (n := 0) (j := 8) rfl rfl rfl Try.underlying73 rfl (by kernel_rfl) rfl ?_
    simp only [qz]
    refine rf_load rfl rfl rfl Try.underlying3 rfl (fun w hw => (Kn.hd0 (Kn.tl (Kn.tlU (Kn.tlU (Kn.tlU (Kn.tlU (Kn.tl (Kn.tlU (Kn.tlU (Kn.tlU (Kn.tlU hw))))))))))).at rfl) ?_
    simp only [qz]
    refine rf_sub rfl rfl rfl rfl (wrap_ok (by omega) (by omega)) ?_
    simp only [qz]
    refine rf_field (n := 7) (j := 0) rfl rfl rfl Try.underlying73 rfl (by kernel_rfl) rfl ?_
    simp only [qz]
    refine rf_storeR (n := 8) rfl rfl (by kernel_rfl) rfl rfl (UpdR.app _ (UpdR.app _ (UpdR.app _ (UpdR.app _ (UpdR.there _ (UpdR.app _ (UpdR.app _ (UpdR.app _ (UpdR.app _ (UpdR.there _ (UpdR.here _ _ _ (Nat.le_of_ble_eq_true rfl)))))))))))) (fun _ h => by cases h) ?_
    simp only [qz, Nat.reduceAdd]
    refine rf_field (n := 0) (j := 8) rfl rfl rfl Try.underlying73 rfl (by kernel_rfl) rfl ?_
    simp only [qz]
    refine rf_store rfl rfl (by kernel_rfl) rfl rfl (UpdR.app _ (UpdR.app _ (UpdR.app _ (UpdR.app _ (UpdR.there _ (UpdR.app _ (UpdR.app _ (UpdR.app _ (UpdR.app _ (UpdR.there _ (UpdR.here _ _ _ (Nat.le_of_ble_eq_true rfl)))))))))))) (fun _ h => by cases h) ?_
    simp only [qz]
    refine rg_nil (ek_block ?_)
    refine ek_sub (List.Sublist.append_left (List.Sublist.append_left (List.Sublist.append_left (List.Sublist.append_left (sk _ (((((sc _ (sc _ sn)).trans (List.sublist_append_right _ _)).trans (List.sublist_append_right _ _)).trans (List.sublist_append_right _ _)).trans (List.sublist_append_right _ _))) _) _) _) _) ?_
    refine ek_roundF (y.step.k.toNat) ((by simp only [Nm.step]; omega)) (by kernel_rfl) ?_
    exact ⟨y.step, sa7, sa8, sa9, sa10, sc7, sc8, sc9, sc10, (u10 ++ (u9 ++ (u8 ++ u7))), (by simp only [List.append_assoc]; rfl), by rfl, (Lib.hid ((nf_step (by omega) ⟨by omega, by omega⟩).symm.trans hnf.out)), ⟨(SK.own (hS7.mono ((((List.Sublist.refl _).trans (List.sublist_append_right _ _)).trans (List.sublist_append_right _ _)).trans (List.sublist_append_right _ _)))), (SK.own (hS8.mono (((List.sublist_append_left _ _).trans (List.sublist_append_right _ _)).trans (List.sublist_append_right _ _)))), (SK.own (hS9.mono ((List.sublist_append_left _ _).trans (List.sublist_append_right _ _)))), (SK.own (hS10.mono (List.sublist_append_left _ _)))⟩, (Nm.step_fit hfit), (by simp only [Nm.step]; omega), (by simp only [Nm.step]; omega)⟩
  rintro f1 s ⟨y, ta0, ta1, ta2, ta3, tc0, tc1, tc2, tc3, u, rfl, hnf, hst, hsk, hfit⟩
  simp only [Act.putF, List.foldl_cons, List.foldl_nil, Act.put, Act.eval, q1, q2, q3, q4, q5, q6, q7, q8, q9, q10, q11, q12, q13, q14, q15, q16, q17, q18, Nat.reduceAdd, Bool.not_true, Bool.not_false]
  have hyz : y = z.nf := hst.symm.trans hnf.out
  replace hyz := Lib.hid hyz
  clear hst hnf
  obtain ⟨la, lb, lc, ld⟩ := fit_big hfit
  refine wk_seq ?_
  refine wk_region [0, 0, 0, 1, 1] rfl (by kernel_rfl) ?_
  simp only [qy]
  refine rf_field (n := 0) (j := 8) rfl rfl rfl Try.underlying73 rfl (by kernel_rfl) rfl ?_
  simp only [qz]
  refine rf_load rfl rfl rfl Try.underlying3 rfl (fun w hw => (Kn.hd0 (Kn.tl (Kn.tlU hw))).at rfl) ?_
  simp only [qz]
  refine rf_build (cs := fun a => #[.int .i64 0, .int .i64 0, .int .i64 0, .int .i64 0, a.eval (.tmp 53)]) rfl rfl (by kernel_rfl) ?_
  simp only [qz]
  refine rg_new (cs := ?_) (ty := ?_) (by rfl) (fun w => ?_) (fun _ h => by cases h) (fun g11 => ?_); rotate_left 2
  focus (go_simp; rfl)
  simp only [qz]
  refine rf_storeR (n := 5) rfl rfl (by kernel_rfl) rfl rfl (UpdR.here _ _ _ (Nat.le_of_ble_eq_true rfl)) (fun _ h => by cases h) ?_
  simp only [qz, Nat.reduceAdd]
  refine rg_nil (ek_next (wk_seq (wk_seq ?_)))
  refine wk_region [0] rfl (by kernel_rfl) ?_
  simp only [qy]
  refine rg_assign ?_
  simp only [qz]
  refine rg_nil (ek_next (wk_block ?_))
  refine wk_unroll 4 ?_
  refine wk_seq (wk_seq ?_)
  refine wk_region [0, 0] rfl (by kernel_rfl) ?_
  simp only [qy]
  refine rg_move ?_
  simp only [qz]
  refine rf_lss (b := true) rfl rfl rfl rfl (by decide) ?_
  simp only [qz]
  refine rg_nil (ek_next (wk_cond_t rfl (wk_skip (ek_next (wk_seq (wk_block (wk_seq ?_)))))))
  refine wk_region [0, 0, 0, 0, 1, 0, 0, 0, 0, 0] rfl (by kernel_rfl) ?_
  simp only [qy]
  refine rg_move ?_
  simp only [qz]
  refine rf_field (n := 7) (j := 0) rfl rfl rfl Try.underlying73 rfl (by kernel_rfl) rfl ?_
  simp only [qz]
  refine rf_indexA (n := 0) (sz := 2) (j := 0) rfl rfl rfl rfl Try.underlying71 (by kernel_rfl) (by decide) rfl ?_
  simp only [qz]
  refine rf_loadR (n := 2) rfl rfl rfl Try.underlying70 rfl (by kernel_rfl) (fun w hw => Kn.hd0 (Kn.tl (Kn.tlU (Kn.tl hw)))) rfl rfl ?_
  simp only [qz]
  cases hq0 : smB y.a
  · apply rg_pure (by rfl) (by kernel_rfl)
    case hargs => (simp only [qm, qs, Act.eval]; exact rfl)
    case h => exact fun w hw => by have := bsmall_any y.a _ la w (hsk.a.at hw (List.Sublist.cons _ (List.sublist_append_left _ _))); rw [hq0] at this; exact this
    case hz => exact (fun _ h => by cases h)
    simp only [qz]
    refine rg_move ?_
    simp only [qz]
    refine rf_extract rfl rfl rfl rfl ?_
    simp only [qz]
    refine rf_extract rfl rfl rfl rfl ?_
    simp only [qz]
    refine rg_assign ?_
    simp only [qz]
    refine rg_assign ?_
    simp only [qz]
    refine rg_nil (ek_next (wk_seq (wk_seq ?_)))
    refine wk_region [0, 0] rfl (by kernel_rfl) ?_
    simp only [qy]
    refine rg_move ?_
    simp only [qz]
    refine rf_not rfl rfl rfl ?_
    simp only [qz]
    refine rg_nil (ek_next (wk_cond_t rfl (wk_seq ?_)))
    refine wk_region [0, 1, 0] rfl (by kernel_rfl) ?_
    simp only [qy]
    refine rf_build (cs := fun a => #[.int .i64 0, .int .i64 0, .int .i64 0, .int .i64 0, .int .i64 0]) rfl rfl (by kernel_rfl) ?_
    simp only [qz]
    refine rf_storeR (n := 5) rfl rfl (by kernel_rfl) rfl rfl (UpdR.there _ (UpdR.app _ (UpdR.here _ _ _ (Nat.le_of_ble_eq_true rfl)))) (fun _ h => by cases h) ?_
    simp only [qz, Nat.reduceAdd]
    refine rg_assign ?_
    simp only [qz]
    refine rg_nil (ek_next (wk_ret (ek_then_ret (ek_block_ret (ek_then_ret (ek_then_ret (ek_block_ret (ek_then_ret ?_))))))))
    refine ek_ret (fun w hw => ⟨rfl, _, run_results2 rfl rfl (Kn.hd0 (Kn.tlU (Kn.tl hw))) Try.underlying29 rfl (by kernel_rfl), ?_⟩)
    (try simp only [qz])
    exact ⟨by unfold wnum; rw [← hyz.out]; unfold numOk; simp [*, Nm.zero], hw.below⟩
  apply rg_pure (by rfl) (by kernel_rfl)
  case hargs => (simp only [qm, qs, Act.eval]; exact rfl)
  case h => exact fun w hw => by have := bsmall_any y.a _ la w (hsk.a.at hw (List.Sublist.cons _ (List.sublist_append_left _ _))); rw [hq0] at this; exact this
  case hz => exact (fun _ h => by cases h)
  simp only [qz]
  refine rg_move ?_
  simp only [qz]
  refine rf_extract rfl rfl rfl rfl ?_
  simp only [qz]
  refine rf_extract rfl rfl rfl rfl ?_
  simp only [qz]
  refine rg_assign ?_
  simp only [qz]
  refine rg_assign ?_
  simp only [qz]
  refine rg_nil (ek_next (wk_seq (wk_seq ?_)))
  refine wk_region [0, 0] rfl (by kernel_rfl) ?_
  simp only [qy]
  refine rg_move ?_
  simp only [qz]
  refine rf_not rfl rfl rfl ?_
  simp only [qz]
  refine rg_nil (ek_next (wk_cond_f rfl (wk_skip (ek_next ?_))))
  refine wk_region [0, 0, 0, 0, 1] rfl (by kernel_rfl) ?_
  simp only [qy]
  refine rg_move ?_
  simp only [qz]
  refine rg_move ?_
  simp only [qz]
  refine rf_field (n := 3) (j := 0) rfl rfl rfl Try.underlying29 rfl (by kernel_rfl) rfl ?_
  simp only [qz]
  refine rf_indexA (n := 0) (sz := 1) (j := 0) rfl rfl rfl rfl Try.underlying27 (by kernel_rfl) (by decide) rfl ?_
  simp only [qz]
  refine rf_store rfl rfl (by kernel_rfl) rfl rfl (UpdR.here _ _ _ (Nat.le_of_ble_eq_true rfl)) (fun _ h => by cases h) ?_
  simp only [qz]
  refine rg_nil (ek_block (ek_next ?_))
  refine wk_region [0, 0, 0] rfl (by kernel_rfl) ?_
  simp only [qy]
  refine rg_move ?_
  simp only [qz]
  refine rf_add (r := 1) rfl rfl rfl rfl (by decide) ?_
  simp only [qz]
  refine rg_assign ?_
  simp only [qz]
  refine rg_nil (ek_again (wk_seq (wk_seq ?_)))
  refine wk_region [0, 0] rfl (by kernel_rfl) ?_
  simp only [qy]
  refine rg_move ?_
  simp only [qz]
  refine rf_lss (b := true) rfl rfl rfl rfl (by decide) ?_
  simp only [qz]
  refine rg_nil (ek_next (wk_cond_t rfl (wk_skip (ek_next (wk_seq (wk_block (wk_seq ?_)))))))
  refine wk_region [0, 0, 0, 0, 1, 0, 0, 0, 0, 0] rfl (by kernel_rfl) ?_
  simp only [qy]
  refine rg_move ?_
  simp only [qz]
  refine rf_field (n := 7) (j := 0) rfl rfl rfl Try.underlying73 rfl (by kernel_rfl) rfl ?_
  simp only [qz]
  refine rf_indexA (n := 1) (sz := 2) (j := 2) rfl rfl rfl rfl Try.underlying71 (by kernel_rfl) (by decide) rfl ?_
  simp only [qz]
  refine rf_loadR (n := 2) rfl rfl rfl Try.underlying70 rfl (by kernel_rfl) (fun w hw => Kn.hd0 (Kn.tl (Kn.tlU (Kn.tl hw)))) rfl rfl ?_
  simp only [qz]
  cases hq1 : smB y.b
  · apply rg_pure (by rfl) (by kernel_rfl)
    case hargs => (simp only [qm, qs, Act.eval]; exact rfl)
    case h => exact fun w hw => by have := bsmall_any y.b _ lb w (hsk.b.at hw (List.Sublist.cons _ (List.sublist_append_left _ _))); rw [hq1] at this; exact this
    case hz => exact (fun _ h => by cases h)
    simp only [qz]
    refine rg_move ?_
    simp only [qz]
    refine rf_extract rfl rfl rfl rfl ?_
    simp only [qz]
    refine rf_extract rfl rfl rfl rfl ?_
    simp only [qz]
    refine rg_assign ?_
    simp only [qz]
    refine rg_assign ?_
    simp only [qz]
    refine rg_nil (ek_next (wk_seq (wk_seq ?_)))
    refine wk_region [0, 0] rfl (by kernel_rfl) ?_
    simp only [qy]
    refine rg_move ?_
    simp only [qz]
    refine rf_not rfl rfl rfl ?_
    simp only [qz]
    refine rg_nil (ek_next (wk_cond_t rfl (wk_seq ?_)))
    refine wk_region [0, 1, 0] rfl (by kernel_rfl) ?_
    simp only [qy]
    refine rf_build (cs := fun a => #[.int .i64 0, .int .i64 0, .int .i64 0, .int .i64 0, .int .i64 0]) rfl rfl (by kernel_rfl) ?_
    simp only [qz]
    refine rf_storeR (n := 5) rfl rfl (by kernel_rfl) rfl rfl (UpdR.there _ (UpdR.app _ (UpdR.here _ _ _ (Nat.le_of_ble_eq_true rfl)))) (fun _ h => by cases h) ?_
    simp only [qz, Nat.reduceAdd]
    refine rg_assign ?_
    simp only [qz]
    refine rg_nil (ek_next (wk_ret (ek_then_ret (ek_block_ret (ek_then_ret (ek_then_ret (ek_block_ret (ek_then_ret ?_))))))))
    refine ek_ret (fun w hw => ⟨rfl, _, run_results2 rfl rfl (Kn.hd0 (Kn.tlU (Kn.tl hw))) Try.underlying29 rfl (by kernel_rfl), ?_⟩)
    (try simp only [qz])
    exact ⟨by unfold wnum; rw [← hyz.out]; unfold numOk; simp [*, Nm.zero], hw.below⟩
  apply rg_pure (by rfl) (by kernel_rfl)
  case hargs => (simp only [qm, qs, Act.eval]; exact rfl)
  case h => exact fun w hw => by have := bsmall_any y.b _ lb w (hsk.b.at hw (List.Sublist.cons _ (List.sublist_append_left _ _))); rw [hq1] at this; exact this
  case hz => exact (fun _ h => by cases h)
  simp only [qz]
  refine rg_move ?_
  simp only [qz]
  refine rf_extract rfl rfl rfl rfl ?_
  simp only [qz]
  refine rf_extract rfl rfl rfl rfl ?_
  simp only [qz]
  refine rg_assign ?_
  simp only [qz]
  refine rg_assign ?_
  simp only [qz]
  refine rg_nil (ek_next (wk_seq (wk_seq ?_)))
  refine wk_region [0, 0] rfl (by kernel_rfl) ?_
  simp only [qy]
  refine rg_move ?_
  simp only [qz]
  refine rf_not rfl rfl rfl ?_
  simp only [qz]
  refine rg_nil (ek_next (wk_cond_f rfl (wk_skip (ek_next ?_))))
  refine wk_region [0, 0, 0, 0, 1] rfl (by kernel_rfl) ?_
  simp only [qy]
  refine rg_move ?_
  simp only [qz]
  refine rg_move ?_
  simp only [qz]
  refine rf_field (n := 3) (j := 0) rfl rfl rfl Try.underlying29 rfl (by kernel_rfl) rfl ?_
  simp only [qz]
  refine rf_indexA (n := 1) (sz := 1) (j := 1) rfl rfl rfl rfl Try.underlying27 (by kernel_rfl) (by decide) rfl ?_
  simp only [qz]
  refine rf_store rfl rfl (by kernel_rfl) rfl rfl (UpdR.here _ _ _ (Nat.le_of_ble_eq_true rfl)) (fun _ h => by cases h) ?_
  simp only [qz]
  refine rg_nil (ek_block (ek_next ?_))
  refine wk_region [0, 0, 0] rfl (by kernel_rfl) ?_
  simp only [qy]
  refine rg_move ?_
  simp only [qz]
  refine rf_add (r := 2) rfl rfl rfl rfl (by decide) ?_
  simp only [qz]
  refine rg_assign ?_
  simp only [qz]
  refine rg_nil (ek_again (wk_seq (wk_seq ?_)))
  refine wk_region [0, 0] rfl (by kernel_rfl) ?_
  simp only [qy]
  refine rg_move ?_
  simp only [qz]
  refine rf_lss (b := true) rfl rfl rfl rfl (by decide) ?_
  simp only [qz]
  refine rg_nil (ek_next (wk_cond_t rfl (wk_skip (ek_next (wk_seq (wk_block (wk_seq ?_)))))))
  refine wk_region [0, 0, 0, 0, 1, 0, 0, 0, 0, 0] rfl (by kernel_rfl) ?_
  simp only [qy]
  refine rg_move ?_
  simp only [qz]
  refine rf_field (n := 7) (j := 0) rfl rfl rfl Try.underlying73 rfl (by kernel_rfl) rfl ?_
  simp only [qz]
  refine rf_indexA (n := 2) (sz := 2) (j := 4) rfl rfl rfl rfl Try.underlying71 (by kernel_rfl) (by decide) rfl ?_
  simp only [qz]
  refine rf_loadR (n := 2) rfl rfl rfl Try.underlying70 rfl (by kernel_rfl) (fun w hw => Kn.hd0 (Kn.tl (Kn.tlU (Kn.tl hw)))) rfl rfl ?_
  simp only [qz]
  cases hq2 : smB y.c
  · apply rg_pure (by rfl) (by kernel_rfl)
    case hargs => (simp only [qm, qs, Act.eval]; exact rfl)
    case h => exact fun w hw => by have := bsmall_any y.c _ lc w (hsk.c.at hw (List.Sublist.cons _ (List.sublist_append_left _ _))); rw [hq2] at this; exact this
    case hz => exact (fun _ h => by cases h)
    simp only [qz]
    refine rg_move ?_
    simp only [qz]
    refine rf_extract rfl rfl rfl rfl ?_
    simp only [qz]
    refine rf_extract rfl rfl rfl rfl ?_
    simp only [qz]
    refine rg_assign ?_
    simp only [qz]
    refine rg_assign ?_
    simp only [qz]
    refine rg_nil (ek_next (wk_seq (wk_seq ?_)))
    refine wk_region [0, 0] rfl (by kernel_rfl) ?_
    simp only [qy]
    refine rg_move ?_
    simp only [qz]
    refine rf_not rfl rfl rfl ?_
    simp only [qz]
    refine rg_nil (ek_next (wk_cond_t rfl (wk_seq ?_)))
    refine wk_region [0, 1, 0] rfl (by kernel_rfl) ?_
    simp only [qy]
    refine rf_build (cs := fun a => #[.int .i64 0, .int .i64 0, .int .i64 0, .int .i64 0, .int .i64 0]) rfl rfl (by kernel_rfl) ?_
    simp only [qz]
    refine rf_storeR (n := 5) rfl rfl (by kernel_rfl) rfl rfl (UpdR.there _ (UpdR.app _ (UpdR.here _ _ _ (Nat.le_of_ble_eq_true rfl)))) (fun _ h => by cases h) ?_
    simp only [qz, Nat.reduceAdd]
    refine rg_assign ?_
    simp only [qz]
    refine rg_nil (ek_next (wk_ret (ek_then_ret (ek_block_ret (ek_then_ret (ek_then_ret (ek_block_ret (ek_then_ret ?_))))))))
    refine ek_ret (fun w hw => ⟨rfl, _, run_results2 rfl rfl (Kn.hd0 (Kn.tlU (Kn.tl hw))) Try.underlying29 rfl (by kernel_rfl), ?_⟩)
    (try simp only [qz])
    exact ⟨by unfold wnum; rw [← hyz.out]; unfold numOk; simp [*, Nm.zero], hw.below⟩
  apply rg_pure (by rfl) (by kernel_rfl)
  case hargs => (simp only [qm, qs, Act.eval]; exact rfl)
  case h => exact fun w hw => by have := bsmall_any y.c _ lc w (hsk.c.at hw (List.Sublist.cons _ (List.sublist_append_left _ _))); rw [hq2] at this; exact this
  case hz => exact (fun _ h => by cases h)
  simp only [qz]
  refine rg_move ?_
  simp only [qz]
  refine rf_extract rfl rfl rfl rfl ?_
  simp only [qz]
  refine rf_extract rfl rfl rfl rfl ?_
  simp only [qz]
  refine rg_assign ?_
  simp only [qz]
  refine rg_assign ?_
  simp only [qz]
  refine rg_nil (ek_next (wk_seq (wk_seq ?_)))
  refine wk_region [0, 0] rfl (by kernel_rfl) ?_
  simp only [qy]
  refine rg_move ?_
  simp only [qz]
  refine rf_not rfl rfl rfl ?_
  simp only [qz]
  refine rg_nil (ek_next (wk_cond_f rfl (wk_skip (ek_next ?_))))
  refine wk_region [0, 0, 0, 0, 1] rfl (by kernel_rfl) ?_
  simp only [qy]
  refine rg_move ?_
  simp only [qz]
  refine rg_move ?_
  simp only [qz]
  refine rf_field (n := 3) (j := 0) rfl rfl rfl Try.underlying29 rfl (by kernel_rfl) rfl ?_
  simp only [qz]
  refine rf_indexA (n := 2) (sz := 1) (j := 2) rfl rfl rfl rfl Try.underlying27 (by kernel_rfl) (by decide) rfl ?_
  simp only [qz]
  refine rf_store rfl rfl (by kernel_rfl) rfl rfl (UpdR.here _ _ _ (Nat.le_of_ble_eq_true rfl)) (fun _ h => by cases h) ?_
  simp only [qz]
  refine rg_nil (ek_block (ek_next ?_))
  refine wk_region [0, 0, 0] rfl (by kernel_rfl) ?_
  simp only [qy]
  refine rg_move ?_
  simp only [qz]
  refine rf_add (r := 3) rfl rfl rfl rfl (by decide) ?_
  simp only [qz]
  refine rg_assign ?_
  simp only [qz]
  refine rg_nil (ek_again (wk_seq (wk_seq ?_)))
  refine wk_region [0, 0] rfl (by kernel_rfl) ?_
  simp only [qy]
  refine rg_move ?_
  simp only [qz]
  refine rf_lss (b := true) rfl rfl rfl rfl (by decide) ?_
  simp only [qz]
  refine rg_nil (ek_next (wk_cond_t rfl (wk_skip (ek_next (wk_seq (wk_block (wk_seq ?_)))))))
  refine wk_region [0, 0, 0, 0, 1, 0, 0, 0, 0, 0] rfl (by kernel_rfl) ?_
  simp only [qy]
  refine rg_move ?_
  simp only [qz]
  refine rf_field (n := 7) (j := 0) rfl rfl rfl Try.underlying73 rfl (by kernel_rfl) rfl ?_
  simp only [qz]
  refine rf_indexA (n := 3) (sz := 2) (j := 6) rfl rfl rfl rfl Try.underlying71 (by kernel_rfl) (by decide) rfl ?_
  simp only [qz]
  refine rf_loadR (n := 2) rfl rfl rfl Try.underlying70 rfl (by kernel_rfl) (fun w hw => Kn.hd0 (Kn.tl (Kn.tlU (Kn.tl hw)))) rfl rfl ?_
  simp only [qz]
  cases hq3 : smB y.d
  · apply rg_pure (by rfl) (by kernel_rfl)
    case hargs => (simp only [qm, qs, Act.eval]; exact rfl)
    case h => exact fun w hw => by have := bsmall_any y.d _ ld w (hsk.d.at hw (List.Sublist.cons _ (List.sublist_append_left _ _))); rw [hq3] at this; exact this
    case hz => exact (fun _ h => by cases h)
    simp only [qz]
    refine rg_move ?_
    simp only [qz]
    refine rf_extract rfl rfl rfl rfl ?_
    simp only [qz]
    refine rf_extract rfl rfl rfl rfl ?_
    simp only [qz]
    refine rg_assign ?_
    simp only [qz]
    refine rg_assign ?_
    simp only [qz]
    refine rg_nil (ek_next (wk_seq (wk_seq ?_)))
    refine wk_region [0, 0] rfl (by kernel_rfl) ?_
    simp only [qy]
    refine rg_move ?_
    simp only [qz]
    refine rf_not rfl rfl rfl ?_
    simp only [qz]
    refine rg_nil (ek_next (wk_cond_t rfl (wk_seq ?_)))
    refine wk_region [0, 1, 0] rfl (by kernel_rfl) ?_
    simp only [qy]
    refine rf_build (cs := fun a => #[.int .i64 0, .int .i64 0, .int .i64 0, .int .i64 0, .int .i64 0]) rfl rfl (by kernel_rfl) ?_
    simp only [qz]
    refine rf_storeR (n := 5) rfl rfl (by kernel_rfl) rfl rfl (UpdR.there _ (UpdR.app _ (UpdR.here _ _ _ (Nat.le_of_ble_eq_true rfl)))) (fun _ h => by cases h) ?_
    simp only [qz, Nat.reduceAdd]
    refine rg_assign ?_
    simp only [qz]
    refine rg_nil (ek_next (wk_ret (ek_then_ret (ek_block_ret (ek_then_ret (ek_then_ret (ek_block_ret (ek_then_ret ?_))))))))
    refine ek_ret (fun w hw => ⟨rfl, _, run_results2 rfl rfl (Kn.hd0 (Kn.tlU (Kn.tl hw))) Try.underlying29 rfl (by kernel_rfl), ?_⟩)
    (try simp only [qz])
    exact ⟨by unfold wnum; rw [← hyz.out]; unfold numOk; simp [*, Nm.zero], hw.below⟩
  apply rg_pure (by rfl) (by kernel_rfl)
  case hargs => (simp only [qm, qs, Act.eval]; exact rfl)
  case h => exact fun w hw => by have := bsmall_any y.d _ ld w (hsk.d.at hw (List.Sublist.cons _ (List.sublist_append_left _ _))); rw [hq3] at this; exact this
  case hz => exact (fun _ h => by cases h)
  simp only [qz]
  refine rg_move ?_
  simp only [qz]
  refine rf_extract rfl rfl rfl rfl ?_
  simp only [qz]
  refine rf_extract rfl rfl rfl rfl ?_
  simp only [qz]
  refine rg_assign ?_
  simp only [qz]
  refine rg_assign ?_
  simp only [qz]
  refine rg_nil (ek_next (wk_seq (wk_seq ?_)))
  refine wk_region [0, 0] rfl (by kernel_rfl) ?_
  simp only [qy]
  refine rg_move ?_
  simp only [qz]
  refine rf_not rfl rfl rfl ?_
  simp only [qz]
  refine rg_nil (ek_next (wk_cond_f rfl (wk_skip (ek_next ?_))))
  refine wk_region [0, 0, 0, 0, 1] rfl (by kernel_rfl) ?_
  simp only [qy]
  refine rg_move ?_
  simp only [qz]
  refine rg_move ?_
  simp only [qz]
  refine rf_field (n := 3) (j := 0) rfl rfl rfl Try.underlying29 rfl (by kernel_rfl) rfl ?_
  simp only [qz]
  refine rf_indexA (n := 3) (sz := 1) (j := 3) rfl rfl rfl rfl Try.underlying27 (by kernel_rfl) (by decide) rfl ?_
  simp only [qz]
  refine rf_store rfl rfl (by kernel_rfl) rfl rfl (UpdR.here _ _ _ (Nat.le_of_ble_eq_true rfl)) (fun _ h => by cases h) ?_
  simp only [qz]
  refine rg_nil (ek_block (ek_next ?_))
  refine wk_region [0, 0, 0] rfl (by kernel_rfl) ?_
  simp only [qy]
  refine rg_move ?_
  simp only [qz]
  refine rf_add (r := 4) rfl rfl rfl rfl (by decide) ?_
  simp only [qz]
  refine rg_assign ?_
  simp only [qz]
  refine rg_nil (ek_again (wk_seq (wk_seq ?_)))
  refine wk_region [0, 0] rfl (by kernel_rfl) ?_
  simp only [qy]
  refine rg_move ?_
  simp only [qz]
  refine rf_lss (b := false) rfl rfl rfl rfl (by decide) ?_
  simp only [qz]
  refine rg_nil (ek_next (wk_cond_f rfl (wk_exit (ek_then_exit (ek_then_exit (ek_block_exit (ek_next (wk_seq ?_))))))))
  refine wk_draws_m (hz1 := (sc _ (List.Sublist.append_left (sk _ (sc _ sn)) _))) [(0, 0), (1, 3), (2, 3), (3, 3), (4, 2), (5, 0)] 4 (by kernel_rfl) (by kernel_rfl) (fun c d v a w h => by cases d <;> exact h) ?_
  simp only [List.map_cons, List.map_nil, List.getD_cons_zero, List.getD_cons_succ]
  refine rf_loadR (n := 5) rfl rfl rfl Try.underlying29 rfl (by kernel_rfl) (fun w hw => Kn.hd0 hw) rfl rfl ?_
  simp only [qz]
  refine rf_field (n := 0) (j := 8) rfl rfl rfl Try.underlying73 rfl (by kernel_rfl) rfl ?_
  simp only [qz]
  refine rf_load rfl rfl rfl Try.underlying3 rfl (fun w hw => (Kn.hd0 (Kn.tlU (Kn.tl hw))).at rfl) ?_
  simp only [qz]
  refine rf_leq rfl rfl rfl rfl rfl ?_
  simp only [qz]
  refine rf_storeRM (n := 5) rfl rfl (by kernel_rfl) rfl rfl (UpdR.there _ (UpdR.app _ (UpdR.here _ _ _ (Nat.le_of_ble_eq_true rfl)))) (sc _ (List.Sublist.append_left (sk _ (sc _ sn)) _)) ?_
  simp only [qz, Nat.reduceAdd]
  refine rg_assign ?_
  simp only [qz]
  refine rg_nil (ek_next (wk_ret ?_))
  refine ek_ret (fun w hw => ⟨rfl, _, run_results2 rfl rfl (Kn.hd0 (Kn.tlU (Kn.tl hw))) Try.underlying29 rfl (by kernel_rfl), ?_⟩)
  (try simp only [qz])
  exact ⟨by unfold wnum; rw [← hyz.out]; unfold numOk; simp [*, Nm.zero], hw.below⟩

end Go.Proofs.Ytjeijnjaleldkaa
namespace Go.Proofs.Ytjeijnjaleldkaa
set_option linter.all false
open Go.RowKit

theorem fit382 {z : Nm} (h : z.Fit 1000000000) : z.Fit 9850501549098619803069760025035903451269934817616361666987073351061430442874302652853566563721228910201656997576704 := Nm.fit_mono h (by decide)
theorem to_fit {z : Nm} {m : Int} (h : z.Fit 1000000000) (h0 : z.k ≤ m) (h1 : m - z.k ≤ 40) : (z.to m).Fit 9850501549098619803069760025035903451269934817616361666987073351061430442874302652853566563721228910201656997576704 := by
  unfold Nm.to
  exact Nm.fit_mono (Nm.up40_fit (n := (m - z.k).toNat) h (by omega)) (by decide)
theorem addR_fitW {x y : Nm} (hx : x.Ok) (hy : y.Ok) : (x.addR y).Fit 9850501549098619803069760025035903451269934817616361666987073351061430442874302652853566563721228910201656997576704 := Nm.fit_mono (addR_fit hx hy) (by decide)
theorem mulR_fitW {x y : Nm} (hx : x.Ok) (hy : y.Ok) : (x.mulR y).Fit 9850501549098619803069760025035903451269934817616361666987073351061430442874302652853566563721228910201656997576704 := Nm.fit_mono (mulR_fit hx.fit hy.fit) (by decide)
end Go.Proofs.Ytjeijnjaleldkaa
namespace Go.Proofs.Ytjeijnjaleldkaa
set_option linter.all false
open Go.RowKit

set_option maxRecDepth 100000 in
set_option maxHeartbeats 1000000 in
theorem rnumber_any (z : Nm) (s0 s1 s2 s3 : Value) (hz : z.Fit 9850501549098619803069760025035903451269934817616361666987073351061430442874302652853566563721228910201656997576704) (hk : 0 ≤ z.k) (hk1 : z.k ≤ 10000) (w : World) (hs : SA4 w z s0 s1 s2 s3) : Calls Try.prog 66 #[wdV z s0 s1 s2 s3] w fun e w' => e = .returned (numV z.mk') ∧ Below w.heap.size w w' := by
  have cn := wnum_any z s0 s1 s2 s3 hz hk hk1
  have hr := wnum_numV (z := z)
  obtain ⟨⟨v, b⟩, hv⟩ : ∃ r, wnum z = r := ⟨_, rfl⟩
  rw [hv] at cn hr
  replace hr := Lib.hid hr
  replace cn := Lib.hid cn
  clear hv
  go_enter Try.func66, Try.ntmps66
  refine wk_start ?_
  refine wk_seq ?_
  refine wk_region [1, 1, 0] rfl (by kernel_rfl) ?_
  simp only [qy]
  refine rg_new (cs := ?_) (ty := ?_) (by rfl) (fun w => ?_) (fun _ h => by cases h) (fun g1 => ?_); rotate_left 2
  focus (go_simp; rfl)
  simp only [qz]
  refine rg_new (cs := ?_) (ty := ?_) (by rfl) (fun w => ?_) (fun _ h => by cases h) (fun g2 => ?_); rotate_left 2
  focus (go_simp; rfl)
  simp only [qz]
  refine rg_assign ?_
  simp only [qz]
  refine rg_nil (ek_next (wk_seq ?_))
  refine wk_region [0, 1, 0, 0, 0, 1, 1, 0] rfl (by kernel_rfl) ?_
  simp only [qy]
  refine rf_loadR (n := 9) rfl rfl rfl Try.underlying73 rfl (by kernel_rfl) (fun w hw => Kn.hd0 (Kn.tl hw)) rfl rfl ?_
  simp only [qz]
  apply rg_pure (by rfl) (by kernel_rfl)
  case hargs => (simp only [qm, qs, Act.eval]; exact rfl)
  case h => exact fun w hw => cn.out w (hs.kn hw)
  case hz => exact (fun _ h => by cases h)
  simp only [qz]
  refine rg_move ?_
  simp only [qz]
  refine rf_extract rfl rfl rfl rfl ?_
  simp only [qz]
  refine rf_extract rfl rfl rfl rfl ?_
  simp only [qz]
  refine rg_new (cs := ?_) (ty := ?_) (by rfl) (fun w => ?_) (fun _ h => by cases h) (fun g3 => ?_); rotate_left 2
  focus (go_simp; rfl)
  simp only [qz]
  refine rf_storeR (n := 5) rfl rfl (by kernel_rfl) rfl rfl (UpdR.here _ _ _ (Nat.le_of_ble_eq_true rfl)) (fun _ h => by cases h) ?_
  simp only [qz, Nat.reduceAdd]
  refine rg_assign ?_
  simp only [qz]
  refine rg_nil (ek_next (wk_seq (wk_seq ?_)))
  refine wk_region [0, 0] rfl (by kernel_rfl) ?_
  simp only [qy]
  refine rg_move ?_
  simp only [qz]
  apply rg_softb
  case hy => (intro w hw; go_simp; (try go_bits); exact Yld.mk _ _)
  intro x h1
  cases x
  · (try simp only [qd, ne_eq] at h1)
    simp only [qz]
    refine rg_nil (ek_next (wk_cond_f rfl (wk_skip (ek_next (wk_seq ?_)))))
    refine wk_region [0, 1, 0] rfl (by kernel_rfl) ?_
    simp only [qy]
    refine rf_loadR (n := 5) rfl rfl rfl Try.underlying29 rfl (by kernel_rfl) (fun w hw => Kn.hd0 hw) rfl rfl ?_
    simp only [qz]
    refine rf_storeR (n := 5) rfl rfl (by kernel_rfl) rfl rfl (UpdR.there _ (UpdR.here _ _ _ (Nat.le_of_ble_eq_true rfl))) (fun _ h => by cases h) ?_
    simp only [qz, Nat.reduceAdd]
    refine rg_assign ?_
    simp only [qz]
    refine rg_nil (ek_next (wk_ret ?_))
    refine ek_ret (fun w hw => ⟨rfl, _, run_results2 rfl rfl (Kn.hd0 (Kn.tl hw)) Try.underlying29 rfl (by kernel_rfl), ?_⟩)
    (try simp only [qz])
    exact ⟨by rw [hr.out]; simp [*, Nm.zero], hw.below⟩
  (try simp only [qd, ne_eq] at h1)
  simp only [qz]
  refine rg_nil (ek_next (wk_cond_t rfl (wk_seq ?_)))
  refine wk_region [0, 1, 0] rfl (by kernel_rfl) ?_
  simp only [qy]
  refine rf_build (cs := fun a => #[.int .i64 0, .int .i64 0, .int .i64 0, .int .i64 0, .int .i64 0]) rfl rfl (by kernel_rfl) ?_
  simp only [qz]
  refine rf_storeR (n := 5) rfl rfl (by kernel_rfl) rfl rfl (UpdR.there _ (UpdR.here _ _ _ (Nat.le_of_ble_eq_true rfl))) (fun _ h => by cases h) ?_
  simp only [qz, Nat.reduceAdd]
  refine rg_assign ?_
  simp only [qz]
  refine rg_nil (ek_next (wk_ret (ek_then_ret ?_)))
  refine ek_ret (fun w hw => ⟨rfl, _, run_results2 rfl rfl (Kn.hd0 (Kn.tl hw)) Try.underlying29 rfl (by kernel_rfl), ?_⟩)
  (try simp only [qz])
  exact ⟨by rw [hr.out]; simp [*, Nm.zero], hw.below⟩

theorem numV_two (r : NR) : ∃ (v : Nm) (c : Int), numV r = .tuple #[nmV v, .int .i64 c] := by cases r <;> exact ⟨_, _, rfl⟩
set_option maxRecDepth 100000 in
set_option maxHeartbeats 1000000 in
theorem rPlus_ok (x y : Nm) (hx : x.Ok) (hy : y.Ok) (w : World) : Calls Try.prog 106 #[nmV x, nmV y] w fun e w' => e = .returned (numV (x.add y)) ∧ Below w.heap.size w w' := by
  go_enter Try.func106, Try.ntmps106
  refine wk_start ?_
  refine wk_seq ?_
  refine wk_region [1, 1, 1, 0] rfl (by kernel_rfl) ?_
  simp only [qy]
  refine rg_new (cs := ?_) (ty := ?_) (by rfl) (fun w => ?_) (fun _ h => by cases h) (fun g1 => ?_); rotate_left 2
  focus (go_simp; rfl)
  simp only [qz]
  refine rg_new (cs := ?_) (ty := ?_) (by rfl) (fun w => ?_) (fun _ h => by cases h) (fun g2 => ?_); rotate_left 2
  focus (go_simp; rfl)
  simp only [qz]
  refine rg_new (cs := ?_) (ty := ?_) (by rfl) (fun w => ?_) (fun _ h => by cases h) (fun g3 => ?_); rotate_left 2
  focus (go_simp; rfl)
  simp only [qz]
  refine rg_assign ?_
  simp only [qz]
  refine rg_nil (ek_next (wk_seq ?_))
  refine wk_draws_m (hz1 := (sk _ (sc _ (sc _ sn)))) [(0, 0), (2, 0), (1, 1), (3, 1), (4, 1), (5, 1), (6, 0), (7, 0), (8, 2), (9, 0)] 8 (by kernel_rfl) (by kernel_rfl) (fun c d v a w h => by cases d <;> exact h) ?_
  simp only [List.map_cons, List.map_nil, List.getD_cons_zero, List.getD_cons_succ]
  refine rf_loadR (n := 5) rfl rfl rfl Try.underlying29 rfl (by kernel_rfl) (fun w hw => Kn.hd0 (Kn.tl (Kn.tl hw))) rfl rfl ?_
  simp only [qz]
  refine rf_loadR (n := 5) rfl rfl rfl Try.underlying29 rfl (by kernel_rfl) (fun w hw => Kn.hd0 (Kn.tl hw)) rfl rfl ?_
  simp only [qz]
  apply (rg_made (T := fun v u => ∃ s0 s1 s2 s3, v = wdV (x) s0 s1 s2 s3 ∧ SU4 u (x) s0 s1 s2 s3)) (by rfl) (by kernel_rfl)
  case hargs => (simp only [qm, qs, Act.eval]; exact rfl)
  case h => exact fun w hw => wideOf_any x (Nm.fit_mono hx.fit (by decide)) w
  case hz => exact (fun _ h => by cases h; exact (sc _ (sc _ (sc _ sn))))
  rintro _ u4 ⟨t0, t1, t2, t3, rfl, hS4⟩
  obtain ⟨⟨ta4_0, tc4_0, rfl⟩, -⟩ := id hS4.a
  obtain ⟨⟨ta4_1, tc4_1, rfl⟩, -⟩ := id hS4.b
  obtain ⟨⟨ta4_2, tc4_2, rfl⟩, -⟩ := id hS4.c
  obtain ⟨⟨ta4_3, tc4_3, rfl⟩, -⟩ := id hS4.d
  simp only [qz]
  apply (rg_made (T := fun v u => ∃ s0 s1 s2 s3, v = wdV (y) s0 s1 s2 s3 ∧ SU4 u (y) s0 s1 s2 s3)) (by rfl) (by kernel_rfl)
  case hargs => (simp only [qm, qs, Act.eval]; exact rfl)
  case h => exact fun w hw => wideOf_any y (Nm.fit_mono hy.fit (by decide)) w
  case hz => exact (fun _ h => by cases h; exact ((sc _ (sc _ (sc _ sn))).trans (List.sublist_append_right _ _)))
  rintro _ u5 ⟨t0, t1, t2, t3, rfl, hS5⟩
  obtain ⟨⟨ta5_0, tc5_0, rfl⟩, -⟩ := id hS5.a
  obtain ⟨⟨ta5_1, tc5_1, rfl⟩, -⟩ := id hS5.b
  obtain ⟨⟨ta5_2, tc5_2, rfl⟩, -⟩ := id hS5.c
  obtain ⟨⟨ta5_3, tc5_3, rfl⟩, -⟩ := id hS5.d
  simp only [qz]
  apply (rg_made (T := fun v u => ∃ s0 s1 s2 s3, v = wdV (x.addR y) s0 s1 s2 s3 ∧ SU4 u (x.addR y) s0 s1 s2 s3)) (by rfl) (by kernel_rfl)
  case hargs => (simp only [qm, qs, Act.eval]; exact rfl)
  case h => exact fun w hw => wplus_any x y _ _ _ _ _ _ _ _ (to_fit hx.fit (by omega) (by have := hx.k0; have := hx.k1; have := hy.k1; omega)) (to_fit hy.fit (by omega) (by have := hy.k0; have := hx.k1; have := hy.k1; omega)) hx.k0 (by have := hx.k1; omega) hy.k0 (by have := hy.k1; omega) w (hS4.at hw ((List.sublist_append_left _ _).trans (List.sublist_append_right _ _))) (hS5.at hw (List.sublist_append_left _ _))
  case hz => exact (fun _ h => by cases h; exact (((sc _ (sc _ (sc _ sn))).trans (List.sublist_append_right _ _)).trans (List.sublist_append_right _ _)))
  rintro _ u6 ⟨t0, t1, t2, t3, rfl, hS6⟩
  obtain ⟨⟨ta6_0, tc6_0, rfl⟩, -⟩ := id hS6.a
  obtain ⟨⟨ta6_1, tc6_1, rfl⟩, -⟩ := id hS6.b
  obtain ⟨⟨ta6_2, tc6_2, rfl⟩, -⟩ := id hS6.c
  obtain ⟨⟨ta6_3, tc6_3, rfl⟩, -⟩ := id hS6.d
  simp only [qz]
  apply rg_pure (by rfl) (by kernel_rfl)
  case hargs => (simp only [qm, qs, Act.eval]; exact rfl)
  case h => exact fun w hw => rnumber_any (x.addR y) _ _ _ _ (addR_fitW hx hy) (by have := hx.k0; have := hy.k0; simp only [Nm.addR]; omega) (by have := hx.k1; have := hy.k1; simp only [Nm.addR]; omega) w (hS6.at hw (List.sublist_append_left _ _))
  case hz => exact (fun _ h => by cases h; exact ((((sc _ (sc _ (sc _ sn))).trans (List.sublist_append_right _ _)).trans (List.sublist_append_right _ _)).trans (List.sublist_append_right _ _)))
  simp only [qz]
  obtain ⟨v, c, hv⟩ := numV_two (x.addR y).mk'
  rw [hv]
  refine rf_extract rfl rfl rfl rfl ?_
  simp only [qz]
  refine rf_extract rfl rfl rfl rfl ?_
  simp only [qz]
  refine rf_storeRM (n := 5) rfl rfl (by kernel_rfl) rfl rfl (UpdR.app _ (UpdR.app _ (UpdR.app _ (UpdR.here _ _ _ (Nat.le_of_ble_eq_true rfl))))) ((((sk _ (sc _ (sc _ sn))).trans (List.sublist_append_right _ _)).trans (List.sublist_append_right _ _)).trans (List.sublist_append_right _ _)) ?_
  simp only [qz, Nat.reduceAdd]
  refine rg_assign ?_
  simp only [qz]
  refine rg_nil (ek_next (wk_ret ?_))
  refine ek_ret (fun w hw => ⟨rfl, _, run_results2 rfl rfl (Kn.hd0 (Kn.tlU (Kn.tlU (Kn.tlU hw)))) Try.underlying29 rfl (by kernel_rfl), ?_⟩)
  (try simp only [qz])
  exact ⟨congrArg Ending.returned hv.symm, hw.below⟩

set_option maxRecDepth 100000 in
set_option maxHeartbeats 1000000 in
theorem rTimes_ok (x y : Nm) (hx : x.Ok) (hy : y.Ok) (w : World) : Calls Try.prog 128 #[nmV x, nmV y] w fun e w' => e = .returned (numV (x.mul y)) ∧ Below w.heap.size w w' := by
  go_enter Try.func128, Try.ntmps128
  refine wk_start ?_
  refine wk_seq ?_
  refine wk_region [1, 1, 1, 0] rfl (by kernel_rfl) ?_
  simp only [qy]
  refine rg_new (cs := ?_) (ty := ?_) (by rfl) (fun w => ?_) (fun _ h => by cases h) (fun g1 => ?_); rotate_left 2
  focus (go_simp; rfl)
  simp only [qz]
  refine rg_new (cs := ?_) (ty := ?_) (by rfl) (fun w => ?_) (fun _ h => by cases h) (fun g2 => ?_); rotate_left 2
  focus (go_simp; rfl)
  simp only [qz]
  refine rg_new (cs := ?_) (ty := ?_) (by rfl) (fun w => ?_) (fun _ h => by cases h) (fun g3 => ?_); rotate_left 2
  focus (go_simp; rfl)
  simp only [qz]
  refine rg_assign ?_
  simp only [qz]
  refine rg_nil (ek_next (wk_seq ?_))
  refine wk_draws_m (hz1 := (sk _ (sc _ (sc _ sn)))) [(0, 0), (2, 0), (1, 1), (3, 1), (4, 1), (5, 1), (6, 0), (7, 0), (8, 2), (9, 0)] 8 (by kernel_rfl) (by kernel_rfl) (fun c d v a w h => by cases d <;> exact h) ?_
  simp only [List.map_cons, List.map_nil, List.getD_cons_zero, List.getD_cons_succ]
  refine rf_loadR (n := 5) rfl rfl rfl Try.underlying29 rfl (by kernel_rfl) (fun w hw => Kn.hd0 (Kn.tl (Kn.tl hw))) rfl rfl ?_
  simp only [qz]
  refine rf_loadR (n := 5) rfl rfl rfl Try.underlying29 rfl (by kernel_rfl) (fun w hw => Kn.hd0 (Kn.tl hw)) rfl rfl ?_
  simp only [qz]
  apply (rg_made (T := fun v u => ∃ s0 s1 s2 s3, v = wdV (x) s0 s1 s2 s3 ∧ SU4 u (x) s0 s1 s2 s3)) (by rfl) (by kernel_rfl)
  case hargs => (simp only [qm, qs, Act.eval]; exact rfl)
  case h => exact fun w hw => wideOf_any x (Nm.fit_mono hx.fit (by decide)) w
  case hz => exact (fun _ h => by cases h; exact (sc _ (sc _ (sc _ sn))))
  rintro _ u4 ⟨t0, t1, t2, t3, rfl, hS4⟩
  obtain ⟨⟨ta4_0, tc4_0, rfl⟩, -⟩ := id hS4.a
  obtain ⟨⟨ta4_1, tc4_1, rfl⟩, -⟩ := id hS4.b
  obtain ⟨⟨ta4_2, tc4_2, rfl⟩, -⟩ := id hS4.c
  obtain ⟨⟨ta4_3, tc4_3, rfl⟩, -⟩ := id hS4.d
  simp only [qz]
  apply (rg_made (T := fun v u => ∃ s0 s1 s2 s3, v = wdV (y) s0 s1 s2 s3 ∧ SU4 u (y) s0 s1 s2 s3)) (by rfl) (by kernel_rfl)
  case hargs => (simp only [qm, qs, Act.eval]; exact rfl)
  case h => exact fun w hw => wideOf_any y (Nm.fit_mono hy.fit (by decide)) w
  case hz => exact (fun _ h => by cases h; exact ((sc _ (sc _ (sc _ sn))).trans (List.sublist_append_right _ _)))
  rintro _ u5 ⟨t0, t1, t2, t3, rfl, hS5⟩
  obtain ⟨⟨ta5_0, tc5_0, rfl⟩, -⟩ := id hS5.a
  obtain ⟨⟨ta5_1, tc5_1, rfl⟩, -⟩ := id hS5.b
  obtain ⟨⟨ta5_2, tc5_2, rfl⟩, -⟩ := id hS5.c
  obtain ⟨⟨ta5_3, tc5_3, rfl⟩, -⟩ := id hS5.d
  simp only [qz]
  apply (rg_made (T := fun v u => ∃ s0 s1 s2 s3, v = wdV (x.mulR y) s0 s1 s2 s3 ∧ SU4 u (x.mulR y) s0 s1 s2 s3)) (by rfl) (by kernel_rfl)
  case hargs => (simp only [qm, qs, Act.eval]; exact rfl)
  case h => exact fun w hw => wtimes_any x y _ _ _ _ _ _ _ _ (fit382 hx.fit) (fit382 hy.fit) (prodB_ok hx.fit hy.fit) hx.k0 (by have := hx.k1; omega) hy.k0 (by have := hy.k1; omega) w (hS4.at hw ((List.sublist_append_left _ _).trans (List.sublist_append_right _ _))) (hS5.at hw (List.sublist_append_left _ _))
  case hz => exact (fun _ h => by cases h; exact (((sc _ (sc _ (sc _ sn))).trans (List.sublist_append_right _ _)).trans (List.sublist_append_right _ _)))
  rintro _ u6 ⟨t0, t1, t2, t3, rfl, hS6⟩
  obtain ⟨⟨ta6_0, tc6_0, rfl⟩, -⟩ := id hS6.a
  obtain ⟨⟨ta6_1, tc6_1, rfl⟩, -⟩ := id hS6.b
  obtain ⟨⟨ta6_2, tc6_2, rfl⟩, -⟩ := id hS6.c
  obtain ⟨⟨ta6_3, tc6_3, rfl⟩, -⟩ := id hS6.d
  simp only [qz]
  apply rg_pure (by rfl) (by kernel_rfl)
  case hargs => (simp only [qm, qs, Act.eval]; exact rfl)
  case h => exact fun w hw => rnumber_any (x.mulR y) _ _ _ _ (mulR_fitW hx hy) (by have := hx.k0; have := hy.k0; simp only [Nm.mulR]; omega) (by have := hx.k1; have := hy.k1; simp only [Nm.mulR]; omega) w (hS6.at hw (List.sublist_append_left _ _))
  case hz => exact (fun _ h => by cases h; exact ((((sc _ (sc _ (sc _ sn))).trans (List.sublist_append_right _ _)).trans (List.sublist_append_right _ _)).trans (List.sublist_append_right _ _)))
  simp only [qz]
  obtain ⟨v, c, hv⟩ := numV_two (x.mulR y).mk'
  rw [hv]
  refine rf_extract rfl rfl rfl rfl ?_
  simp only [qz]
  refine rf_extract rfl rfl rfl rfl ?_
  simp only [qz]
  refine rf_storeRM (n := 5) rfl rfl (by kernel_rfl) rfl rfl (UpdR.app _ (UpdR.app _ (UpdR.app _ (UpdR.here _ _ _ (Nat.le_of_ble_eq_true rfl))))) ((((sk _ (sc _ (sc _ sn))).trans (List.sublist_append_right _ _)).trans (List.sublist_append_right _ _)).trans (List.sublist_append_right _ _)) ?_
  simp only [qz, Nat.reduceAdd]
  refine rg_assign ?_
  simp only [qz]
  refine rg_nil (ek_next (wk_ret ?_))
  refine ek_ret (fun w hw => ⟨rfl, _, run_results2 rfl rfl (Kn.hd0 (Kn.tlU (Kn.tlU (Kn.tlU hw)))) Try.underlying29 rfl (by kernel_rfl), ?_⟩)
  (try simp only [qz])
  exact ⟨congrArg Ending.returned hv.symm, hw.below⟩

set_option maxRecDepth 100000 in
set_option maxHeartbeats 1000000 in
theorem rConj_any (z : Nm) (h : z.Fit 4611686018427387903) (w : World) : Calls Try.prog 79 #[nmV z] w fun e w' => e = .returned (nmV z.conj) ∧ Below w.heap.size w w' := by
  obtain ⟨fa0, fa1, fb0, fb1, fc0, fc1, fd0, fd1⟩ := h
  go_enter Try.func79, Try.ntmps79
  refine wk_start ?_
  refine wk_seq ?_
  refine wk_region [1, 1] rfl (by kernel_rfl) ?_
  simp only [qy]
  refine rg_new (cs := ?_) (ty := ?_) (by rfl) (fun w => ?_) (fun _ h => by cases h) (fun g1 => ?_); rotate_left 2
  focus (go_simp; rfl)
  simp only [qz]
  refine rg_new (cs := ?_) (ty := ?_) (by rfl) (fun w => ?_) (fun _ h => by cases h) (fun g2 => ?_); rotate_left 2
  focus (go_simp; rfl)
  simp only [qz]
  refine rg_nil (ek_next (wk_seq ?_))
  refine wk_region [0, 0, 0, 0, 0, 0, 0, 0, 0, 0, 0, 0, 0, 0, 0, 0, 0, 0, 0, 1] rfl (by kernel_rfl) ?_
  simp only [qy]
  refine rf_field (n := 3) (j := 0) rfl rfl rfl Try.underlying29 rfl (by kernel_rfl) rfl ?_
  simp only [qz]
  refine rf_indexA (n := 0) (sz := 1) (j := 0) rfl rfl rfl rfl Try.underlying27 (by kernel_rfl) (by decide) rfl ?_
  simp only [qz]
  refine rf_load rfl rfl rfl Try.underlying3 rfl (fun w hw => (Kn.hd0 (Kn.tl hw)).at rfl) ?_
  simp only [qz]
  refine rf_field (n := 3) (j := 0) rfl rfl rfl Try.underlying29 rfl (by kernel_rfl) rfl ?_
  simp only [qz]
  refine rf_indexA (n := 3) (sz := 1) (j := 3) rfl rfl rfl rfl Try.underlying27 (by kernel_rfl) (by decide) rfl ?_
  simp only [qz]
  refine rf_load rfl rfl rfl Try.underlying3 rfl (fun w hw => (Kn.hd0 (Kn.tl hw)).at rfl) ?_
  simp only [qz]
  refine rf_neg rfl rfl rfl (wrap_ok (by omega) (by omega)) ?_
  simp only [qz]
  refine rf_field (n := 3) (j := 0) rfl rfl rfl Try.underlying29 rfl (by kernel_rfl) rfl ?_
  simp only [qz]
  refine rf_indexA (n := 2) (sz := 1) (j := 2) rfl rfl rfl rfl Try.underlying27 (by kernel_rfl) (by decide) rfl ?_
  simp only [qz]
  refine rf_load rfl rfl rfl Try.underlying3 rfl (fun w hw => (Kn.hd0 (Kn.tl hw)).at rfl) ?_
  simp only [qz]
  refine rf_neg rfl rfl rfl (wrap_ok (by omega) (by omega)) ?_
  simp only [qz]
  refine rf_field (n := 3) (j := 0) rfl rfl rfl Try.underlying29 rfl (by kernel_rfl) rfl ?_
  simp only [qz]
  refine rf_indexA (n := 1) (sz := 1) (j := 1) rfl rfl rfl rfl Try.underlying27 (by kernel_rfl) (by decide) rfl ?_
  simp only [qz]
  refine rf_load rfl rfl rfl Try.underlying3 rfl (fun w hw => (Kn.hd0 (Kn.tl hw)).at rfl) ?_
  simp only [qz]
  refine rf_neg rfl rfl rfl (wrap_ok (by omega) (by omega)) ?_
  simp only [qz]
  refine rf_build (cs := fun a => #[a.eval (.tmp 5), a.eval (.tmp 9), a.eval (.tmp 13), a.eval (.tmp 17)]) rfl rfl (by kernel_rfl) ?_
  simp only [qz]
  refine rf_field (n := 0) (j := 4) rfl rfl rfl Try.underlying29 rfl (by kernel_rfl) rfl ?_
  simp only [qz]
  refine rf_load rfl rfl rfl Try.underlying3 rfl (fun w hw => (Kn.hd0 (Kn.tl hw)).at rfl) ?_
  simp only [qz]
  refine rf_build (cs := fun a => #[cellAt (a.eval (.tmp 18)) 0, cellAt (a.eval (.tmp 18)) 1, cellAt (a.eval (.tmp 18)) 2, cellAt (a.eval (.tmp 18)) 3, a.eval (.tmp 20)]) rfl rfl (by kernel_rfl) ?_
  simp only [qz]
  refine rf_storeR (n := 5) rfl rfl (by kernel_rfl) rfl rfl (UpdR.here _ _ _ (Nat.le_of_ble_eq_true rfl)) (fun _ h => by cases h) ?_
  simp only [qz, Nat.reduceAdd]
  refine rg_nil (ek_next (wk_ret ?_))
  refine ek_ret (fun w hw => ⟨rfl, _, run_results1 rfl rfl (Kn.hd0 hw) Try.underlying29 rfl (by kernel_rfl), ?_⟩)
  (try simp only [qz])
  first | exact ⟨rfl, hw.below⟩ | exact ⟨trivial, hw.below⟩ | exact hw.below

end Go.Proofs.Ytjeijnjaleldkaa
namespace Go.Proofs.Ytjeijnjaleldkaa
set_option linter.all false
open Go.RowKit

set_option maxRecDepth 100000 in
set_option maxHeartbeats 1000000 in
theorem rpower_ok (z : Nm) (hz : z.Ok) (w : World) : Calls Try.prog 89 #[nmV z] w fun e w' => e = .returned (numV z.power) ∧ Below w.heap.size w w' := by
  go_enter Try.func89, Try.ntmps89
  refine wk_start ?_
  refine wk_seq ?_
  refine wk_region [1, 1, 0] rfl (by kernel_rfl) ?_
  simp only [qy]
  refine rg_new (cs := ?_) (ty := ?_) (by rfl) (fun w => ?_) (fun _ h => by cases h) (fun g1 => ?_); rotate_left 2
  focus (go_simp; rfl)
  simp only [qz]
  refine rg_new (cs := ?_) (ty := ?_) (by rfl) (fun w => ?_) (fun _ h => by cases h) (fun g2 => ?_); rotate_left 2
  focus (go_simp; rfl)
  simp only [qz]
  refine rg_assign ?_
  simp only [qz]
  refine rg_nil (ek_next (wk_seq ?_))
  refine wk_draws_m (hz1 := (sk _ (sc _ sn))) [(0, 0), (1, 0), (2, 1), (3, 1), (4, 0), (5, 0), (6, 2), (7, 0)] 6 (by kernel_rfl) (by kernel_rfl) (fun c d v a w h => by cases d <;> exact h) ?_
  simp only [List.map_cons, List.map_nil, List.getD_cons_zero, List.getD_cons_succ]
  refine rf_loadR (n := 5) rfl rfl rfl Try.underlying29 rfl (by kernel_rfl) (fun w hw => Kn.hd0 (Kn.tl hw)) rfl rfl ?_
  simp only [qz]
  refine rf_loadR (n := 5) rfl rfl rfl Try.underlying29 rfl (by kernel_rfl) (fun w hw => Kn.hd0 (Kn.tl hw)) rfl rfl ?_
  simp only [qz]
  apply rg_pure (by rfl) (by kernel_rfl)
  case hargs => (simp only [qm, qs, Act.eval]; exact rfl)
  case h => exact fun w hw => rConj_any z (Nm.fit_mono hz.fit (by decide)) w
  case hz => exact (fun _ h => by cases h; exact (sc _ (sc _ sn)))
  simp only [qz]
  apply rg_pure (by rfl) (by kernel_rfl)
  case hargs => (simp only [qm, qs, Act.eval]; exact rfl)
  case h => exact fun w hw => rTimes_ok z z.conj hz (conj_ok hz) w
  case hz => exact (fun _ h => by cases h; exact (sc _ (sc _ sn)))
  simp only [qz]
  obtain ⟨v, e, hve⟩ := numV_ve2 (z.mul z.conj)
  rw [hve]
  replace hve := Lib.hid hve
  refine rf_extract rfl rfl rfl rfl ?_
  simp only [qz]
  refine rf_extract rfl rfl rfl rfl ?_
  simp only [qz]
  refine rf_storeRM (n := 5) rfl rfl (by kernel_rfl) rfl rfl (UpdR.here _ _ _ (Nat.le_of_ble_eq_true rfl)) (sk _ (sc _ sn)) ?_
  simp only [qz, Nat.reduceAdd]
  refine rg_assign ?_
  simp only [qz]
  refine rg_nil (ek_next (wk_ret ?_))
  refine ek_ret (fun w hw => ⟨rfl, _, run_results2 rfl rfl (Kn.hd0 hw) Try.underlying29 rfl (by kernel_rfl), ?_⟩)
  (try simp only [qz])
  exact ⟨(congrArg Ending.returned hve.out).symm, hw.below⟩

set_option maxRecDepth 100000 in
set_option maxHeartbeats 1000000 in
theorem rpowers_any (n : Int) (xs : List Nm) (a : Option Addr) (c : Nat) (hl : xs.length ≤ 1000000) (w : World) (hA : AS w a (nms xs)) : Calls Try.prog 38 #[.agg #[.int .i64 n, .slice a xs.length c]] w fun e w' => RetM w (rN n.toNat (mapM powF n xs)) (rL (mapM powF n xs)) (rC (mapM powF n xs)) e w' := by
  go_enter Try.func38, Try.ntmps38
  refine wk_start ?_
  refine wk_seq ?_
  refine wk_region [1, 1, 0] rfl (by kernel_rfl) ?_
  simp only [qy]
  refine rg_new (cs := ?_) (ty := ?_) (by rfl) (fun w => ?_) (fun _ h => by cases h) (fun g1 => ?_); rotate_left 2
  focus (go_simp; rfl)
  simp only [qz]
  refine rg_new (cs := ?_) (ty := ?_) (by rfl) (fun w => ?_) (fun _ h => by cases h) (fun g2 => ?_); rotate_left 2
  focus (go_simp; rfl)
  simp only [qz]
  refine rg_assign ?_
  simp only [qz]
  refine rg_nil (ek_next (wk_seq (wk_seq ?_)))
  refine wk_region [0, 1, 0] rfl (by kernel_rfl) ?_
  simp only [qy]
  refine rf_loadR (n := 2) rfl rfl rfl Try.underlying24 rfl (by kernel_rfl) (fun w hw => Kn.hd0 (Kn.tl hw)) rfl rfl ?_
  simp only [qz]
  apply rg_pureb (by rfl) (by kernel_rfl)
  case hargs => (simp only [qm, qs, Act.eval]; exact rfl)
  case h => exact fun w hw => rmvalid_any n xs a c hl w (hA.kn0 hw)
  case hz => exact (fun _ h => by cases h)
  intro x h1
  cases x
  · (try simp only [qd, ne_eq] at h1)
    simp only [qz]
    refine rf_not rfl rfl rfl ?_
    simp only [qz]
    refine rg_nil (ek_next (wk_cond_t rfl (wk_seq ?_)))
    refine wk_region [0, 1, 0] rfl (by kernel_rfl) ?_
    simp only [qy]
    refine rf_build (cs := fun a => #[.int .i64 0, .slice none 0 0]) rfl rfl (by kernel_rfl) ?_
    simp only [qz]
    refine rf_storeR (n := 2) rfl rfl (by kernel_rfl) rfl rfl (UpdR.here _ _ _ (Nat.le_of_ble_eq_true rfl)) (fun _ h => by cases h) ?_
    simp only [qz, Nat.reduceAdd]
    refine rg_assign ?_
    simp only [qz]
    refine rg_nil (ek_next (wk_ret (ek_then_ret ?_)))
    refine ek_ret (fun w hw => ⟨rfl, _, run_results2 rfl rfl (Kn.hd0 hw) Try.underlying24 rfl (by kernel_rfl), ?_⟩)
    (try simp only [qz])
    exact retM_err (c := 20) (by unfold mapM; rw [h1]; rfl) hw.below
  (try simp only [qd, ne_eq] at h1)
  simp only [qz]
  have hv := h1
  obtain ⟨N, rfl, hN1, hN, hlx, hlx36, hox⟩ := validB_N' hv
  replace hlx := Lib.hid hlx
  have hcp : mapM powF (N : Int) xs = gather (fun t => (nm xs t).power) xs.length := by (unfold mapM; rw [hv, if_pos rfl, Int.toNat_natCast, hlx.out]; exact gather_congr _ fun t ht => by (unfold powF; rw [Nat.div_add_mod' t N]))
  replace hcp := Lib.hid hcp
  refine rf_not rfl rfl rfl ?_
  simp only [qz]
  refine rg_nil (ek_next (wk_cond_f rfl (wk_skip (ek_next (wk_seq ?_)))))
  refine wk_region [0, 0, 1, 1, 1] rfl (by kernel_rfl) ?_
  simp only [qy]
  refine rf_field (n := 0) (j := 0) rfl rfl rfl Try.underlying24 rfl (by kernel_rfl) rfl ?_
  simp only [qz]
  refine rf_load rfl rfl rfl Try.underlying3 rfl (fun w hw => (Kn.hd0 (Kn.tl hw)).at rfl) ?_
  simp only [qz]
  apply rg_made (T := fun v u => ∃ g, v = .agg #[.int .i64 (N : Int), .slice (some ⟨g, 0, none⟩) (N * N) (N * N)] ∧ u = [(g, .cells (NmE.flat (List.replicate (N * N) Nm.zero) ++ []).toArray 29)]) (by rfl) (by kernel_rfl)
  case hargs => (simp only [qm, qs, Act.eval]; exact rfl)
  case h => exact fun w hw => (zeros_any N hN w).mono (fun e w' ⟨g, he, hm⟩ => ⟨_, _, he, ⟨g, rfl, rfl⟩, hm⟩)
  case hz => exact (fun _ h => by cases h)
  rintro _ _ ⟨go, rfl, rfl⟩
  simp only [List.cons_append, List.nil_append]
  simp only [qz]
  refine rg_new (cs := ?_) (ty := ?_) (by rfl) (fun w => ?_) (fun _ h => by cases h) (fun g3 => ?_); rotate_left 2
  focus (go_simp; rfl)
  simp only [qz]
  refine rf_storeR (n := 2) rfl rfl (by kernel_rfl) rfl rfl (UpdR.here _ _ _ (Nat.le_of_ble_eq_true rfl)) (fun _ h => by cases h) ?_
  simp only [qz, Nat.reduceAdd]
  refine rg_nil (ek_next (wk_seq (wk_seq ?_)))
  rw [show List.replicate (N * N) Nm.zero = [] ++ List.replicate (xs.length - 0) Nm.zero by rw [hlx.out]; rfl]
  refine wk_region [0] rfl (by kernel_rfl) ?_
  simp only [qy]
  refine rg_assign ?_
  simp only [qz]
  refine rg_nil (ek_next (wk_block ?_))
  refine wk_loopF [3, 5, 6, 7, 15, 16, 17, 18, 19, 20, 21, 22, 23, 24, 25, 26, 27, 28, 29, 30, 31, 32, 33, 34, 35, 36, 37, 38, 39] (fun mz f s => ∃ (t : Nat) (l : List Nm), f 5 = .int .i64 t ∧ s = ((g3, .cells #[.int .i64 N, .slice (some ⟨go, 0, none⟩) (N * N) (N * N)] 24) :: ((go, .cells (NmE.flat (l ++ List.replicate (xs.length - t) Nm.zero) ++ []).toArray 29) :: ((g2, .cells #[.int .i64 0, .slice none 0 0] 24) :: ((g1, .cells #[.int .i64 N, .slice a xs.length c] 24) :: [])))) ∧ mz = xs.length - t ∧ t ≤ xs.length ∧ Hid (gather (fun t => (nm xs t).power) t = .ok l)) ((fun (t : Nat) (l : List Nm) => xs.length - t) (0) ([])) ?_ (by kernel_rfl) ?_
  · exact ⟨0, [], rfl, rfl, rfl, by omega, Lib.hid rfl⟩
  rintro mz f1 s ⟨t, l, hs1_5, rfl, hn, hd1, hd2⟩
  simp only [Act.putF, List.foldl_cons, List.foldl_nil, hs1_5, Act.put, Act.eval, q1, q2, q3, q4, q5, q6, q7, q8, q9, q10, q11, q12, q13, q14, q15, q16, q17, q18, Nat.reduceAdd, Bool.not_true, Bool.not_false]
  clear hs1_5
  refine wk_seq (wk_seq ?_)
  refine wk_region [0, 0, 0, 0, 0] rfl (by kernel_rfl) ?_
  simp only [qy]
  refine rg_move ?_
  simp only [qz]
  refine rf_field (n := 0) (j := 1) rfl rfl rfl Try.underlying24 rfl (by kernel_rfl) rfl ?_
  simp only [qz]
  refine rf_load rfl rfl rfl Try.underlying22 rfl (fun w hw => (Kn.hd0 (Kn.tl (Kn.tl (Kn.tl hw)))).at rfl) ?_
  simp only [qz]
  refine rf_len rfl rfl rfl Try.underlying22 ?_
  simp only [qz]
  refine rfb_lss rfl rfl rfl rfl ?_
  intro x h2
  cases x
  · (try simp only [qd, ne_eq] at h2)
    simp only [qz]
    refine rg_nil (ek_next (wk_cond_f rfl (wk_exit (ek_then_exit (ek_then_exit (ek_block_exit (ek_next (wk_seq ?_))))))))
    refine wk_region [0, 1, 0] rfl (by kernel_rfl) ?_
    simp only [qy]
    refine rf_loadR (n := 2) rfl rfl rfl Try.underlying24 rfl (by kernel_rfl) (fun w hw => Kn.hd0 hw) rfl rfl ?_
    simp only [qz]
    refine rf_storeR (n := 2) rfl rfl (by kernel_rfl) rfl rfl (UpdR.there _ (UpdR.there _ (UpdR.here _ _ _ (Nat.le_of_ble_eq_true rfl)))) (fun _ h => by cases h) ?_
    simp only [qz, Nat.reduceAdd]
    refine rg_assign ?_
    simp only [qz]
    refine rg_nil (ek_next (wk_ret ?_))
    refine ek_ret (fun w hw => ⟨rfl, _, run_results2 rfl rfl (Kn.hd0 (Kn.tl (Kn.tl hw))) Try.underlying24 rfl (by kernel_rfl), ?_⟩)
    (try simp only [qz])
    obtain rfl : t = xs.length := by omega
    rw [Nat.sub_self, List.replicate_zero, List.append_nil l] at hw
    have hll := gather_len hd2.out
    rw [hcp.out, hd2.out]
    exact ⟨_, [(go, _)], rfl, ownN_fl (hll.trans hlx.out) (by have := hlx.out; omega), hw.made (sk _ (sc _ (sk _ (sk _ sn))))⟩
  (try simp only [qd, ne_eq] at h2)
  simp only [qz]
  refine rg_nil (ek_next (wk_cond_t rfl (wk_skip (ek_next (wk_seq (wk_block (wk_seq ?_)))))))
  obtain ⟨b, off, ha, hlt, hcell⟩ := AS.openN hA (by omega)
  subst ha
  have hll := gather_len hd2.out
  have hzt := ok_at hox (show t < xs.length by omega)
  refine wk_region [0, 0, 0, 0, 0, 1, 0, 0, 0, 1, 1, 0] rfl (by kernel_rfl) ?_
  simp only [qy]
  refine rf_field (n := 0) (j := 1) rfl rfl rfl Try.underlying24 rfl (by kernel_rfl) rfl ?_
  simp only [qz]
  refine rf_load rfl rfl rfl Try.underlying22 rfl (fun w hw => (Kn.hd0 (Kn.tl (Kn.tl (Kn.tl hw)))).at rfl) ?_
  simp only [qz]
  refine rg_move ?_
  simp only [qz]
  refine rf_indexS (n := t) (sz := 5) (j := off + t * 5) rfl rfl rfl rfl Try.underlying22 (by kernel_rfl) (by omega) (by omega) rfl ?_
  simp only [qz]
  refine rf_loadC (n := 5) (vs := [.int .i64 (nm xs t).a, .int .i64 (nm xs t).b, .int .i64 (nm xs t).c, .int .i64 (nm xs t).d, .int .i64 (nm xs t).k]) rfl rfl rfl Try.underlying29 rfl (by kernel_rfl) rfl (fun w hw => atN_range ((hcell t (by omega)).kn hw hlt (by simp))) ?_
  simp only [qz]
  apply rg_num (by rfl) (by kernel_rfl)
  case hargs => (simp only [qm, qs, Act.eval]; exact rfl)
  case h => exact fun w hw => rpower_ok (nm xs t) hzt w
  case hz => exact (fun _ h => by cases h)
  case hc => exact (fun c h => mk_err h)
  · intro hr3
    simp only [qz]
    refine rg_move ?_
    simp only [qz]
    refine rf_extract rfl rfl rfl rfl ?_
    simp only [qz]
    refine rf_extract rfl rfl rfl rfl ?_
    simp only [qz]
    refine rg_new (cs := ?_) (ty := ?_) (by rfl) (fun w => ?_) (fun _ h => by cases h) (fun g4 => ?_); rotate_left 2
    focus (go_simp; rfl)
    simp only [qz]
    refine rf_storeR (n := 5) rfl rfl (by kernel_rfl) rfl rfl (UpdR.here _ _ _ (Nat.le_of_ble_eq_true rfl)) (fun _ h => by cases h) ?_
    simp only [qz, Nat.reduceAdd]
    refine rg_assign ?_
    simp only [qz]
    refine rg_nil (ek_next (wk_seq (wk_seq ?_)))
    refine wk_region [0, 0] rfl (by kernel_rfl) ?_
    simp only [qy]
    refine rg_move ?_
    simp only [qz]
    refine rf_neq (b := true) rfl rfl rfl rfl (by decide) ?_
    simp only [qz]
    refine rg_nil (ek_next (wk_cond_t rfl (wk_seq ?_)))
    refine wk_region [0, 0, 1, 0] rfl (by kernel_rfl) ?_
    simp only [qy]
    refine rf_build (cs := fun a => #[.int .i64 0, .slice none 0 0]) rfl rfl (by kernel_rfl) ?_
    simp only [qz]
    refine rg_move ?_
    simp only [qz]
    refine rf_storeR (n := 2) rfl rfl (by kernel_rfl) rfl rfl (UpdR.there _ (UpdR.there _ (UpdR.there _ (UpdR.here _ _ _ (Nat.le_of_ble_eq_true rfl))))) (fun _ h => by cases h) ?_
    simp only [qz, Nat.reduceAdd]
    refine rg_assign ?_
    simp only [qz]
    refine rg_nil (ek_next (wk_ret (ek_then_ret (ek_block_ret (ek_then_ret (ek_then_ret (ek_block_ret (ek_then_ret ?_))))))))
    refine ek_ret (fun w hw => ⟨rfl, _, run_results2 rfl rfl (Kn.hd0 (Kn.tl (Kn.tl (Kn.tl hw)))) Try.underlying24 rfl (by kernel_rfl), ?_⟩)
    (try simp only [qz])
    exact retM_err (c := 4) (by rw [hcp.out]; exact gather_err hd2.out hr3 _ (by omega)) hw.below
  intro z3 hr3
  simp only [qz]
  refine rg_move ?_
  simp only [qz]
  refine rf_extract rfl rfl rfl rfl ?_
  simp only [qz]
  refine rf_extract rfl rfl rfl rfl ?_
  simp only [qz]
  refine rg_new (cs := ?_) (ty := ?_) (by rfl) (fun w => ?_) (fun _ h => by cases h) (fun g5 => ?_); rotate_left 2
  focus (go_simp; rfl)
  simp only [qz]
  refine rf_storeR (n := 5) rfl rfl (by kernel_rfl) rfl rfl (UpdR.here _ _ _ (Nat.le_of_ble_eq_true rfl)) (fun _ h => by cases h) ?_
  simp only [qz, Nat.reduceAdd]
  refine rg_assign ?_
  simp only [qz]
  refine rg_nil (ek_next (wk_seq (wk_seq ?_)))
  refine wk_region [0, 0] rfl (by kernel_rfl) ?_
  simp only [qy]
  refine rg_move ?_
  simp only [qz]
  refine rf_neq (b := false) rfl rfl rfl rfl (by decide) ?_
  simp only [qz]
  refine rg_nil (ek_next (wk_cond_f rfl (wk_skip (ek_next ?_))))
  refine wk_region [0, 0, 0, 0, 0, 1] rfl (by kernel_rfl) ?_
  simp only [qy]
  refine rf_field (n := 0) (j := 1) rfl rfl rfl Try.underlying24 rfl (by kernel_rfl) rfl ?_
  simp only [qz]
  refine rf_load rfl rfl rfl Try.underlying22 rfl (fun w hw => (Kn.hd0 (Kn.tl hw)).at rfl) ?_
  simp only [qz]
  refine rg_move ?_
  simp only [qz]
  refine rf_loadR (n := 5) rfl rfl rfl Try.underlying29 rfl (by kernel_rfl) (fun w hw => Kn.hd0 hw) rfl rfl ?_
  simp only [qz]
  refine rf_indexS (n := t) (sz := 5) (j := 0 + t * 5) rfl rfl rfl rfl Try.underlying22 (by kernel_rfl) (by first | rfl | omega) (by have := hlx.out; omega) rfl ?_
  simp only [qz]
  have hsz1 := nm_sz (l ++ List.replicate (xs.length - t) Nm.zero) t (z3) (by simp only [List.length_append, List.length_replicate]; omega)
  refine rf_storeR (n := 5) (vs := nmC (z3)) rfl rfl (by kernel_rfl) rfl rfl (UpdR.there _ (UpdR.there _ (UpdR.here _ _ _ hsz1))) (fun _ h => by cases h) ?_
  rw [nm_fl (l ++ List.replicate (xs.length - t) Nm.zero) t (z3) (by simp only [List.length_append, List.length_replicate]; omega)]
  simp only [qz]
  refine rg_nil (ek_block (ek_next ?_))
  refine wk_region [0, 0, 0] rfl (by kernel_rfl) ?_
  simp only [qy]
  refine rg_move ?_
  simp only [qz]
  refine rf_add rfl rfl rfl rfl (wrap_ok (by omega) (by omega)) ?_
  simp only [qz]
  refine rg_assign ?_
  simp only [qz]
  refine rg_nil ?_
  refine ek_sub (sk _ (sc _ (sc _ (sc _ (sc _ sn))))) ?_
  refine ek_roundF (xs.length - (t + 1)) (by omega) (by kernel_rfl) ?_
  exact ⟨t + 1, l ++ [z3], rfl, (by rw [show xs.length - t = (xs.length - (t + 1)) + 1 by omega, fill_set _ _ _ _ (gather_len hd2.out)]), by rfl, (by omega), (Lib.hid (gather_ok hd2.out hr3))⟩

end Go.Proofs.Ytjeijnjaleldkaa
