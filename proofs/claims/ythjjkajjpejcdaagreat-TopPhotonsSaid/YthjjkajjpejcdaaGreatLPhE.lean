/- Texts in one: Wb4, Wb8, Sf, Mt2a, PrPl, Am5, Am6, AmPw, AlPl, Wb7, Mt2, Mt3, MtW, AmCj, MtD, Ve1, PgN, PgM. -/
import Derived.Test.YthjjkajjpejcdaaGreatLPhD
namespace Go.Proofs.YthjjkajjpejcdaaGreat
set_option linter.all false
set_option maxRecDepth 100000
set_option maxHeartbeats 1000000
open Go.RowKit
theorem tr_len {z : Nm} (h : z.Fit 9850501549098619803069760025035903451269934817616361666987073351061430442874302652853566563721228910201656997576704) : (digs z.tr.a.natAbs).length ≤ 1000 ∧ (digs z.tr.b.natAbs).length ≤ 1000 ∧ (digs z.tr.c.natAbs).length ≤ 1000 ∧ (digs z.tr.d.natAbs).length ≤ 1000 := by
 obtain ⟨h1, h2, h3, h4, h5, h6, h7, h8⟩ := h
 simp only [Nm.tr]
 exact ⟨len_big Ox Ox, len_big Ox Ox, len_big Ox Ox, len_big Ox Ox⟩
set_option maxHeartbeats 2000000 in
theorem wnum_any (z : Nm) (s0 s1 s2 s3 : Value) (hz : z.Fit 9850501549098619803069760025035903451269934817616361666987073351061430442874302652853566563721228910201656997576704) (hk : 0 ≤ z.k) (hk1 : z.k ≤ 10000) (w : World) (hs : SA4 w z s0 s1 s2 s3) : Calls Tryz.prog 15 #[wdV z s0 s1 s2 s3] w fun e w' => e = .returned (.tuple #[nmV (wnum z).1, .bool (wnum z).2]) ∧ Below w.heap.size w w' := by
 obtain ⟨⟨a0, c0, rfl⟩, ⟨a1, c1, rfl⟩, ⟨a2, c2, rfl⟩, ⟨a3, c3, rfl⟩⟩ := (⟨hs.a.form, hs.b.form, hs.c.form, hs.d.form⟩ : _ ∧ _ ∧ _ ∧ _)
 go_enter Tryz.func15, Tryz.ntmps15
 refine wk_start ?_
 refine wk_seq ?_
 refine Wr [1, 1, 0] ?_
 refine Rgn fun g1 => ?_
 simp only [qz]
 refine Rgn fun g2 => ?_
 refine Zx ?_
 refine rg_nil (ek_next ?_)
 refine wk_cutF [4, 5, 10, 11, 12, 13, 14, 15, 16, 17, 18, 19, 20, 21, 22, 23, 24, 25, 26, 27, 28, 29, 30, 31, 32, 33, 34, 35, 36, 37, 38, 39, 40, 41, 42, 43, 44, 45, 46, 47, 48, 49, 50, 51] (fun f s => ∃ (y : Nm) (ta0 ta1 ta2 ta3 : Option Addr) (tc0 tc1 tc2 tc3 : Nat) (u : List Blk), s = (u ++ ((g2, .cells #[.int .i64 0, .int .i64 0, .int .i64 0, .int .i64 0, .int .i64 0] 44) :: ((g1, .cells #[.bool (decide (y.a < 0)), .slice ta0 (digs y.a.natAbs).length tc0, .bool (decide (y.b < 0)), .slice ta1 (digs y.b.natAbs).length tc1, .bool (decide (y.c < 0)), .slice ta2 (digs y.c.natAbs).length tc2, .bool (decide (y.d < 0)), .slice ta3 (digs y.d.natAbs).length tc3, .int .i64 y.k] 41) :: []))) ∧ Hid (y.nf = z.nf) ∧ y.nf = y ∧ SK4 w u y (.slice ta0 (digs y.a.natAbs).length tc0) (.slice ta1 (digs y.b.natAbs).length tc1) (.slice ta2 (digs y.c.natAbs).length tc2) (.slice ta3 (digs y.d.natAbs).length tc3) ∧ y.Fit 9850501549098619803069760025035903451269934817616361666987073351061430442874302652853566563721228910201656997576704) ?_ ?_
 ·refine wk_block ?_
  refine wk_loopF [4, 5, 10, 11, 12, 13, 14, 15, 16, 17, 18, 19, 20, 21, 22, 23, 24, 25, 26, 27, 28, 29, 30, 31, 32, 33, 34, 35, 36, 37, 38, 39, 40, 41, 42, 43, 44, 45, 46, 47, 48, 49, 50, 51] (fun mz f s => ∃ (y : Nm) (ta0 ta1 ta2 ta3 : Option Addr) (tc0 tc1 tc2 tc3 : Nat) (u : List Blk), s = (u ++ ((g2, .cells #[.int .i64 0, .int .i64 0, .int .i64 0, .int .i64 0, .int .i64 0] 44) :: ((g1, .cells #[.bool (decide (y.a < 0)), .slice ta0 (digs y.a.natAbs).length tc0, .bool (decide (y.b < 0)), .slice ta1 (digs y.b.natAbs).length tc1, .bool (decide (y.c < 0)), .slice ta2 (digs y.c.natAbs).length tc2, .bool (decide (y.d < 0)), .slice ta3 (digs y.d.natAbs).length tc3, .int .i64 y.k] 41) :: []))) ∧ mz = y.k.toNat ∧ Hid (y.nf = z.nf) ∧ SK4 w u y (.slice ta0 (digs y.a.natAbs).length tc0) (.slice ta1 (digs y.b.natAbs).length tc1) (.slice ta2 (digs y.c.natAbs).length tc2) (.slice ta3 (digs y.d.natAbs).length tc3) ∧ y.Fit 9850501549098619803069760025035903451269934817616361666987073351061430442874302652853566563721228910201656997576704 ∧ 0 ≤ y.k ∧ y.k ≤ 10000) ((fun (y : Nm) (ta0 ta1 ta2 ta3 : Option Addr) (tc0 tc1 tc2 tc3 : Nat) (u : List Blk) => y.k.toNat) (z) (a0) (a1) (a2) (a3) (c0) (c1) (c2) (c3) ([])) ?_ Kx ?_
  ·exact ⟨z, a0, a1, a2, a3, c0, c1, c2, c3, [], rfl, rfl, Lib.hid rfl, SK4.arg hs, hz, hk, hk1⟩
  rintro mz f1 s ⟨y, ta0, ta1, ta2, ta3, tc0, tc1, tc2, tc3, u, rfl, hn, hd1, hd2, hd3, hd4, hd5⟩
  simp only [Act.putF, List.foldl_cons, List.foldl_nil, Act.put, Act.eval, qW, Nat.reduceAdd, Bool.not_true, Bool.not_false]
  have hnf := hd1
  have hsk := hd2
  have hfit := hd3
  clear hd1 hd2 hd3; refine wk_seq (wk_seq ?_); refine Wr [0, 0, 0, 0, 0, 0, 0, 0, 0, 0, 1, 1, 0, 0, 0, 0, 0, 0, 0, 0, 1, 1, 0] ?_; refine Fd 0 8 UU41 ?_; refine rf_load rfl rfl rfl UU3 rfl (fun w hw => (Kn.hd0 (Kn.tl (Kn.tlU hw))).at rfl) (Nq ?_); refine rfb_gtr rfl rfl rfl rfl ?_
  rintro (_ | _) h1 <;> try simp only [qd, ne_eq] at h1
  ·refine Zx ?_
   refine rg_skip_h Rx Nz ?_; simp only [qz]; refine rg_skip_h Rx Nz ?_; refine Zx ?_; refine rg_skip_h Rx Nz ?_; simp only [qz]; refine rg_skip_h Rx Nz ?_; refine Zx ?_; refine rg_nil (ek_next (wk_cond_f rfl (wk_exit (ek_then_exit (ek_then_exit (ek_block_exit ?_)))))); refine ek_midF Kx ?_
   exact ⟨y, ta0, ta1, ta2, ta3, tc0, tc1, tc2, tc3, u, by rfl, hnf, (nf_stop (fun hh => by have := hh.1; have := hh.2.1; have := hh.2.2; omega)), hsk, hfit⟩
  refine Zx ?_; refine Fd 7 0 UU41 ?_; refine Ia 0 2 0 UU39 ?_; refine rf_loadR (n := 2) rfl rfl rfl UU38 rfl Kx (fun w hw => Kn.hd0 (Kn.tl (Kn.tlU hw))) rfl rfl (Nq ?_); refine Fd 7 0 UU41 ?_; refine Ia 2 2 4 UU39 ?_; refine rf_loadR (n := 2) rfl rfl rfl UU38 rfl Kx (fun w hw => Kn.hd0 (Kn.tl (Kn.tlU hw))) rfl rfl (Nq ?_)
  obtain ⟨la, lb, lc, ld⟩ := fit_big hfit
  obtain ⟨fa0, fa1, fb0, fb1, fc0, fc1, fd0, fd1⟩ := id hfit
  apply (rg_made (T := fun v u => ∃ s, v = bgV (y.a + y.c) s ∧ SU u s (y.a + y.c).natAbs)) Rx Kx
  case hargs => exact Ax
  case h => exact fun w hw => badd_any y.a y.c _ _ la lc w (hsk.a.at hw (List.sublist_append_left _ _)) (hsk.c.at hw (List.sublist_append_left _ _))
  case hz => exact Nz
  rintro _ u3 ⟨s3, rfl, hS3⟩
  obtain ⟨⟨sa3, sc3, rfl⟩, -⟩ := id hS3
  simp only [qz]; apply rg_pureb Rx Kx
  case hargs => exact Ax
  case h => exact fun w hw => beven_any (y.a + y.c) _ (len_big Ox Ox) w (hS3.at hw (List.sublist_append_left _ _))
  case hz => exact Nz
  rintro (_ | _) h2 <;> try simp only [qd, ne_eq] at h2
  ·refine Zx ?_
   refine rg_skip_h Rx Nz ?_; simp only [qz]; refine rg_skip_h Rx Nz ?_; refine Zx ?_; refine Zr ?_; refine ek_sub ((Sa (sc _ (sc _ sn)) _).trans (Sr _ _)) ?_; refine ek_midF Kx ?_
   exact ⟨y, ta0, ta1, ta2, ta3, tc0, tc1, tc2, tc3, u, by rfl, hnf, (nf_stop (fun hh => by have := hh.1; have := hh.2.1; have := hh.2.2; omega)), hsk, hfit⟩
  refine Zx ?_; refine Fd 7 0 UU41 ?_; refine Ia 1 2 2 UU39 ?_; refine rf_loadR (n := 2) rfl rfl rfl UU38 rfl Kx (fun w hw => Kn.hd0 (Kn.tl (Kn.tlU (Kn.tlU hw)))) rfl rfl (Nq ?_); refine Fd 7 0 UU41 ?_; refine Ia 3 2 6 UU39 ?_; refine rf_loadR (n := 2) rfl rfl rfl UU38 rfl Kx (fun w hw => Kn.hd0 (Kn.tl (Kn.tlU (Kn.tlU hw)))) rfl rfl (Nq ?_)
  apply (rg_made (T := fun v u => ∃ s, v = bgV (y.b + y.d) s ∧ SU u s (y.b + y.d).natAbs)) Rx Kx
  case hargs => exact Ax
  case h => exact fun w hw => badd_any y.b y.d _ _ lb ld w (hsk.b.at hw ((List.sublist_append_left _ _).trans (Sr _ _))) (hsk.d.at hw ((List.sublist_append_left _ _).trans (Sr _ _)))
  case hz => exact Nz
  rintro _ u4 ⟨s4, rfl, hS4⟩
  obtain ⟨⟨sa4, sc4, rfl⟩, -⟩ := id hS4
  simp only [qz]; apply rg_pureb Rx Kx
  case hargs => exact Ax
  case h => exact fun w hw => beven_any (y.b + y.d) _ (len_big Ox Ox) w (hS4.at hw (List.sublist_append_left _ _))
  case hz => exact Nz
  rintro (_ | _) h3 <;> try simp only [qd, ne_eq] at h3
  ·refine Zx ?_
   refine Zr ?_; refine ek_sub (((Sa (sc _ (sc _ sn)) _).trans (Sr _ _)).trans (Sr _ _)) ?_; refine ek_midF Kx ?_
   exact ⟨y, ta0, ta1, ta2, ta3, tc0, tc1, tc2, tc3, u, by rfl, hnf, (nf_stop (fun hh => by have := hh.1; have := hh.2.1; have := hh.2.2; omega)), hsk, hfit⟩
  refine Zx ?_; refine Zr ?_; refine Wr [0, 0, 1, 1, 1] ?_; refine Fd 7 0 UU41 ?_; refine rf_loadR (n := 8) rfl rfl rfl UU39 rfl Kx (fun w hw => Kn.hd0 (Kn.tl (Kn.tlU (Kn.tlU (Kn.tlU hw))))) rfl rfl (Nq ?_)
  apply (rg_made (T := fun v u => ∃ s0 s1 s2 s3, v = arV (y.tr) s0 s1 s2 s3 ∧ SU4 u (y.tr) s0 s1 s2 s3)) Rx Kx
  case hargs => exact Ax
  case h => exact fun w hw => timesR_any y _ _ _ _ hfit w (hsk.at hw (((List.sublist_append_left _ _).trans (Sr _ _)).trans (Sr _ _)))
  case hz => exact Nz
  rintro _ u5 ⟨t0, t1, t2, t3, rfl, hS5⟩
  obtain ⟨⟨ta5_0, tc5_0, rfl⟩, -⟩ := id hS5.a
  obtain ⟨⟨ta5_1, tc5_1, rfl⟩, -⟩ := id hS5.b
  obtain ⟨⟨ta5_2, tc5_2, rfl⟩, -⟩ := id hS5.c
  obtain ⟨⟨ta5_3, tc5_3, rfl⟩, -⟩ := id hS5.d
  simp only [qz]
  obtain ⟨ma, mb, mc, md⟩ := tr_len hfit
  refine Rgn fun g6 => ?_
  simp only [qz]; refine rf_storeR (n := 8) rfl rfl Kx rfl rfl (UpdR.here _ _ _ Nl) Nz (Nw ?_); refine Zr ?_; refine Wx [0] ?_; refine rg_nil (ek_next (wk_block ?_)); refine wk_unroll 4 ?_; refine wk_seq (wk_seq ?_); refine Wx [0, 0] ?_; refine rf_lss (b := true) rfl rfl rfl rfl (by decide) (Nq ?_); refine Zr ?_; refine Wx [0, 0, 0, 0, 1, 0, 1] ?_; refine Ia 0 2 0 UU39 ?_; refine rf_loadR (n := 2) rfl rfl rfl UU38 rfl Kx (fun w hw => Kn.hd0 hw) rfl rfl (Nq ?_)
  apply (rg_made (T := fun v u => ∃ s, v = bgV (y.tr.a / 2) s ∧ SU u s (y.tr.a / 2).natAbs)) Rx Kx
  case hargs => exact Ax
  case h => exact fun w hw => bhalf_any y.tr.a _ ma (by simp only [Nm.tr]; omega) w (hS5.a.at hw (List.Sublist.cons _ (List.sublist_append_left _ _)))
  case hz => exact Nz
  rintro _ u7 ⟨s7, rfl, hS7⟩
  obtain ⟨⟨sa7, sc7, rfl⟩, -⟩ := id hS7
  simp only [qz]; refine Ia 0 2 0 UU39 ?_; refine rf_storeR (n := 2) rfl rfl Kx rfl rfl (UpdR.app _ (UpdR.here _ _ _ Nl)) Nz (Nw ?_); refine Zr ?_; refine Wx [0, 0, 0] ?_; refine rf_add (r := 1) rfl rfl rfl rfl (by decide) (Zx ?_); refine Zr ?_; refine Wx [0, 0] ?_; refine rf_lss (b := true) rfl rfl rfl rfl (by decide) (Nq ?_); refine Zr ?_; refine Wx [0, 0, 0, 0, 1, 0, 1] ?_; refine Ia 1 2 2 UU39 ?_
  refine rf_loadR (n := 2) rfl rfl rfl UU38 rfl Kx (fun w hw => Kn.hd0 (Kn.tlU hw)) rfl rfl (Nq ?_)
  apply (rg_made (T := fun v u => ∃ s, v = bgV (y.tr.b / 2) s ∧ SU u s (y.tr.b / 2).natAbs)) Rx Kx
  case hargs => exact Ax
  case h => exact fun w hw => bhalf_any y.tr.b _ mb (by simp only [Nm.tr]; omega) w (hS5.b.at hw ((List.Sublist.cons _ (List.sublist_append_left _ _)).trans (Sr _ _)))
  case hz => exact Nz
  rintro _ u8 ⟨s8, rfl, hS8⟩
  obtain ⟨⟨sa8, sc8, rfl⟩, -⟩ := id hS8
  simp only [qz]; refine Ia 1 2 2 UU39 ?_; refine rf_storeR (n := 2) rfl rfl Kx rfl rfl (UpdR.app _ (UpdR.app _ (UpdR.here _ _ _ Nl))) Nz (Nw ?_); refine Zr ?_; refine Wx [0, 0, 0] ?_; refine rf_add (r := 2) rfl rfl rfl rfl (by decide) (Zx ?_); refine Zr ?_; refine Wx [0, 0] ?_; refine rf_lss (b := true) rfl rfl rfl rfl (by decide) (Nq ?_); refine Zr ?_; refine Wx [0, 0, 0, 0, 1, 0, 1] ?_; refine Ia 2 2 4 UU39 ?_
  refine rf_loadR (n := 2) rfl rfl rfl UU38 rfl Kx (fun w hw => Kn.hd0 (Kn.tlU (Kn.tlU hw))) rfl rfl (Nq ?_)
  apply (rg_made (T := fun v u => ∃ s, v = bgV (y.tr.c / 2) s ∧ SU u s (y.tr.c / 2).natAbs)) Rx Kx
  case hargs => exact Ax
  case h => exact fun w hw => bhalf_any y.tr.c _ mc (by simp only [Nm.tr]; omega) w (hS5.c.at hw (((List.Sublist.cons _ (List.sublist_append_left _ _)).trans (Sr _ _)).trans (Sr _ _)))
  case hz => exact Nz
  rintro _ u9 ⟨s9, rfl, hS9⟩
  obtain ⟨⟨sa9, sc9, rfl⟩, -⟩ := id hS9
  simp only [qz]; refine Ia 2 2 4 UU39 ?_; refine rf_storeR (n := 2) rfl rfl Kx rfl rfl (UpdR.app _ (UpdR.app _ (UpdR.app _ (UpdR.here _ _ _ Nl)))) Nz (Nw ?_); refine Zr ?_; refine Wx [0, 0, 0] ?_; refine rf_add (r := 3) rfl rfl rfl rfl (by decide) (Zx ?_); refine Zr ?_; refine Wx [0, 0] ?_; refine rf_lss (b := true) rfl rfl rfl rfl (by decide) (Nq ?_); refine Zr ?_; refine Wx [0, 0, 0, 0, 1, 0, 1] ?_; refine Ia 3 2 6 UU39 ?_
  refine rf_loadR (n := 2) rfl rfl rfl UU38 rfl Kx (fun w hw => Kn.hd0 (Kn.tlU (Kn.tlU (Kn.tlU hw)))) rfl rfl (Nq ?_)
  apply (rg_made (T := fun v u => ∃ s, v = bgV (y.tr.d / 2) s ∧ SU u s (y.tr.d / 2).natAbs)) Rx Kx
  case hargs => exact Ax
  case h => exact fun w hw => bhalf_any y.tr.d _ md (by simp only [Nm.tr]; omega) w (hS5.d.at hw ((((List.Sublist.cons _ (List.sublist_append_left _ _)).trans (Sr _ _)).trans (Sr _ _)).trans (Sr _ _)))
  case hz => exact Nz
  rintro _ u10 ⟨s10, rfl, hS10⟩
  obtain ⟨⟨sa10, sc10, rfl⟩, -⟩ := id hS10
  simp only [qz]; refine Ia 3 2 6 UU39 ?_; refine rf_storeR (n := 2) rfl rfl Kx rfl rfl (UpdR.app _ (UpdR.app _ (UpdR.app _ (UpdR.app _ (UpdR.here _ _ _ Nl))))) Nz (Nw ?_); refine Zr ?_; refine Wx [0, 0, 0] ?_; refine rf_add (r := 4) rfl rfl rfl rfl (by decide) (Zx ?_); refine Zr ?_; refine Wx [0, 0] ?_; refine rf_lss (b := false) rfl rfl rfl rfl (by decide) (Nq ?_); refine Zr ?_; refine Wr [0, 0, 0, 0, 0, 1, 0, 1] ?_
  refine rf_loadR (n := 8) rfl rfl rfl UU39 rfl Kx (fun w hw => Kn.hd0 (Kn.tlU (Kn.tlU (Kn.tlU (Kn.tlU hw))))) rfl rfl (Nq ?_); refine Fd 0 8 UU41 ?_; refine rf_load rfl rfl rfl UU3 rfl (fun w hw => (Kn.hd0 (Kn.tl (Kn.tlU (Kn.tlU (Kn.tlU (Kn.tlU (Kn.tl (Kn.tlU (Kn.tlU (Kn.tlU (Kn.tlU hw))))))))))).at rfl) (Nq ?_); refine rf_sub rfl rfl rfl rfl (wrap_ok Ox Ox) (Nq ?_)
  refine Fd 7 0 UU41 ?_; refine rf_storeR (n := 8) rfl rfl Kx rfl rfl (UpdR.app _ (UpdR.app _ (UpdR.app _ (UpdR.app _ (UpdR.there _ (UpdR.app _ (UpdR.app _ (UpdR.app _ (UpdR.app _ (UpdR.there _ (UpdR.here _ _ _ Nl))))))))))) Nz (Nw ?_); refine Fd 0 8 UU41 ?_; refine rf_store rfl rfl Kx rfl rfl (UpdR.app _ (UpdR.app _ (UpdR.app _ (UpdR.app _ (UpdR.there _ (UpdR.app _ (UpdR.app _ (UpdR.app _ (UpdR.app _ (UpdR.there _ (UpdR.here _ _ _ Nl))))))))))) Nz (Nq ?_)
  refine rg_nil (ek_block ?_); refine ek_sub (Sa (Sa (Sa (Sa (sk _ (((((sc _ (sc _ sn)).trans (Sr _ _)).trans (Sr _ _)).trans (Sr _ _)).trans (Sr _ _))) _) _) _) _) ?_; refine ek_roundF (y.step.k.toNat) ((by simp only [Nm.step]; omega)) Kx ?_
  exact ⟨y.step, sa7, sa8, sa9, sa10, sc7, sc8, sc9, sc10, (u10 ++ (u9 ++ (u8 ++ u7))), (by simp only [List.append_assoc]; rfl), by rfl, (Lib.hid ((nf_step Ox ⟨by omega, by omega⟩).symm.trans hnf.out)), ⟨(SK.own (hS7.mono ((((List.Sublist.refl _).trans (Sr _ _)).trans (Sr _ _)).trans (Sr _ _)))), (SK.own (hS8.mono (((List.sublist_append_left _ _).trans (Sr _ _)).trans (Sr _ _)))), (SK.own (hS9.mono ((List.sublist_append_left _ _).trans (Sr _ _)))), (SK.own (hS10.mono (List.sublist_append_left _ _)))⟩, (Nm.step_fit hfit), (by simp only [Nm.step]; omega), (by simp only [Nm.step]; omega)⟩
 rintro f1 s ⟨y, ta0, ta1, ta2, ta3, tc0, tc1, tc2, tc3, u, rfl, hnf, hst, hsk, hfit⟩
 simp only [Act.putF, List.foldl_cons, List.foldl_nil, Act.put, Act.eval, qW, Nat.reduceAdd, Bool.not_true, Bool.not_false]
 have hyz : y = z.nf := hst.symm.trans hnf.out
 replace hyz := Lib.hid hyz
 clear hst hnf
 obtain ⟨la, lb, lc, ld⟩ := fit_big hfit
 refine wk_seq ?_
 refine Wr [0, 0, 0, 1, 1] ?_
 refine Fd 0 8 UU41 ?_
 refine rf_load rfl rfl rfl UU3 rfl (fun w hw => (Kn.hd0 (Kn.tl (Kn.tlU hw))).at rfl) (Nq ?_)
 refine rf_build (cs := fun a => #[.int .i64 0, .int .i64 0, .int .i64 0, .int .i64 0, a.eval (.tmp 53)]) rfl rfl Kx (Nq ?_)
 refine Rgn fun g11 => ?_
 simp only [qz]
 refine rf_storeR (n := 5) rfl rfl Kx rfl rfl (UpdR.here _ _ _ Nl) Nz (Nw ?_)
 refine Zr ?_
 refine Wx [0] ?_
 refine rg_nil (ek_next (wk_block ?_))
 refine wk_unroll 4 ?_
 refine wk_seq (wk_seq ?_)
 refine Wx [0, 0] ?_
 refine rf_lss (b := true) rfl rfl rfl rfl (by decide) (Nq ?_)
 refine Zr ?_
 refine Wx [0, 0, 0, 0, 1, 0, 0, 0, 0, 0] ?_
 refine Fd 7 0 UU41 ?_
 refine Ia 0 2 0 UU39 ?_
 refine rf_loadR (n := 2) rfl rfl rfl UU38 rfl Kx (fun w hw => Kn.hd0 (Kn.tl (Kn.tlU (Kn.tl hw)))) rfl rfl (Nq ?_)
 cases hq0 : smB y.a
 ·apply rg_pure Rx Kx
  case hargs => exact Ax
  case h => exact fun w hw => by have := bsmall_any y.a _ la w (hsk.a.at hw (List.Sublist.cons _ (List.sublist_append_left _ _))); rw [hq0] at this; exact this
  case hz => exact Nz
  refine Zx ?_; refine Zr ?_; refine Wx [0, 0] ?_; refine Zr ?_; refine Wr [0, 1, 0] ?_; refine rf_build (cs := fun a => #[.int .i64 0, .int .i64 0, .int .i64 0, .int .i64 0, .int .i64 0]) rfl rfl Kx (Nq ?_); refine rf_storeR (n := 5) rfl rfl Kx rfl rfl (UpdR.there _ (UpdR.app _ (UpdR.here _ _ _ Nl))) Nz (Nw ?_); refine Zx ?_; refine Zr ?_; refine ek_ret (fun w hw => ⟨rfl, _, run_results2 rfl rfl (Kn.hd0 (Kn.tlU (Kn.tl hw))) UU44 rfl Kx, ?_⟩)
  (try simp only [qz])
  exact ⟨by unfold wnum; rw [← hyz.out]; unfold numOk; simp [*, Nm.zero], hw.below⟩
 apply rg_pure Rx Kx
 case hargs => exact Ax
 case h => exact fun w hw => by have := bsmall_any y.a _ la w (hsk.a.at hw (List.Sublist.cons _ (List.sublist_append_left _ _))); rw [hq0] at this; exact this
 case hz => exact Nz
 refine Zx ?_
 refine Zr ?_
 refine Wx [0, 0] ?_
 refine Zr ?_
 refine Wx [0, 0, 0, 0, 1] ?_
 refine Fd 3 0 UU44 ?_
 refine Ia 0 1 0 UU42 ?_
 refine rf_store rfl rfl Kx rfl rfl (UpdR.here _ _ _ Nl) Nz (Nq ?_)
 refine Zr ?_
 refine Wx [0, 0, 0] ?_
 refine rf_add (r := 1) rfl rfl rfl rfl (by decide) (Zx ?_)
 refine Zr ?_
 refine Wx [0, 0] ?_
 refine rf_lss (b := true) rfl rfl rfl rfl (by decide) (Nq ?_)
 refine Zr ?_
 refine Wx [0, 0, 0, 0, 1, 0, 0, 0, 0, 0] ?_
 refine Fd 7 0 UU41 ?_
 refine Ia 1 2 2 UU39 ?_
 refine rf_loadR (n := 2) rfl rfl rfl UU38 rfl Kx (fun w hw => Kn.hd0 (Kn.tl (Kn.tlU (Kn.tl hw)))) rfl rfl (Nq ?_)
 cases hq1 : smB y.b
 ·apply rg_pure Rx Kx
  case hargs => exact Ax
  case h => exact fun w hw => by have := bsmall_any y.b _ lb w (hsk.b.at hw (List.Sublist.cons _ (List.sublist_append_left _ _))); rw [hq1] at this; exact this
  case hz => exact Nz
  refine Zx ?_; refine Zr ?_; refine Wx [0, 0] ?_; refine Zr ?_; refine Wr [0, 1, 0] ?_; refine rf_build (cs := fun a => #[.int .i64 0, .int .i64 0, .int .i64 0, .int .i64 0, .int .i64 0]) rfl rfl Kx (Nq ?_); refine rf_storeR (n := 5) rfl rfl Kx rfl rfl (UpdR.there _ (UpdR.app _ (UpdR.here _ _ _ Nl))) Nz (Nw ?_); refine Zx ?_; refine Zr ?_; refine ek_ret (fun w hw => ⟨rfl, _, run_results2 rfl rfl (Kn.hd0 (Kn.tlU (Kn.tl hw))) UU44 rfl Kx, ?_⟩)
  (try simp only [qz])
  exact ⟨by unfold wnum; rw [← hyz.out]; unfold numOk; simp [*, Nm.zero], hw.below⟩
 apply rg_pure Rx Kx
 case hargs => exact Ax
 case h => exact fun w hw => by have := bsmall_any y.b _ lb w (hsk.b.at hw (List.Sublist.cons _ (List.sublist_append_left _ _))); rw [hq1] at this; exact this
 case hz => exact Nz
 refine Zx ?_
 refine Zr ?_
 refine Wx [0, 0] ?_
 refine Zr ?_
 refine Wx [0, 0, 0, 0, 1] ?_
 refine Fd 3 0 UU44 ?_
 refine Ia 1 1 1 UU42 ?_
 refine rf_store rfl rfl Kx rfl rfl (UpdR.here _ _ _ Nl) Nz (Nq ?_)
 refine Zr ?_
 refine Wx [0, 0, 0] ?_
 refine rf_add (r := 2) rfl rfl rfl rfl (by decide) (Zx ?_)
 refine Zr ?_
 refine Wx [0, 0] ?_
 refine rf_lss (b := true) rfl rfl rfl rfl (by decide) (Nq ?_)
 refine Zr ?_
 refine Wx [0, 0, 0, 0, 1, 0, 0, 0, 0, 0] ?_
 refine Fd 7 0 UU41 ?_
 refine Ia 2 2 4 UU39 ?_
 refine rf_loadR (n := 2) rfl rfl rfl UU38 rfl Kx (fun w hw => Kn.hd0 (Kn.tl (Kn.tlU (Kn.tl hw)))) rfl rfl (Nq ?_)
 cases hq2 : smB y.c
 ·apply rg_pure Rx Kx
  case hargs => exact Ax
  case h => exact fun w hw => by have := bsmall_any y.c _ lc w (hsk.c.at hw (List.Sublist.cons _ (List.sublist_append_left _ _))); rw [hq2] at this; exact this
  case hz => exact Nz
  refine Zx ?_; refine Zr ?_; refine Wx [0, 0] ?_; refine Zr ?_; refine Wr [0, 1, 0] ?_; refine rf_build (cs := fun a => #[.int .i64 0, .int .i64 0, .int .i64 0, .int .i64 0, .int .i64 0]) rfl rfl Kx (Nq ?_); refine rf_storeR (n := 5) rfl rfl Kx rfl rfl (UpdR.there _ (UpdR.app _ (UpdR.here _ _ _ Nl))) Nz (Nw ?_); refine Zx ?_; refine Zr ?_; refine ek_ret (fun w hw => ⟨rfl, _, run_results2 rfl rfl (Kn.hd0 (Kn.tlU (Kn.tl hw))) UU44 rfl Kx, ?_⟩)
  (try simp only [qz])
  exact ⟨by unfold wnum; rw [← hyz.out]; unfold numOk; simp [*, Nm.zero], hw.below⟩
 apply rg_pure Rx Kx
 case hargs => exact Ax
 case h => exact fun w hw => by have := bsmall_any y.c _ lc w (hsk.c.at hw (List.Sublist.cons _ (List.sublist_append_left _ _))); rw [hq2] at this; exact this
 case hz => exact Nz
 refine Zx ?_
 refine Zr ?_
 refine Wx [0, 0] ?_
 refine Zr ?_
 refine Wx [0, 0, 0, 0, 1] ?_
 refine Fd 3 0 UU44 ?_
 refine Ia 2 1 2 UU42 ?_
 refine rf_store rfl rfl Kx rfl rfl (UpdR.here _ _ _ Nl) Nz (Nq ?_)
 refine Zr ?_
 refine Wx [0, 0, 0] ?_
 refine rf_add (r := 3) rfl rfl rfl rfl (by decide) (Zx ?_)
 refine Zr ?_
 refine Wx [0, 0] ?_
 refine rf_lss (b := true) rfl rfl rfl rfl (by decide) (Nq ?_)
 refine Zr ?_
 refine Wx [0, 0, 0, 0, 1, 0, 0, 0, 0, 0] ?_
 refine Fd 7 0 UU41 ?_
 refine Ia 3 2 6 UU39 ?_
 refine rf_loadR (n := 2) rfl rfl rfl UU38 rfl Kx (fun w hw => Kn.hd0 (Kn.tl (Kn.tlU (Kn.tl hw)))) rfl rfl (Nq ?_)
 cases hq3 : smB y.d
 ·apply rg_pure Rx Kx
  case hargs => exact Ax
  case h => exact fun w hw => by have := bsmall_any y.d _ ld w (hsk.d.at hw (List.Sublist.cons _ (List.sublist_append_left _ _))); rw [hq3] at this; exact this
  case hz => exact Nz
  refine Zx ?_; refine Zr ?_; refine Wx [0, 0] ?_; refine Zr ?_; refine Wr [0, 1, 0] ?_; refine rf_build (cs := fun a => #[.int .i64 0, .int .i64 0, .int .i64 0, .int .i64 0, .int .i64 0]) rfl rfl Kx (Nq ?_); refine rf_storeR (n := 5) rfl rfl Kx rfl rfl (UpdR.there _ (UpdR.app _ (UpdR.here _ _ _ Nl))) Nz (Nw ?_); refine Zx ?_; refine Zr ?_; refine ek_ret (fun w hw => ⟨rfl, _, run_results2 rfl rfl (Kn.hd0 (Kn.tlU (Kn.tl hw))) UU44 rfl Kx, ?_⟩)
  (try simp only [qz])
  exact ⟨by unfold wnum; rw [← hyz.out]; unfold numOk; simp [*, Nm.zero], hw.below⟩
 apply rg_pure Rx Kx
 case hargs => exact Ax
 case h => exact fun w hw => by have := bsmall_any y.d _ ld w (hsk.d.at hw (List.Sublist.cons _ (List.sublist_append_left _ _))); rw [hq3] at this; exact this
 case hz => exact Nz
 refine Zx ?_
 refine Zr ?_
 refine Wx [0, 0] ?_
 refine Zr ?_
 refine Wx [0, 0, 0, 0, 1] ?_
 refine Fd 3 0 UU44 ?_
 refine Ia 3 1 3 UU42 ?_
 refine rf_store rfl rfl Kx rfl rfl (UpdR.here _ _ _ Nl) Nz (Nq ?_)
 refine Zr ?_
 refine Wx [0, 0, 0] ?_
 refine rf_add (r := 4) rfl rfl rfl rfl (by decide) (Zx ?_)
 refine Zr ?_
 refine Wx [0, 0] ?_
 refine rf_lss (b := false) rfl rfl rfl rfl (by decide) (Nq ?_)
 refine Zr ?_
 refine wk_draws_m (hz1 := (sc _ (Sa (sk _ (sc _ sn)) _))) [(0, 0), (1, 3), (2, 3), (3, 3), (4, 2), (5, 0)] 4 Kx Kx (fun c d v a w h => by cases d <;> exact h) ?_
 simp only [List.map_cons, List.map_nil, List.getD_cons_zero, List.getD_cons_succ]
 refine rf_loadR (n := 5) rfl rfl rfl UU44 rfl Kx (fun w hw => Kn.hd0 hw) rfl rfl (Nq ?_)
 refine Fd 0 8 UU41 ?_
 refine rf_load rfl rfl rfl UU3 rfl (fun w hw => (Kn.hd0 (Kn.tlU (Kn.tl hw))).at rfl) (Nq ?_)
 refine rf_leq rfl rfl rfl rfl rfl (Nq ?_)
 refine rf_storeRM (n := 5) rfl rfl Kx rfl rfl (UpdR.there _ (UpdR.app _ (UpdR.here _ _ _ Nl))) (sc _ (Sa (sk _ (sc _ sn)) _)) (Nw ?_)
 refine Zx ?_
 refine Zr ?_
 refine ek_ret (fun w hw => ⟨rfl, _, run_results2 rfl rfl (Kn.hd0 (Kn.tlU (Kn.tl hw))) UU44 rfl Kx, ?_⟩)
 (try simp only [qz])
 exact ⟨by unfold wnum; rw [← hyz.out]; unfold numOk; simp [*, Nm.zero], hw.below⟩
theorem fit382 {z : Nm} (h : z.Fit 1000000000) : z.Fit 9850501549098619803069760025035903451269934817616361666987073351061430442874302652853566563721228910201656997576704 := Nm.fit_mono h (by decide)
section
variable {R : Option Nat} {ops : Array Oper} {Q : Exit → Act → World → Prop} {B : World} {F : List Nat} {s0 : Option (List Blk × List Blk)} {P : Program}
variable {l : List (Oper × Nat)} {a : Act} {s : List Blk} {d : Option Tmp} {t : TypeId} {p : String} {af : Array Edge} {gd : Option (Nat × Bool)} {m : Nat}
theorem rf_sliceFrom {T : Nat} {x yl : Operand} {b off lo len cap e sz : Nat} {k' : IntKind} {zl : Int} (hm : soft03 m = true) (hg : Region.wanted ⟨d, .slice T x (some yl) none none, t, p, af, gd⟩ (yielded ops a.tmps) = true)
    (hx : a.eval x = .slice (some ⟨b, off, none⟩) len cap) (hl : a.eval yl = .int k' zl) (hu : P.underlying T = some (.slice e)) (hs : (P.info? e).map (·.size) = some sz) (hzl : zl = (lo : Int)) (hn : lo ≤ len)
    (h : Rg R P ops Q B F s0 l (a.put d (.slice (if cap = lo then some ⟨b, off, none⟩ else some ⟨b, off + lo * sz, none⟩) (len - lo) (cap - lo))) s) : Rg R P ops Q B F s0 ((⟨d, .slice T x (some yl) none none, t, p, af, gd⟩, m) :: l) a s := by
  subst hzl
  refine rg_any hm hg (fun w => ?_) h
  unfold Yld
  cases hq : P.info? e with
  | none => simp [hq] at hs
  | some q =>
    have hs' : q.size = sz := by simpa [hq] using hs
    have hb2 := fun w => run_sliceBound (P := P) w k' (lo : Int) len .sliceB Ox Ox
    have e2 : (lo : Int).toNat = lo := Int.toNat_natCast _
    rw [e2] at hb2
    simp [execOp, hx, hl, Instr.sliceAt, Instr.slice, Instr.sliceBounds, run_underlying hu, sizeOf, typeInfo, hq, hs', hb2, Addr.add_mid]
end
section
variable {P : Program} {w : World}
theorem run_results_c2 {fn : Func} {k k' ty ty' : Nat} {tmps : Array Value} {g t g' t' : Nat} {cs cs' : Array Value} {d d' : TypeDesc} (hres : fn.results = #[.cell k ty, .cell k' ty'])
    (hk : tmps.getD k undef = .pointer (some ⟨g, 0, none⟩)) (hg : Hd w g t cs) (hu : P.underlying ty = some d) (hr : isRow d = true)
    (hs : (P.info? ty).map (·.size) = some cs.size) (hk' : tmps.getD k' undef = .pointer (some ⟨g', 0, none⟩)) (hg' : Hd w g' t' cs') (hu' : P.underlying ty' = some d') (hr' : isRow d' = true)
    (hs' : (P.info? ty').map (·.size) = some cs'.size) : (results fn tmps).run P w = .ok (.tuple #[.agg cs, .agg cs']) w := by
  have := run_load_hd hg hu hr hs
  have := run_load_hd hg' hu' hr' hs'
  have hk0 : tmps[k]?.getD undef = .pointer (some ⟨g, 0, none⟩) := by simpa using hk
  have hk0' : tmps[k']?.getD undef = .pointer (some ⟨g', 0, none⟩) := by simpa using hk'
  simp [results, hres, hk0, hk0', asAddr, *]
end
theorem Hd.belowS {w w' : World} {g t : Nat} {cs : Array Value} (h : Hd w g t cs) (hb : Below w.heap.size w w') : Hd w' g t cs := (hb.block g h.lt).trans h
theorem numV_ve2 (r : NR) : ∃ (v : Nm) (c : Int), numV r = .tuple #[nmV v, .int .i64 c] := by cases r <;> exact ⟨_, _, rfl⟩
theorem elemOk {xs : List Nm} {N : Nat} (hok : allOk xs = true) (hl : xs.length = N * N) {i k : Nat} (hi : i < N) (hk : k < N) : (nm xs (i * N + k)).Ok := ok_at hok (by rw [hl]; exact ix_lt hi hk)
theorem validB_N' {n : Int} {xs : List Nm} (h : validB n xs = true) : ∃ N : Nat, n = N ∧ 1 ≤ N ∧ N ≤ 6 ∧ xs.length = N * N ∧ xs.length ≤ 36 ∧ allOk xs = true := by
 simp only [validB, Bool.and_eq_true, decide_eq_true_eq] at h
 obtain ⟨h1, h2, h3, h4⟩ := h
 obtain ⟨N, rfl⟩ : ∃ N : Nat, n = N := ⟨n.toNat, by omega⟩
 have h5 : xs.length = N * N := by
  have e : ((N * N : Nat) : Int) = (N : Int) * N := Int.natCast_mul N N
  omega
 have h6 : N * N ≤ 6 * 6 := Nat.mul_le_mul Ox Ox
 exact ⟨N, rfl, by omega, by omega, h5, by omega, h4⟩
theorem retM_err {w w' : World} {K : Nat} {c : Int} {r : LR} (h : r = .error c) (hb : Below w.heap.size w w') : RetM w (rN K r) (rL r) (rC r) (.returned (.tuple #[.agg #[.int .i64 0, .slice none 0 0], .int .i64 c])) w' := by
 subst h
 exact ⟨.slice none 0 0, [], rfl, OwnG.nil, .nil hb⟩
theorem wrap_eqB {n r : Int} (h : n = r) (h0 : -9223372036854775808 ≤ r) (h1 : r < 9223372036854775808) : IntKind.i64.wrap n = r := by
 rw [h]; exact wrap_ok Ox Ox
set_option maxHeartbeats 1000000
theorem Sq.get {n : Nat} {rows : List (List Nm)} (h : Sq n rows) {k : Nat} (hk : k < rows.length) : (rows.getD k []).length = n ∧ ∀ z ∈ rows.getD k [], z.Ok := by
 have : rows.getD k [] ∈ rows := by
  rw [List.getD_eq_getElem?_getD, List.getElem?_eq_getElem hk]
  exact List.getElem_mem hk
 exact h _ this
theorem Bd.to {n : Nat} {M m : Int} {z : Nm} (h : Bd n M z) (h1 : z.k ≤ m) (h2 : m ≤ 40 * n) : (z.to m).Fit M :=
  up_down (40 * (n : Int) - m).toNat (by rw [up_to h1 h2]; exact h.fit)
theorem amadd_any (x y : Nm) (hx : x.Ok) (hy : y.Ok) (w : World) : Calls Tryz.prog 100 #[nmV x, nmV y] w fun e w' => e = .returned (nmV (x.addR y)) ∧ Below w.heap.size w w' := by
 have hx' := hx
 have hy' := hy
 obtain ⟨⟨xa0, xa1, xb0, xb1, xc0, xc1, xd0, xd1⟩, xk0, xk1, xf⟩ := hx'
 obtain ⟨⟨ya0, ya1, yb0, yb1, yc0, yc1, yd0, yd1⟩, yk0, yk1, yf⟩ := hy'
 go_enter Tryz.func100, Tryz.ntmps100
 refine wk_start ?_
 refine wk_seq ?_
 refine Wr [1, 1, 1] ?_
 refine Rgn fun g1 => ?_
 simp only [qz]
 refine Rgn fun g2 => ?_
 simp only [qz]
 refine Rgn fun g3 => ?_
 simp only [qz]
 refine Zr ?_
 refine Wr [0, 0, 0, 0, 0] ?_
 refine Fd 0 4 UU44 ?_
 refine rf_load rfl rfl rfl UU3 rfl (fun w hw => (Kn.hd0 (Kn.tl (Kn.tl hw))).at rfl) (Nq ?_)
 refine Fd 0 4 UU44 ?_
 refine rf_load rfl rfl rfl UU3 rfl (fun w hw => (Kn.hd0 (Kn.tl hw)).at rfl) (Nq ?_)
 refine rfb_lss rfl rfl rfl rfl ?_
 rintro (_ | _) h1 <;> try simp only [qd, ne_eq] at h1
 ·simp only [qz]
  refine Zr ?_; refine Wr [0, 0, 0, 0, 0, 0, 0, 1, 1, 1] ?_; refine Fd 3 0 UU44 ?_; refine rf_loadR (n := 4) rfl rfl rfl UU42 rfl Kx (fun w hw => Kn.hd0 (Kn.tl hw)) rfl rfl (Nq ?_); refine Fd 0 4 UU44 ?_; refine rf_load rfl rfl rfl UU3 rfl (fun w hw => (Kn.hd0 (Kn.tl (Kn.tl hw))).at rfl) (Nq ?_); refine Fd 0 4 UU44 ?_; refine rf_load rfl rfl rfl UU3 rfl (fun w hw => (Kn.hd0 (Kn.tl hw)).at rfl) (Nq ?_)
  refine rf_sub rfl rfl rfl rfl (wrap_ok Ox Ox) (Nq ?_)
  obtain ⟨ua0, ua1, ub0, ub1, uc0, uc1, ud0, ud1⟩ := Nm.up40_fit (n := (x.k - y.k).toNat) (z := y) hy.fit Ox
  apply rg_pure Rx Kx
  case hargs => exact Ax
  case h => exact fun w hw => by_any y (x.k - y.k) Ox Ox hy.fit w
  case hz => exact Nz
  simp only [qz]
  refine Rgn fun g4 => ?_
  simp only [qz]; refine rf_storeR (n := 4) rfl rfl Kx rfl rfl (UpdR.here _ _ _ Nl) Nz (Nw ?_); refine Zr ?_; refine Wx [0] ?_; refine rg_nil (ek_next (wk_block ?_)); refine wk_unroll 4 ?_; refine wk_seq ?_; refine Wr [0] ?_; refine rf_lss (b := true) rfl rfl rfl rfl (by decide) (Nq ?_); refine Zr ?_; refine Wx [0, 0] ?_; refine rg_nil (ek_next ?_); refine wk_draws_m (hz1 := (sk _ (sc _ (sc _ (sc _ sn))))) [(0, 0), (1, 0), (2, 0), (3, 0), (4, 0), (5, 0), (6, 0), (7, 0), (8, 0), (9, 2)] 9 Kx Kx (fun c d v a w h => by cases d <;> exact h) ?_
  simp only [List.map_cons, List.map_nil, List.getD_cons_zero, List.getD_cons_succ]; refine Zx ?_; refine Ia 0 1 0 UU42 ?_; refine rf_load rfl rfl rfl UU3 rfl (fun w hw => (Kn.hd0 hw).at rfl) (Zx ?_); refine Fd 3 0 UU44 ?_; refine Ia 0 1 0 UU42 ?_; refine rf_load rfl rfl rfl UU3 rfl (fun w hw => (Kn.hd0 (Kn.tl (Kn.tl (Kn.tl hw)))).at rfl) (Nq ?_); refine rf_add rfl rfl rfl rfl (wrap_ok Ox Ox) (Nq ?_)
  refine Ia 0 1 0 UU42 ?_; refine rf_storeM rfl rfl Kx rfl rfl (UpdR.here _ _ _ Nl) (sk _ (sc _ (sc _ (sc _ sn)))) (Nq ?_); refine Zr ?_; refine Wr [0, 0] ?_; refine rf_add (r := 1) rfl rfl rfl rfl (by decide) (Zx ?_); refine Zr ?_; refine Wr [0] ?_; refine rf_lss (b := true) rfl rfl rfl rfl (by decide) (Nq ?_); refine Zr ?_; refine Wx [0, 0] ?_; refine rg_nil (ek_next ?_); refine wk_draws_m (hz1 := (sk _ (sc _ (sc _ (sc _ sn))))) [(0, 0), (1, 0), (2, 0), (3, 0), (4, 0), (5, 0), (6, 0), (7, 0), (8, 0), (9, 2)] 9 Kx Kx (fun c d v a w h => by cases d <;> exact h) ?_
  simp only [List.map_cons, List.map_nil, List.getD_cons_zero, List.getD_cons_succ]; refine Zx ?_; refine Ia 1 1 1 UU42 ?_; refine rf_load rfl rfl rfl UU3 rfl (fun w hw => (Kn.hd0 hw).at rfl) (Zx ?_); refine Fd 3 0 UU44 ?_; refine Ia 1 1 1 UU42 ?_; refine rf_load rfl rfl rfl UU3 rfl (fun w hw => (Kn.hd0 (Kn.tl (Kn.tl (Kn.tl hw)))).at rfl) (Nq ?_); refine rf_add rfl rfl rfl rfl (wrap_ok Ox Ox) (Nq ?_)
  refine Ia 1 1 1 UU42 ?_; refine rf_storeM rfl rfl Kx rfl rfl (UpdR.here _ _ _ Nl) (sk _ (sc _ (sc _ (sc _ sn)))) (Nq ?_); refine Zr ?_; refine Wr [0, 0] ?_; refine rf_add (r := 2) rfl rfl rfl rfl (by decide) (Zx ?_); refine Zr ?_; refine Wr [0] ?_; refine rf_lss (b := true) rfl rfl rfl rfl (by decide) (Nq ?_); refine Zr ?_; refine Wx [0, 0] ?_; refine rg_nil (ek_next ?_); refine wk_draws_m (hz1 := (sk _ (sc _ (sc _ (sc _ sn))))) [(0, 0), (1, 0), (2, 0), (3, 0), (4, 0), (5, 0), (6, 0), (7, 0), (8, 0), (9, 2)] 9 Kx Kx (fun c d v a w h => by cases d <;> exact h) ?_
  simp only [List.map_cons, List.map_nil, List.getD_cons_zero, List.getD_cons_succ]; refine Zx ?_; refine Ia 2 1 2 UU42 ?_; refine rf_load rfl rfl rfl UU3 rfl (fun w hw => (Kn.hd0 hw).at rfl) (Zx ?_); refine Fd 3 0 UU44 ?_; refine Ia 2 1 2 UU42 ?_; refine rf_load rfl rfl rfl UU3 rfl (fun w hw => (Kn.hd0 (Kn.tl (Kn.tl (Kn.tl hw)))).at rfl) (Nq ?_); refine rf_add rfl rfl rfl rfl (wrap_ok Ox Ox) (Nq ?_)
  refine Ia 2 1 2 UU42 ?_; refine rf_storeM rfl rfl Kx rfl rfl (UpdR.here _ _ _ Nl) (sk _ (sc _ (sc _ (sc _ sn)))) (Nq ?_); refine Zr ?_; refine Wr [0, 0] ?_; refine rf_add (r := 3) rfl rfl rfl rfl (by decide) (Zx ?_); refine Zr ?_; refine Wr [0] ?_; refine rf_lss (b := true) rfl rfl rfl rfl (by decide) (Nq ?_); refine Zr ?_; refine Wx [0, 0] ?_; refine rg_nil (ek_next ?_); refine wk_draws_m (hz1 := (sk _ (sc _ (sc _ (sc _ sn))))) [(0, 0), (1, 0), (2, 0), (3, 0), (4, 0), (5, 0), (6, 0), (7, 0), (8, 0), (9, 2)] 9 Kx Kx (fun c d v a w h => by cases d <;> exact h) ?_
  simp only [List.map_cons, List.map_nil, List.getD_cons_zero, List.getD_cons_succ]; refine Zx ?_; refine Ia 3 1 3 UU42 ?_; refine rf_load rfl rfl rfl UU3 rfl (fun w hw => (Kn.hd0 hw).at rfl) (Zx ?_); refine Fd 3 0 UU44 ?_; refine Ia 3 1 3 UU42 ?_; refine rf_load rfl rfl rfl UU3 rfl (fun w hw => (Kn.hd0 (Kn.tl (Kn.tl (Kn.tl hw)))).at rfl) (Nq ?_); refine rf_add rfl rfl rfl rfl (wrap_ok Ox Ox) (Nq ?_)
  refine Ia 3 1 3 UU42 ?_; refine rf_storeM rfl rfl Kx rfl rfl (UpdR.here _ _ _ Nl) (sk _ (sc _ (sc _ (sc _ sn)))) (Nq ?_); refine Zr ?_; refine Wr [0, 0] ?_; refine rf_add (r := 4) rfl rfl rfl rfl (by decide) (Zx ?_); refine Zr ?_; refine Wr [0] ?_; refine rf_lss (b := false) rfl rfl rfl rfl (by decide) (Nq ?_); refine Zr ?_; refine Wr [0, 0, 0, 0, 1] ?_; refine rf_loadR (n := 4) rfl rfl rfl UU42 rfl Kx (fun w hw => Kn.hd0 hw) rfl rfl (Nq ?_)
  refine Fd 0 4 UU44 ?_; refine rf_load rfl rfl rfl UU3 rfl (fun w hw => (Kn.hd0 (Kn.tl (Kn.tl (Kn.tl hw)))).at rfl) (Nq ?_); refine rf_build (cs := fun a => #[cellAt (a.eval (.tmp 35)) 0, cellAt (a.eval (.tmp 35)) 1, cellAt (a.eval (.tmp 35)) 2, cellAt (a.eval (.tmp 35)) 3, a.eval (.tmp 37)]) rfl rfl Kx (Nq ?_); refine rf_storeR (n := 5) rfl rfl Kx rfl rfl (UpdR.there _ (UpdR.here _ _ _ Nl)) Nz (Nw ?_)
  refine Zr ?_; refine ek_ret (fun w hw => ⟨rfl, _, run_results1 rfl rfl (Kn.hd0 (Kn.tl hw)) UU135 rfl Kx, ?_⟩); (try simp only [qz])
  exact ⟨by rw [addR_ge Ox]; rfl, hw.below⟩
 simp only [qz]
 refine Zr ?_
 refine Wr [0, 0, 1, 1] ?_
 refine rf_loadR (n := 5) rfl rfl rfl UU44 rfl Kx (fun w hw => Kn.hd0 (Kn.tl hw)) rfl rfl (Nq ?_)
 refine rf_loadR (n := 5) rfl rfl rfl UU44 rfl Kx (fun w hw => Kn.hd0 (Kn.tl (Kn.tl hw))) rfl rfl (Nq ?_)
 refine rf_storeR (n := 5) rfl rfl Kx rfl rfl (UpdR.there _ (UpdR.there _ (UpdR.here _ _ _ Nl))) Nz (Nw ?_)
 refine rf_storeR (n := 5) rfl rfl Kx rfl rfl (UpdR.there _ (UpdR.here _ _ _ Nl)) Nz (Nw ?_)
 refine Zr ?_
 refine Wr [0, 0, 0, 0, 0, 0, 0, 1, 1, 1] ?_
 refine Fd 3 0 UU44 ?_
 refine rf_loadR (n := 4) rfl rfl rfl UU42 rfl Kx (fun w hw => Kn.hd0 (Kn.tl hw)) rfl rfl (Nq ?_)
 refine Fd 0 4 UU44 ?_
 refine rf_load rfl rfl rfl UU3 rfl (fun w hw => (Kn.hd0 (Kn.tl (Kn.tl hw))).at rfl) (Nq ?_)
 refine Fd 0 4 UU44 ?_
 refine rf_load rfl rfl rfl UU3 rfl (fun w hw => (Kn.hd0 (Kn.tl hw)).at rfl) (Nq ?_)
 refine rf_sub rfl rfl rfl rfl (wrap_ok Ox Ox) (Nq ?_)
 obtain ⟨ua0, ua1, ub0, ub1, uc0, uc1, ud0, ud1⟩ := Nm.up40_fit (n := (y.k - x.k).toNat) (z := x) hx.fit Ox
 apply rg_pure Rx Kx
 case hargs => exact Ax
 case h => exact fun w hw => by_any x (y.k - x.k) Ox Ox hx.fit w
 case hz => exact Nz
 simp only [qz]
 refine Rgn fun g5 => ?_
 simp only [qz]
 refine rf_storeR (n := 4) rfl rfl Kx rfl rfl (UpdR.here _ _ _ Nl) Nz (Nw ?_)
 refine Zr ?_
 refine Wx [0] ?_
 refine rg_nil (ek_next (wk_block ?_))
 refine wk_unroll 4 ?_
 refine wk_seq ?_
 refine Wr [0] ?_
 refine rf_lss (b := true) rfl rfl rfl rfl (by decide) (Nq ?_)
 refine Zr ?_
 refine Wx [0, 0] ?_
 refine rg_nil (ek_next ?_)
 refine wk_draws_m (hz1 := (sk _ (sc _ (sc _ (sc _ sn))))) [(0, 0), (1, 0), (2, 0), (3, 0), (4, 0), (5, 0), (6, 0), (7, 0), (8, 0), (9, 2)] 9 Kx Kx (fun c d v a w h => by cases d <;> exact h) ?_
 simp only [List.map_cons, List.map_nil, List.getD_cons_zero, List.getD_cons_succ]
 refine Zx ?_
 refine Ia 0 1 0 UU42 ?_
 refine rf_load rfl rfl rfl UU3 rfl (fun w hw => (Kn.hd0 hw).at rfl) (Zx ?_)
 refine Fd 3 0 UU44 ?_
 refine Ia 0 1 0 UU42 ?_
 refine rf_load rfl rfl rfl UU3 rfl (fun w hw => (Kn.hd0 (Kn.tl (Kn.tl (Kn.tl hw)))).at rfl) (Nq ?_)
 refine rf_add rfl rfl rfl rfl (wrap_ok Ox Ox) (Nq ?_)
 refine Ia 0 1 0 UU42 ?_
 refine rf_storeM rfl rfl Kx rfl rfl (UpdR.here _ _ _ Nl) (sk _ (sc _ (sc _ (sc _ sn)))) (Nq ?_)
 refine Zr ?_
 refine Wr [0, 0] ?_
 refine rf_add (r := 1) rfl rfl rfl rfl (by decide) (Zx ?_)
 refine Zr ?_
 refine Wr [0] ?_
 refine rf_lss (b := true) rfl rfl rfl rfl (by decide) (Nq ?_)
 refine Zr ?_
 refine Wx [0, 0] ?_
 refine rg_nil (ek_next ?_)
 refine wk_draws_m (hz1 := (sk _ (sc _ (sc _ (sc _ sn))))) [(0, 0), (1, 0), (2, 0), (3, 0), (4, 0), (5, 0), (6, 0), (7, 0), (8, 0), (9, 2)] 9 Kx Kx (fun c d v a w h => by cases d <;> exact h) ?_
 simp only [List.map_cons, List.map_nil, List.getD_cons_zero, List.getD_cons_succ]
 refine Zx ?_
 refine Ia 1 1 1 UU42 ?_
 refine rf_load rfl rfl rfl UU3 rfl (fun w hw => (Kn.hd0 hw).at rfl) (Zx ?_)
 refine Fd 3 0 UU44 ?_
 refine Ia 1 1 1 UU42 ?_
 refine rf_load rfl rfl rfl UU3 rfl (fun w hw => (Kn.hd0 (Kn.tl (Kn.tl (Kn.tl hw)))).at rfl) (Nq ?_)
 refine rf_add rfl rfl rfl rfl (wrap_ok Ox Ox) (Nq ?_)
 refine Ia 1 1 1 UU42 ?_
 refine rf_storeM rfl rfl Kx rfl rfl (UpdR.here _ _ _ Nl) (sk _ (sc _ (sc _ (sc _ sn)))) (Nq ?_)
 refine Zr ?_
 refine Wr [0, 0] ?_
 refine rf_add (r := 2) rfl rfl rfl rfl (by decide) (Zx ?_)
 refine Zr ?_
 refine Wr [0] ?_
 refine rf_lss (b := true) rfl rfl rfl rfl (by decide) (Nq ?_)
 refine Zr ?_
 refine Wx [0, 0] ?_
 refine rg_nil (ek_next ?_)
 refine wk_draws_m (hz1 := (sk _ (sc _ (sc _ (sc _ sn))))) [(0, 0), (1, 0), (2, 0), (3, 0), (4, 0), (5, 0), (6, 0), (7, 0), (8, 0), (9, 2)] 9 Kx Kx (fun c d v a w h => by cases d <;> exact h) ?_
 simp only [List.map_cons, List.map_nil, List.getD_cons_zero, List.getD_cons_succ]
 refine Zx ?_
 refine Ia 2 1 2 UU42 ?_
 refine rf_load rfl rfl rfl UU3 rfl (fun w hw => (Kn.hd0 hw).at rfl) (Zx ?_)
 refine Fd 3 0 UU44 ?_
 refine Ia 2 1 2 UU42 ?_
 refine rf_load rfl rfl rfl UU3 rfl (fun w hw => (Kn.hd0 (Kn.tl (Kn.tl (Kn.tl hw)))).at rfl) (Nq ?_)
 refine rf_add rfl rfl rfl rfl (wrap_ok Ox Ox) (Nq ?_)
 refine Ia 2 1 2 UU42 ?_
 refine rf_storeM rfl rfl Kx rfl rfl (UpdR.here _ _ _ Nl) (sk _ (sc _ (sc _ (sc _ sn)))) (Nq ?_)
 refine Zr ?_
 refine Wr [0, 0] ?_
 refine rf_add (r := 3) rfl rfl rfl rfl (by decide) (Zx ?_)
 refine Zr ?_
 refine Wr [0] ?_
 refine rf_lss (b := true) rfl rfl rfl rfl (by decide) (Nq ?_)
 refine Zr ?_
 refine Wx [0, 0] ?_
 refine rg_nil (ek_next ?_)
 refine wk_draws_m (hz1 := (sk _ (sc _ (sc _ (sc _ sn))))) [(0, 0), (1, 0), (2, 0), (3, 0), (4, 0), (5, 0), (6, 0), (7, 0), (8, 0), (9, 2)] 9 Kx Kx (fun c d v a w h => by cases d <;> exact h) ?_
 simp only [List.map_cons, List.map_nil, List.getD_cons_zero, List.getD_cons_succ]
 refine Zx ?_
 refine Ia 3 1 3 UU42 ?_
 refine rf_load rfl rfl rfl UU3 rfl (fun w hw => (Kn.hd0 hw).at rfl) (Zx ?_)
 refine Fd 3 0 UU44 ?_
 refine Ia 3 1 3 UU42 ?_
 refine rf_load rfl rfl rfl UU3 rfl (fun w hw => (Kn.hd0 (Kn.tl (Kn.tl (Kn.tl hw)))).at rfl) (Nq ?_)
 refine rf_add rfl rfl rfl rfl (wrap_ok Ox Ox) (Nq ?_)
 refine Ia 3 1 3 UU42 ?_
 refine rf_storeM rfl rfl Kx rfl rfl (UpdR.here _ _ _ Nl) (sk _ (sc _ (sc _ (sc _ sn)))) (Nq ?_)
 refine Zr ?_
 refine Wr [0, 0] ?_
 refine rf_add (r := 4) rfl rfl rfl rfl (by decide) (Zx ?_)
 refine Zr ?_
 refine Wr [0] ?_
 refine rf_lss (b := false) rfl rfl rfl rfl (by decide) (Nq ?_)
 refine Zr ?_
 refine Wr [0, 0, 0, 0, 1] ?_
 refine rf_loadR (n := 4) rfl rfl rfl UU42 rfl Kx (fun w hw => Kn.hd0 hw) rfl rfl (Nq ?_)
 refine Fd 0 4 UU44 ?_
 refine rf_load rfl rfl rfl UU3 rfl (fun w hw => (Kn.hd0 (Kn.tl (Kn.tl (Kn.tl hw)))).at rfl) (Nq ?_)
 refine rf_build (cs := fun a => #[cellAt (a.eval (.tmp 35)) 0, cellAt (a.eval (.tmp 35)) 1, cellAt (a.eval (.tmp 35)) 2, cellAt (a.eval (.tmp 35)) 3, a.eval (.tmp 37)]) rfl rfl Kx (Nq ?_)
 refine rf_storeR (n := 5) rfl rfl Kx rfl rfl (UpdR.there _ (UpdR.here _ _ _ Nl)) Nz (Nw ?_)
 refine Zr ?_
 refine ek_ret (fun w hw => ⟨rfl, _, run_results1 rfl rfl (Kn.hd0 (Kn.tl hw)) UU135 rfl Kx, ?_⟩)
 (try simp only [qz])
 exact ⟨by rw [addR_lt Ox]; rfl, hw.below⟩
theorem ammul_any (x y : Nm) (hx : x.Ok) (hy : y.Ok) (w : World) : Calls Tryz.prog 87 #[nmV x, nmV y] w fun e w' => e = .returned (nmV (x.mulR y)) ∧ Below w.heap.size w w' := by
 have hx' := hx
 have hy' := hy
 obtain ⟨⟨xa0, xa1, xb0, xb1, xc0, xc1, xd0, xd1⟩, xk0, xk1, xf⟩ := hx'
 obtain ⟨⟨ya0, ya1, yb0, yb1, yc0, yc1, yd0, yd1⟩, yk0, yk1, yf⟩ := hy'
 obtain ⟨⟨p0, r0⟩, ⟨p1, r1⟩, ⟨p2, r2⟩, ⟨p3, r3⟩, ⟨p4, r4⟩, ⟨p5, r5⟩, ⟨p6, r6⟩, ⟨p7, r7⟩, ⟨p8, r8⟩, ⟨p9, r9⟩, ⟨p10, r10⟩, ⟨p11, r11⟩, ⟨p12, r12⟩, ⟨p13, r13⟩, ⟨p14, r14⟩, ⟨p15, r15⟩⟩ := prods hx.fit hy.fit
 go_enter Tryz.func87, Tryz.ntmps87
 refine wk_start ?_
 refine wk_seq ?_
 refine Wr [1, 1, 1] ?_
 refine Rgn fun g1 => ?_
 simp only [qz]
 refine Rgn fun g2 => ?_
 simp only [qz]
 refine Rgn fun g3 => ?_
 simp only [qz]
 refine Zr ?_
 refine Wr [0, 0, 0, 0, 0, 0, 1, 1] ?_
 refine Fd 0 4 UU44 ?_
 refine rf_load rfl rfl rfl UU3 rfl (fun w hw => (Kn.hd0 (Kn.tl (Kn.tl hw))).at rfl) (Nq ?_)
 refine Fd 0 4 UU44 ?_
 refine rf_load rfl rfl rfl UU3 rfl (fun w hw => (Kn.hd0 (Kn.tl hw)).at rfl) (Nq ?_)
 refine rf_add rfl rfl rfl rfl (wrap_ok Ox Ox) (Nq ?_)
 refine rf_build (cs := fun a => #[.int .i64 0, .int .i64 0, .int .i64 0, .int .i64 0, a.eval (.tmp 14)]) rfl rfl Kx (Nq ?_)
 refine Rgn fun g4 => ?_
 simp only [qz]
 refine rf_storeR (n := 5) rfl rfl Kx rfl rfl (UpdR.here _ _ _ Nl) Nz (Nw ?_)
 refine Zr ?_
 refine Wr [0, 0, 0] ?_
 refine Fd 3 0 UU44 ?_
 refine rf_loadR (n := 4) rfl rfl rfl UU42 rfl Kx (fun w hw => Kn.hd0 (Kn.tl (Kn.tl (Kn.tl hw)))) rfl rfl (Zx ?_)
 refine rg_nil (ek_next (wk_block ?_))
 refine wk_unroll 4 ?_
 refine wk_seq ?_
 refine Wr [0] ?_
 refine rf_lss (b := true) rfl rfl rfl rfl (by decide) (Nq ?_)
 refine Zr ?_
 refine Wx [0, 0, 0, 0] ?_
 refine Zk ?_
 refine Zr ?_
 refine Wr [0, 0, 0] ?_
 refine Fd 3 0 UU44 ?_
 refine rf_loadR (n := 4) rfl rfl rfl UU42 rfl Kx (fun w hw => Kn.hd0 (Kn.tl (Kn.tl hw))) rfl rfl (Zx ?_)
 refine rg_nil (ek_next (wk_block ?_))
 refine wk_unroll 4 ?_
 refine wk_seq ?_
 refine Wr [0] ?_
 refine rf_lss (b := true) rfl rfl rfl rfl (by decide) (Nq ?_)
 refine Zr ?_
 refine Wx [0, 0, 0, 0] ?_
 refine Zk ?_
 refine Zr ?_
 refine Wx [0, 0, 0, 0] ?_
 refine rf_add (r := 0) rfl rfl rfl rfl (by decide) (Nq ?_)
 refine rf_lss (b := true) rfl rfl rfl rfl (by decide) (Nq ?_)
 refine Zr ?_
 refine Wx [0, 0, 0, 0, 0, 0, 0, 0, 0, 0, 0, 0, 1] ?_
 refine rf_add (r := 0) rfl rfl rfl rfl (by decide) (Nq ?_)
 refine Fd 3 0 UU135 ?_
 refine Ia 0 1 0 UU42 ?_
 refine rf_load rfl rfl rfl UU3 rfl (fun w hw => (Kn.hd0 hw).at rfl) (Zx ?_)
 refine rf_mul rfl rfl rfl rfl (wrap_ok Ox Ox) (Nq ?_)
 refine rf_add rfl rfl rfl rfl (wrap_ok Ox Ox) (Nq ?_)
 refine Fd 3 0 UU135 ?_
 refine Ia 0 1 0 UU42 ?_
 refine rf_store rfl rfl Kx rfl rfl (UpdR.here _ _ _ Nl) Nz (Nq ?_)
 refine Zr ?_
 refine Wr [0, 0] ?_
 refine rf_add (r := 1) rfl rfl rfl rfl (by decide) (Zx ?_)
 refine Zr ?_
 refine Wr [0] ?_
 refine rf_lss (b := true) rfl rfl rfl rfl (by decide) (Nq ?_)
 refine Zr ?_
 refine Wx [0, 0, 0, 0] ?_
 refine Zk ?_
 refine Zr ?_
 refine Wx [0, 0, 0, 0] ?_
 refine rf_add (r := 1) rfl rfl rfl rfl (by decide) (Nq ?_)
 refine rf_lss (b := true) rfl rfl rfl rfl (by decide) (Nq ?_)
 refine Zr ?_
 refine Wx [0, 0, 0, 0, 0, 0, 0, 0, 0, 0, 0, 0, 1] ?_
 refine rf_add (r := 1) rfl rfl rfl rfl (by decide) (Nq ?_)
 refine Fd 3 0 UU135 ?_
 refine Ia 1 1 1 UU42 ?_
 refine rf_load rfl rfl rfl UU3 rfl (fun w hw => (Kn.hd0 hw).at rfl) (Zx ?_)
 refine rf_mul rfl rfl rfl rfl (wrap_ok Ox Ox) (Nq ?_)
 refine rf_add rfl rfl rfl rfl (wrap_ok Ox Ox) (Nq ?_)
 refine Fd 3 0 UU135 ?_
 refine Ia 1 1 1 UU42 ?_
 refine rf_store rfl rfl Kx rfl rfl (UpdR.here _ _ _ Nl) Nz (Nq ?_)
 refine Zr ?_
 refine Wr [0, 0] ?_
 refine rf_add (r := 2) rfl rfl rfl rfl (by decide) (Zx ?_)
 refine Zr ?_
 refine Wr [0] ?_
 refine rf_lss (b := true) rfl rfl rfl rfl (by decide) (Nq ?_)
 refine Zr ?_
 refine Wx [0, 0, 0, 0] ?_
 refine Zk ?_
 refine Zr ?_
 refine Wx [0, 0, 0, 0] ?_
 refine rf_add (r := 2) rfl rfl rfl rfl (by decide) (Nq ?_)
 refine rf_lss (b := true) rfl rfl rfl rfl (by decide) (Nq ?_)
 refine Zr ?_
 refine Wx [0, 0, 0, 0, 0, 0, 0, 0, 0, 0, 0, 0, 1] ?_
 refine rf_add (r := 2) rfl rfl rfl rfl (by decide) (Nq ?_)
 refine Fd 3 0 UU135 ?_
 refine Ia 2 1 2 UU42 ?_
 refine rf_load rfl rfl rfl UU3 rfl (fun w hw => (Kn.hd0 hw).at rfl) (Zx ?_)
 refine rf_mul rfl rfl rfl rfl (wrap_ok Ox Ox) (Nq ?_)
 refine rf_add rfl rfl rfl rfl (wrap_ok Ox Ox) (Nq ?_)
 refine Fd 3 0 UU135 ?_
 refine Ia 2 1 2 UU42 ?_
 refine rf_store rfl rfl Kx rfl rfl (UpdR.here _ _ _ Nl) Nz (Nq ?_)
 refine Zr ?_
 refine Wr [0, 0] ?_
 refine rf_add (r := 3) rfl rfl rfl rfl (by decide) (Zx ?_)
 refine Zr ?_
 refine Wr [0] ?_
 refine rf_lss (b := true) rfl rfl rfl rfl (by decide) (Nq ?_)
 refine Zr ?_
 refine Wx [0, 0, 0, 0] ?_
 refine Zk ?_
 refine Zr ?_
 refine Wx [0, 0, 0, 0] ?_
 refine rf_add (r := 3) rfl rfl rfl rfl (by decide) (Nq ?_)
 refine rf_lss (b := true) rfl rfl rfl rfl (by decide) (Nq ?_)
 refine Zr ?_
 refine Wx [0, 0, 0, 0, 0, 0, 0, 0, 0, 0, 0, 0, 1] ?_
 refine rf_add (r := 3) rfl rfl rfl rfl (by decide) (Nq ?_)
 refine Fd 3 0 UU135 ?_
 refine Ia 3 1 3 UU42 ?_
 refine rf_load rfl rfl rfl UU3 rfl (fun w hw => (Kn.hd0 hw).at rfl) (Zx ?_)
 refine rf_mul rfl rfl rfl rfl (wrap_ok Ox Ox) (Nq ?_)
 refine rf_add rfl rfl rfl rfl (wrap_ok Ox Ox) (Nq ?_)
 refine Fd 3 0 UU135 ?_
 refine Ia 3 1 3 UU42 ?_
 refine rf_store rfl rfl Kx rfl rfl (UpdR.here _ _ _ Nl) Nz (Nq ?_)
 refine Zr ?_
 refine Wr [0, 0] ?_
 refine rf_add (r := 4) rfl rfl rfl rfl (by decide) (Zx ?_)
 refine Zr ?_
 refine Wr [0] ?_
 refine rf_lss (b := false) rfl rfl rfl rfl (by decide) (Nq ?_)
 refine Zr ?_
 refine Wr [0, 0] ?_
 refine rf_add (r := 1) rfl rfl rfl rfl (by decide) (Zx ?_)
 refine Zr ?_
 refine Wr [0] ?_
 refine rf_lss (b := true) rfl rfl rfl rfl (by decide) (Nq ?_)
 refine Zr ?_
 refine Wx [0, 0, 0, 0] ?_
 refine Zk ?_
 refine Zr ?_
 refine Wr [0, 0, 0] ?_
 refine Fd 3 0 UU44 ?_
 refine rf_loadR (n := 4) rfl rfl rfl UU42 rfl Kx (fun w hw => Kn.hd0 (Kn.tl (Kn.tl hw))) rfl rfl (Zx ?_)
 refine rg_nil (ek_next (wk_block ?_))
 refine wk_unroll 4 ?_
 refine wk_seq ?_
 refine Wr [0] ?_
 refine rf_lss (b := true) rfl rfl rfl rfl (by decide) (Nq ?_)
 refine Zr ?_
 refine Wx [0, 0, 0, 0] ?_
 refine Zk ?_
 refine Zr ?_
 refine Wx [0, 0, 0, 0] ?_
 refine rf_add (r := 1) rfl rfl rfl rfl (by decide) (Nq ?_)
 refine rf_lss (b := true) rfl rfl rfl rfl (by decide) (Nq ?_)
 refine Zr ?_
 refine Wx [0, 0, 0, 0, 0, 0, 0, 0, 0, 0, 0, 0, 1] ?_
 refine rf_add (r := 1) rfl rfl rfl rfl (by decide) (Nq ?_)
 refine Fd 3 0 UU135 ?_
 refine Ia 1 1 1 UU42 ?_
 refine rf_load rfl rfl rfl UU3 rfl (fun w hw => (Kn.hd0 hw).at rfl) (Zx ?_)
 refine rf_mul rfl rfl rfl rfl (wrap_ok Ox Ox) (Nq ?_)
 refine rf_add rfl rfl rfl rfl (wrap_ok Ox Ox) (Nq ?_)
 refine Fd 3 0 UU135 ?_
 refine Ia 1 1 1 UU42 ?_
 refine rf_store rfl rfl Kx rfl rfl (UpdR.here _ _ _ Nl) Nz (Nq ?_)
 refine Zr ?_
 refine Wr [0, 0] ?_
 refine rf_add (r := 1) rfl rfl rfl rfl (by decide) (Zx ?_)
 refine Zr ?_
 refine Wr [0] ?_
 refine rf_lss (b := true) rfl rfl rfl rfl (by decide) (Nq ?_)
 refine Zr ?_
 refine Wx [0, 0, 0, 0] ?_
 refine Zk ?_
 refine Zr ?_
 refine Wx [0, 0, 0, 0] ?_
 refine rf_add (r := 2) rfl rfl rfl rfl (by decide) (Nq ?_)
 refine rf_lss (b := true) rfl rfl rfl rfl (by decide) (Nq ?_)
 refine Zr ?_
 refine Wx [0, 0, 0, 0, 0, 0, 0, 0, 0, 0, 0, 0, 1] ?_
 refine rf_add (r := 2) rfl rfl rfl rfl (by decide) (Nq ?_)
 refine Fd 3 0 UU135 ?_
 refine Ia 2 1 2 UU42 ?_
 refine rf_load rfl rfl rfl UU3 rfl (fun w hw => (Kn.hd0 hw).at rfl) (Zx ?_)
 refine rf_mul rfl rfl rfl rfl (wrap_ok Ox Ox) (Nq ?_)
 refine rf_add rfl rfl rfl rfl (wrap_ok Ox Ox) (Nq ?_)
 refine Fd 3 0 UU135 ?_
 refine Ia 2 1 2 UU42 ?_
 refine rf_store rfl rfl Kx rfl rfl (UpdR.here _ _ _ Nl) Nz (Nq ?_)
 refine Zr ?_
 refine Wr [0, 0] ?_
 refine rf_add (r := 2) rfl rfl rfl rfl (by decide) (Zx ?_)
 refine Zr ?_
 refine Wr [0] ?_
 refine rf_lss (b := true) rfl rfl rfl rfl (by decide) (Nq ?_)
 refine Zr ?_
 refine Wx [0, 0, 0, 0] ?_
 refine Zk ?_
 refine Zr ?_
 refine Wx [0, 0, 0, 0] ?_
 refine rf_add (r := 3) rfl rfl rfl rfl (by decide) (Nq ?_)
 refine rf_lss (b := true) rfl rfl rfl rfl (by decide) (Nq ?_)
 refine Zr ?_
 refine Wx [0, 0, 0, 0, 0, 0, 0, 0, 0, 0, 0, 0, 1] ?_
 refine rf_add (r := 3) rfl rfl rfl rfl (by decide) (Nq ?_)
 refine Fd 3 0 UU135 ?_
 refine Ia 3 1 3 UU42 ?_
 refine rf_load rfl rfl rfl UU3 rfl (fun w hw => (Kn.hd0 hw).at rfl) (Zx ?_)
 refine rf_mul rfl rfl rfl rfl (wrap_ok Ox Ox) (Nq ?_)
 refine rf_add rfl rfl rfl rfl (wrap_ok Ox Ox) (Nq ?_)
 refine Fd 3 0 UU135 ?_
 refine Ia 3 1 3 UU42 ?_
 refine rf_store rfl rfl Kx rfl rfl (UpdR.here _ _ _ Nl) Nz (Nq ?_)
 refine Zr ?_
 refine Wr [0, 0] ?_
 refine rf_add (r := 3) rfl rfl rfl rfl (by decide) (Zx ?_)
 refine Zr ?_
 refine Wr [0] ?_
 refine rf_lss (b := true) rfl rfl rfl rfl (by decide) (Nq ?_)
 refine Zr ?_
 refine Wx [0, 0, 0, 0] ?_
 refine Zk ?_
 refine Zr ?_
 refine Wx [0, 0, 0, 0] ?_
 refine rf_add (r := 4) rfl rfl rfl rfl (by decide) (Nq ?_)
 refine rf_lss (b := false) rfl rfl rfl rfl (by decide) (Nq ?_)
 refine Zr ?_
 refine Wx [0, 0, 0, 0, 0, 0, 0, 0, 0, 0, 0, 0, 0, 1] ?_
 refine rf_add (r := 4) rfl rfl rfl rfl (by decide) (Nq ?_)
 refine rf_sub (r := 0) rfl rfl rfl rfl (by decide) (Nq ?_)
 refine Fd 3 0 UU135 ?_
 refine Ia 0 1 0 UU42 ?_
 refine rf_load rfl rfl rfl UU3 rfl (fun w hw => (Kn.hd0 hw).at rfl) (Zx ?_)
 refine rf_mul rfl rfl rfl rfl (wrap_ok Ox Ox) (Nq ?_)
 refine rf_sub rfl rfl rfl rfl (wrap_ok Ox Ox) (Nq ?_)
 refine Fd 3 0 UU135 ?_
 refine Ia 0 1 0 UU42 ?_
 refine rf_store rfl rfl Kx rfl rfl (UpdR.here _ _ _ Nl) Nz (Nq ?_)
 refine Zr ?_
 refine Wr [0, 0] ?_
 refine rf_add (r := 4) rfl rfl rfl rfl (by decide) (Zx ?_)
 refine Zr ?_
 refine Wr [0] ?_
 refine rf_lss (b := false) rfl rfl rfl rfl (by decide) (Nq ?_)
 refine Zr ?_
 refine Wr [0, 0] ?_
 refine rf_add (r := 2) rfl rfl rfl rfl (by decide) (Zx ?_)
 refine Zr ?_
 refine Wr [0] ?_
 refine rf_lss (b := true) rfl rfl rfl rfl (by decide) (Nq ?_)
 refine Zr ?_
 refine Wx [0, 0, 0, 0] ?_
 refine Zk ?_
 refine Zr ?_
 refine Wr [0, 0, 0] ?_
 refine Fd 3 0 UU44 ?_
 refine rf_loadR (n := 4) rfl rfl rfl UU42 rfl Kx (fun w hw => Kn.hd0 (Kn.tl (Kn.tl hw))) rfl rfl (Zx ?_)
 refine rg_nil (ek_next (wk_block ?_))
 refine wk_unroll 4 ?_
 refine wk_seq ?_
 refine Wr [0] ?_
 refine rf_lss (b := true) rfl rfl rfl rfl (by decide) (Nq ?_)
 refine Zr ?_
 refine Wx [0, 0, 0, 0] ?_
 refine Zk ?_
 refine Zr ?_
 refine Wx [0, 0, 0, 0] ?_
 refine rf_add (r := 2) rfl rfl rfl rfl (by decide) (Nq ?_)
 refine rf_lss (b := true) rfl rfl rfl rfl (by decide) (Nq ?_)
 refine Zr ?_
 refine Wx [0, 0, 0, 0, 0, 0, 0, 0, 0, 0, 0, 0, 1] ?_
 refine rf_add (r := 2) rfl rfl rfl rfl (by decide) (Nq ?_)
 refine Fd 3 0 UU135 ?_
 refine Ia 2 1 2 UU42 ?_
 refine rf_load rfl rfl rfl UU3 rfl (fun w hw => (Kn.hd0 hw).at rfl) (Zx ?_)
 refine rf_mul rfl rfl rfl rfl (wrap_ok Ox Ox) (Nq ?_)
 refine rf_add rfl rfl rfl rfl (wrap_ok Ox Ox) (Nq ?_)
 refine Fd 3 0 UU135 ?_
 refine Ia 2 1 2 UU42 ?_
 refine rf_store rfl rfl Kx rfl rfl (UpdR.here _ _ _ Nl) Nz (Nq ?_)
 refine Zr ?_
 refine Wr [0, 0] ?_
 refine rf_add (r := 1) rfl rfl rfl rfl (by decide) (Zx ?_)
 refine Zr ?_
 refine Wr [0] ?_
 refine rf_lss (b := true) rfl rfl rfl rfl (by decide) (Nq ?_)
 refine Zr ?_
 refine Wx [0, 0, 0, 0] ?_
 refine Zk ?_
 refine Zr ?_
 refine Wx [0, 0, 0, 0] ?_
 refine rf_add (r := 3) rfl rfl rfl rfl (by decide) (Nq ?_)
 refine rf_lss (b := true) rfl rfl rfl rfl (by decide) (Nq ?_)
 refine Zr ?_
 refine Wx [0, 0, 0, 0, 0, 0, 0, 0, 0, 0, 0, 0, 1] ?_
 refine rf_add (r := 3) rfl rfl rfl rfl (by decide) (Nq ?_)
 refine Fd 3 0 UU135 ?_
 refine Ia 3 1 3 UU42 ?_
 refine rf_load rfl rfl rfl UU3 rfl (fun w hw => (Kn.hd0 hw).at rfl) (Zx ?_)
 refine rf_mul rfl rfl rfl rfl (wrap_ok Ox Ox) (Nq ?_)
 refine rf_add rfl rfl rfl rfl (wrap_ok Ox Ox) (Nq ?_)
 refine Fd 3 0 UU135 ?_
 refine Ia 3 1 3 UU42 ?_
 refine rf_store rfl rfl Kx rfl rfl (UpdR.here _ _ _ Nl) Nz (Nq ?_)
 refine Zr ?_
 refine Wr [0, 0] ?_
 refine rf_add (r := 2) rfl rfl rfl rfl (by decide) (Zx ?_)
 refine Zr ?_
 refine Wr [0] ?_
 refine rf_lss (b := true) rfl rfl rfl rfl (by decide) (Nq ?_)
 refine Zr ?_
 refine Wx [0, 0, 0, 0] ?_
 refine Zk ?_
 refine Zr ?_
 refine Wx [0, 0, 0, 0] ?_
 refine rf_add (r := 4) rfl rfl rfl rfl (by decide) (Nq ?_)
 refine rf_lss (b := false) rfl rfl rfl rfl (by decide) (Nq ?_)
 refine Zr ?_
 refine Wx [0, 0, 0, 0, 0, 0, 0, 0, 0, 0, 0, 0, 0, 1] ?_
 refine rf_add (r := 4) rfl rfl rfl rfl (by decide) (Nq ?_)
 refine rf_sub (r := 0) rfl rfl rfl rfl (by decide) (Nq ?_)
 refine Fd 3 0 UU135 ?_
 refine Ia 0 1 0 UU42 ?_
 refine rf_load rfl rfl rfl UU3 rfl (fun w hw => (Kn.hd0 hw).at rfl) (Zx ?_)
 refine rf_mul rfl rfl rfl rfl (wrap_ok Ox Ox) (Nq ?_)
 refine rf_sub rfl rfl rfl rfl (wrap_ok Ox Ox) (Nq ?_)
 refine Fd 3 0 UU135 ?_
 refine Ia 0 1 0 UU42 ?_
 refine rf_store rfl rfl Kx rfl rfl (UpdR.here _ _ _ Nl) Nz (Nq ?_)
 refine Zr ?_
 refine Wr [0, 0] ?_
 refine rf_add (r := 3) rfl rfl rfl rfl (by decide) (Zx ?_)
 refine Zr ?_
 refine Wr [0] ?_
 refine rf_lss (b := true) rfl rfl rfl rfl (by decide) (Nq ?_)
 refine Zr ?_
 refine Wx [0, 0, 0, 0] ?_
 refine Zk ?_
 refine Zr ?_
 refine Wx [0, 0, 0, 0] ?_
 refine rf_add (r := 5) rfl rfl rfl rfl (by decide) (Nq ?_)
 refine rf_lss (b := false) rfl rfl rfl rfl (by decide) (Nq ?_)
 refine Zr ?_
 refine Wx [0, 0, 0, 0, 0, 0, 0, 0, 0, 0, 0, 0, 0, 1] ?_
 refine rf_add (r := 5) rfl rfl rfl rfl (by decide) (Nq ?_)
 refine rf_sub (r := 1) rfl rfl rfl rfl (by decide) (Nq ?_)
 refine Fd 3 0 UU135 ?_
 refine Ia 1 1 1 UU42 ?_
 refine rf_load rfl rfl rfl UU3 rfl (fun w hw => (Kn.hd0 hw).at rfl) (Zx ?_)
 refine rf_mul rfl rfl rfl rfl (wrap_ok Ox Ox) (Nq ?_)
 refine rf_sub rfl rfl rfl rfl (wrap_ok Ox Ox) (Nq ?_)
 refine Fd 3 0 UU135 ?_
 refine Ia 1 1 1 UU42 ?_
 refine rf_store rfl rfl Kx rfl rfl (UpdR.here _ _ _ Nl) Nz (Nq ?_)
 refine Zr ?_
 refine Wr [0, 0] ?_
 refine rf_add (r := 4) rfl rfl rfl rfl (by decide) (Zx ?_)
 refine Zr ?_
 refine Wr [0] ?_
 refine rf_lss (b := false) rfl rfl rfl rfl (by decide) (Nq ?_)
 refine Zr ?_
 refine Wr [0, 0] ?_
 refine rf_add (r := 3) rfl rfl rfl rfl (by decide) (Zx ?_)
 refine Zr ?_
 refine Wr [0] ?_
 refine rf_lss (b := true) rfl rfl rfl rfl (by decide) (Nq ?_)
 refine Zr ?_
 refine Wx [0, 0, 0, 0] ?_
 refine Zk ?_
 refine Zr ?_
 refine Wr [0, 0, 0] ?_
 refine Fd 3 0 UU44 ?_
 refine rf_loadR (n := 4) rfl rfl rfl UU42 rfl Kx (fun w hw => Kn.hd0 (Kn.tl (Kn.tl hw))) rfl rfl (Zx ?_)
 refine rg_nil (ek_next (wk_block ?_))
 refine wk_unroll 4 ?_
 refine wk_seq ?_
 refine Wr [0] ?_
 refine rf_lss (b := true) rfl rfl rfl rfl (by decide) (Nq ?_)
 refine Zr ?_
 refine Wx [0, 0, 0, 0] ?_
 refine Zk ?_
 refine Zr ?_
 refine Wx [0, 0, 0, 0] ?_
 refine rf_add (r := 3) rfl rfl rfl rfl (by decide) (Nq ?_)
 refine rf_lss (b := true) rfl rfl rfl rfl (by decide) (Nq ?_)
 refine Zr ?_
 refine Wx [0, 0, 0, 0, 0, 0, 0, 0, 0, 0, 0, 0, 1] ?_
 refine rf_add (r := 3) rfl rfl rfl rfl (by decide) (Nq ?_)
 refine Fd 3 0 UU135 ?_
 refine Ia 3 1 3 UU42 ?_
 refine rf_load rfl rfl rfl UU3 rfl (fun w hw => (Kn.hd0 hw).at rfl) (Zx ?_)
 refine rf_mul rfl rfl rfl rfl (wrap_ok Ox Ox) (Nq ?_)
 refine rf_add rfl rfl rfl rfl (wrap_ok Ox Ox) (Nq ?_)
 refine Fd 3 0 UU135 ?_
 refine Ia 3 1 3 UU42 ?_
 refine rf_store rfl rfl Kx rfl rfl (UpdR.here _ _ _ Nl) Nz (Nq ?_)
 refine Zr ?_
 refine Wr [0, 0] ?_
 refine rf_add (r := 1) rfl rfl rfl rfl (by decide) (Zx ?_)
 refine Zr ?_
 refine Wr [0] ?_
 refine rf_lss (b := true) rfl rfl rfl rfl (by decide) (Nq ?_)
 refine Zr ?_
 refine Wx [0, 0, 0, 0] ?_
 refine Zk ?_
 refine Zr ?_
 refine Wx [0, 0, 0, 0] ?_
 refine rf_add (r := 4) rfl rfl rfl rfl (by decide) (Nq ?_)
 refine rf_lss (b := false) rfl rfl rfl rfl (by decide) (Nq ?_)
 refine Zr ?_
 refine Wx [0, 0, 0, 0, 0, 0, 0, 0, 0, 0, 0, 0, 0, 1] ?_
 refine rf_add (r := 4) rfl rfl rfl rfl (by decide) (Nq ?_)
 refine rf_sub (r := 0) rfl rfl rfl rfl (by decide) (Nq ?_)
 refine Fd 3 0 UU135 ?_
 refine Ia 0 1 0 UU42 ?_
 refine rf_load rfl rfl rfl UU3 rfl (fun w hw => (Kn.hd0 hw).at rfl) (Zx ?_)
 refine rf_mul rfl rfl rfl rfl (wrap_ok Ox Ox) (Nq ?_)
 refine rf_sub rfl rfl rfl rfl (wrap_ok Ox Ox) (Nq ?_)
 refine Fd 3 0 UU135 ?_
 refine Ia 0 1 0 UU42 ?_
 refine rf_store rfl rfl Kx rfl rfl (UpdR.here _ _ _ Nl) Nz (Nq ?_)
 refine Zr ?_
 refine Wr [0, 0] ?_
 refine rf_add (r := 2) rfl rfl rfl rfl (by decide) (Zx ?_)
 refine Zr ?_
 refine Wr [0] ?_
 refine rf_lss (b := true) rfl rfl rfl rfl (by decide) (Nq ?_)
 refine Zr ?_
 refine Wx [0, 0, 0, 0] ?_
 refine Zk ?_
 refine Zr ?_
 refine Wx [0, 0, 0, 0] ?_
 refine rf_add (r := 5) rfl rfl rfl rfl (by decide) (Nq ?_)
 refine rf_lss (b := false) rfl rfl rfl rfl (by decide) (Nq ?_)
 refine Zr ?_
 refine Wx [0, 0, 0, 0, 0, 0, 0, 0, 0, 0, 0, 0, 0, 1] ?_
 refine rf_add (r := 5) rfl rfl rfl rfl (by decide) (Nq ?_)
 refine rf_sub (r := 1) rfl rfl rfl rfl (by decide) (Nq ?_)
 refine Fd 3 0 UU135 ?_
 refine Ia 1 1 1 UU42 ?_
 refine rf_load rfl rfl rfl UU3 rfl (fun w hw => (Kn.hd0 hw).at rfl) (Zx ?_)
 refine rf_mul rfl rfl rfl rfl (wrap_ok Ox Ox) (Nq ?_)
 refine rf_sub rfl rfl rfl rfl (wrap_ok Ox Ox) (Nq ?_)
 refine Fd 3 0 UU135 ?_
 refine Ia 1 1 1 UU42 ?_
 refine rf_store rfl rfl Kx rfl rfl (UpdR.here _ _ _ Nl) Nz (Nq ?_)
 refine Zr ?_
 refine Wr [0, 0] ?_
 refine rf_add (r := 3) rfl rfl rfl rfl (by decide) (Zx ?_)
 refine Zr ?_
 refine Wr [0] ?_
 refine rf_lss (b := true) rfl rfl rfl rfl (by decide) (Nq ?_)
 refine Zr ?_
 refine Wx [0, 0, 0, 0] ?_
 refine Zk ?_
 refine Zr ?_
 refine Wx [0, 0, 0, 0] ?_
 refine rf_add (r := 6) rfl rfl rfl rfl (by decide) (Nq ?_)
 refine rf_lss (b := false) rfl rfl rfl rfl (by decide) (Nq ?_)
 refine Zr ?_
 refine Wx [0, 0, 0, 0, 0, 0, 0, 0, 0, 0, 0, 0, 0, 1] ?_
 refine rf_add (r := 6) rfl rfl rfl rfl (by decide) (Nq ?_)
 refine rf_sub (r := 2) rfl rfl rfl rfl (by decide) (Nq ?_)
 refine Fd 3 0 UU135 ?_
 refine Ia 2 1 2 UU42 ?_
 refine rf_load rfl rfl rfl UU3 rfl (fun w hw => (Kn.hd0 hw).at rfl) (Zx ?_)
 refine rf_mul rfl rfl rfl rfl (wrap_ok Ox Ox) (Nq ?_)
 refine rf_sub rfl rfl rfl rfl (wrap_ok Ox Ox) (Nq ?_)
 refine Fd 3 0 UU135 ?_
 refine Ia 2 1 2 UU42 ?_
 refine rf_store rfl rfl Kx rfl rfl (UpdR.here _ _ _ Nl) Nz (Nq ?_)
 refine Zr ?_
 refine Wr [0, 0] ?_
 refine rf_add (r := 4) rfl rfl rfl rfl (by decide) (Zx ?_)
 refine Zr ?_
 refine Wr [0] ?_
 refine rf_lss (b := false) rfl rfl rfl rfl (by decide) (Nq ?_)
 refine Zr ?_
 refine Wr [0, 0] ?_
 refine rf_add (r := 4) rfl rfl rfl rfl (by decide) (Zx ?_)
 refine Zr ?_
 refine Wr [0] ?_
 refine rf_lss (b := false) rfl rfl rfl rfl (by decide) (Nq ?_)
 refine Zr ?_
 refine Wr [0, 1] ?_
 refine rf_loadR (n := 5) rfl rfl rfl UU135 rfl Kx (fun w hw => Kn.hd0 hw) rfl rfl (Nq ?_)
 refine rf_storeR (n := 5) rfl rfl Kx rfl rfl (UpdR.there _ (UpdR.here _ _ _ Nl)) Nz (Nw ?_)
 refine Zr ?_
 refine ek_ret (fun w hw => ⟨rfl, _, run_results1 rfl rfl (Kn.hd0 (Kn.tl hw)) UU135 rfl Kx, ?_⟩)
 (try simp only [qz])
 refine ⟨?_, hw.below⟩
 simp only [Nm.mulR, Int.zero_add]
theorem amAdd_ok (x y : Nm) (hx : x.Ok) (hy : y.Ok) (w : World) : Calls Tryz.prog 60 #[nmV x, nmV y] w fun e w' => e = .returned (numV (x.add y)) ∧ Below w.heap.size w w' := by
 go_enter Tryz.func60, Tryz.ntmps60
 refine wk_start ?_
 refine wk_seq ?_
 refine Wr [1, 1, 1, 0] ?_
 refine Rgn fun g1 => ?_
 simp only [qz]
 refine Rgn fun g2 => ?_
 simp only [qz]
 refine Rgn fun g3 => ?_
 refine Zx ?_
 refine Zr ?_
 refine Wr [0, 0, 1, 1, 0] ?_
 refine rf_loadR (n := 5) rfl rfl rfl UU44 rfl Kx (fun w hw => Kn.hd0 (Kn.tl (Kn.tl hw))) rfl rfl (Nq ?_)
 refine rf_loadR (n := 5) rfl rfl rfl UU44 rfl Kx (fun w hw => Kn.hd0 (Kn.tl hw)) rfl rfl (Nq ?_)
 refine rg_newS (cs := ?_) (ty := ?_) (n := 2) (c := 2) Rx (fun w => ?_) Nz (fun g4 => ?_); rotate_left 2
 focus (go_simp; rfl)
 simp only [qz]
 apply rg_pure Rx Kx
 case hargs => exact Ax
 case h => exact fun w hw => ampvalid_yes [x, y] _ 2 Nl Nl (by intro z hz; simp only [List.mem_cons, List.not_mem_nil, or_false] at hz; rcases hz with rfl | rfl <;> assumption) w (as_hd (Kn.hd0 hw) rfl)
 case hz => exact Nz
 refine Zx ?_
 refine Zr ?_
 refine Wr [0, 0, 1, 1, 0, 0, 1, 0] ?_
 refine rf_loadR (n := 5) rfl rfl rfl UU44 rfl Kx (fun w hw => Kn.hd0 (Kn.tl (Kn.tl (Kn.tl hw)))) rfl rfl (Nq ?_)
 refine rf_loadR (n := 5) rfl rfl rfl UU44 rfl Kx (fun w hw => Kn.hd0 (Kn.tl (Kn.tl hw))) rfl rfl (Nq ?_)
 apply rg_pure Rx Kx
 case hargs => exact Ax
 case h => exact fun w hw => amadd_any x y hx hy w
 case hz => exact Nz
 simp only [qz]
 apply rg_num Rx Kx
 case hargs => exact Ax
 case h => exact fun w hw => result_any (x.addR y) (addR_fit hx hy) (by have := hx.k1; have := hy.k1; simp only [Nm.addR]; omega) w
 case hz => exact Nz
 case hc => exact (fun c h => mk_err h)
 ·intro hr1
  refine Zx ?_; refine rf_storeR (n := 5) rfl rfl Kx rfl rfl (UpdR.there _ (UpdR.here _ _ _ Nl)) Nz (Nw ?_); refine Zx ?_; refine Zr ?_; refine ek_ret (fun w hw => ⟨rfl, _, run_results2 rfl rfl (Kn.hd0 (Kn.tl hw)) UU44 rfl Kx, ?_⟩); (try simp only [qz])
  exact ⟨by rw [show x.add y = _ from hr1]; rfl, hw.below⟩
 intro z1 hr1
 refine Zx ?_
 refine rf_storeR (n := 5) rfl rfl Kx rfl rfl (UpdR.there _ (UpdR.here _ _ _ Nl)) Nz (Nw ?_)
 refine Zx ?_
 refine Zr ?_
 refine ek_ret (fun w hw => ⟨rfl, _, run_results2 rfl rfl (Kn.hd0 (Kn.tl hw)) UU44 rfl Kx, ?_⟩)
 (try simp only [qz])
 exact ⟨by rw [show x.add y = _ from hr1]; rfl, hw.below⟩
theorem amMul_ok (x y : Nm) (hx : x.Ok) (hy : y.Ok) (w : World) : Calls Tryz.prog 130 #[nmV x, nmV y] w fun e w' => e = .returned (numV (x.mul y)) ∧ Below w.heap.size w w' := by
 go_enter Tryz.func130, Tryz.ntmps130
 refine wk_start ?_
 refine wk_seq ?_
 refine Wr [1, 1, 1, 0] ?_
 refine Rgn fun g1 => ?_
 simp only [qz]
 refine Rgn fun g2 => ?_
 simp only [qz]
 refine Rgn fun g3 => ?_
 refine Zx ?_
 refine Zr ?_
 refine Wr [0, 0, 1, 1, 0] ?_
 refine rf_loadR (n := 5) rfl rfl rfl UU44 rfl Kx (fun w hw => Kn.hd0 (Kn.tl (Kn.tl hw))) rfl rfl (Nq ?_)
 refine rf_loadR (n := 5) rfl rfl rfl UU44 rfl Kx (fun w hw => Kn.hd0 (Kn.tl hw)) rfl rfl (Nq ?_)
 refine rg_newS (cs := ?_) (ty := ?_) (n := 2) (c := 2) Rx (fun w => ?_) Nz (fun g4 => ?_); rotate_left 2
 focus (go_simp; rfl)
 simp only [qz]
 apply rg_pure Rx Kx
 case hargs => exact Ax
 case h => exact fun w hw => ampvalid_yes [x, y] _ 2 Nl Nl (by intro z hz; simp only [List.mem_cons, List.not_mem_nil, or_false] at hz; rcases hz with rfl | rfl <;> assumption) w (as_hd (Kn.hd0 hw) rfl)
 case hz => exact Nz
 refine Zx ?_
 refine Zr ?_
 refine Wr [0, 0, 1, 1, 0, 0, 1, 0] ?_
 refine rf_loadR (n := 5) rfl rfl rfl UU44 rfl Kx (fun w hw => Kn.hd0 (Kn.tl (Kn.tl (Kn.tl hw)))) rfl rfl (Nq ?_)
 refine rf_loadR (n := 5) rfl rfl rfl UU44 rfl Kx (fun w hw => Kn.hd0 (Kn.tl (Kn.tl hw))) rfl rfl (Nq ?_)
 apply rg_pure Rx Kx
 case hargs => exact Ax
 case h => exact fun w hw => ammul_any x y hx hy w
 case hz => exact Nz
 simp only [qz]
 apply rg_num Rx Kx
 case hargs => exact Ax
 case h => exact fun w hw => result_any (x.mulR y) (mulR_fit hx.fit hy.fit) (by have := hx.k1; have := hy.k1; simp only [Nm.mulR]; omega) w
 case hz => exact Nz
 case hc => exact (fun c h => mk_err h)
 ·intro hr1
  refine Zx ?_; refine rf_storeR (n := 5) rfl rfl Kx rfl rfl (UpdR.there _ (UpdR.here _ _ _ Nl)) Nz (Nw ?_); refine Zx ?_; refine Zr ?_; refine ek_ret (fun w hw => ⟨rfl, _, run_results2 rfl rfl (Kn.hd0 (Kn.tl hw)) UU44 rfl Kx, ?_⟩); (try simp only [qz])
  exact ⟨by rw [show x.mul y = _ from hr1]; rfl, hw.below⟩
 intro z1 hr1
 refine Zx ?_
 refine rf_storeR (n := 5) rfl rfl Kx rfl rfl (UpdR.there _ (UpdR.here _ _ _ Nl)) Nz (Nw ?_)
 refine Zx ?_
 refine Zr ?_
 refine ek_ret (fun w hw => ⟨rfl, _, run_results2 rfl rfl (Kn.hd0 (Kn.tl hw)) UU44 rfl Kx, ?_⟩)
 (try simp only [qz])
 exact ⟨by rw [show x.mul y = _ from hr1]; rfl, hw.below⟩
theorem and7 (x : Int) : bits .and .i64 x 7 = x % 8 := by
 show IntKind.i64.wrap ((BitVec.ofInt 64 x &&& BitVec.ofInt 64 7).toNat : Int) = _
 have h1 : (BitVec.ofInt 64 (7 : Int)).toNat = 2 ^ 3 - 1 := by decide
 rw [BitVec.toNat_and, h1, Nat.and_two_pow_sub_one_eq_mod, BitVec.toNat_ofInt, IntKind.wrap_i64]
 omega
def Nm.turn : Nat → Nm → Nm
  | 0, z => z
  | n + 1, z => (Nm.turn n z).rot
theorem amchanged_ok (z r : Nm) (hz : z.Ok) (f : Nat) (caps : Array Value) (hgo : isGo Tryz.prog f = true) (w : World) (hf : ∀ w', Below w.heap.size w w' → Calls Tryz.prog f (#[nmV z] ++ caps) w' fun e w'' => e = .returned (nmV r) ∧ Below w'.heap.size w' w'') : Calls Tryz.prog 80 #[nmV z, .func (.func f) #[] caps] w fun e w' => e = .returned (.tuple #[nmV r, .int .i64 0]) ∧ Below w.heap.size w w' := by
 go_enter Tryz.func80, Tryz.ntmps80
 refine wk_start ?_
 refine wk_seq ?_
 refine Wr [1, 1, 0] ?_
 refine Rgn fun g1 => ?_
 simp only [qz]
 refine Rgn fun g2 => ?_
 refine Zx ?_
 refine Zr ?_
 refine Wr [0, 1, 0] ?_
 refine rf_loadR (n := 5) rfl rfl rfl UU44 rfl Kx (fun w hw => Kn.hd0 (Kn.tl hw)) rfl rfl (Nq ?_)
 apply rg_pure Rx Kx
 case hargs => exact Ax
 case h => exact fun w hw => by have := amvalid_any z w; rw [okB_yes hz] at this; exact this
 case hz => exact Nz
 refine Zx ?_
 refine Zr ?_
 refine Wx [0, 0, 1, 1, 0] ?_
 refine rf_loadR (n := 5) rfl rfl rfl UU44 rfl Kx (fun w hw => Kn.hd0 (Kn.tl hw)) rfl rfl (Nq ?_)
 refine CV.rg_callV (caps := caps) (vs := #[nmV z]) (v := nmV r) Rx rfl hgo (by simp only [qm, qs, Act.eval]) (fun w hw => hf w hw.below) Nz ?_
 simp only [qz]
 refine rf_storeR (n := 5) rfl rfl Kx rfl rfl (UpdR.here _ _ _ Nl) Nz (Nw ?_)
 refine Zx ?_
 refine Zr ?_
 refine ek_ret (fun w hw => ⟨rfl, _, run_results2 rfl rfl (Kn.hd0 hw) UU44 rfl Kx, ?_⟩)
 (try simp only [qz])
 first | exact ⟨rfl, hw.below⟩ | exact ⟨trivial, hw.below⟩ | exact hw.below
theorem amPower_ok (z : Nm) (hz : z.Ok) (w : World) : Calls Tryz.prog 41 #[nmV z] w fun e w' => e = .returned (numV z.power) ∧ Below w.heap.size w w' := by
 go_enter Tryz.func41, Tryz.ntmps41
 refine wk_start ?_
 refine wk_seq ?_
 refine wk_region [1, 1, 0] rfl Kx ?_
 simp only [qy]
 refine Rgn fun g1 => ?_
 simp only [qz]
 refine Rgn fun g2 => ?_
 simp only [qz]
 refine rg_assign ?_
 simp only [qz]
 refine rg_nil (ek_next (wk_seq (wk_seq ?_)))
 refine wk_region [0, 1, 0] rfl Kx ?_
 simp only [qy]
 refine rf_loadR (n := 5) rfl rfl rfl UU44 rfl Kx (fun w hw => Kn.hd0 (Kn.tl hw)) rfl rfl ?_
 simp only [qz]
 apply rg_pure Rx Kx
 case hargs => exact Ax
 case h => exact fun w hw => by have := amvalid_any z w; rw [okB_yes hz] at this; exact this
 case hz => exact Nz
 simp only [qz]
 refine rf_not rfl rfl rfl ?_
 simp only [qz]
 refine rg_nil (ek_next (wk_cond_f rfl (wk_skip (ek_next (wk_seq ?_)))))
 refine wk_draws_m (hz1 := (sk _ (sc _ sn))) [(0, 0), (1, 0), (2, 1), (3, 1), (4, 1), (5, 0), (6, 0), (7, 2), (8, 0)] 7 Kx Kx (fun c d v a w h => by cases d <;> exact h) ?_
 simp only [List.map_cons, List.map_nil, List.getD_cons_zero, List.getD_cons_succ]
 refine rf_loadR (n := 5) rfl rfl rfl UU44 rfl Kx (fun w hw => Kn.hd0 (Kn.tl hw)) rfl rfl ?_
 simp only [qz]
 refine rf_loadR (n := 5) rfl rfl rfl UU44 rfl Kx (fun w hw => Kn.hd0 (Kn.tl hw)) rfl rfl ?_
 simp only [qz]
 apply rg_pure Rx Kx
 case hargs => exact Ax
 case h => exact fun w hw => amconj_any z (Nm.fit_mono hz.fit Ox) w
 case hz => exact (fun _ h => by cases h; exact (sc _ (sc _ sn)))
 simp only [qz]
 apply rg_pure Rx Kx
 case hargs => exact Ax
 case h => exact fun w hw => ammul_any z z.conj hz (conj_ok hz) w
 case hz => exact (fun _ h => by cases h; exact (sc _ (sc _ sn)))
 simp only [qz]
 apply rg_num Rx Kx
 case hargs => exact Ax
 case h => exact fun w hw => result_any (z.mulR z.conj) (mulR_fit hz.fit (conj_ok hz).fit) (by have := hz.k1; simp only [Nm.mulR, Nm.conj]; omega) w
 case hz => exact (fun _ h => by cases h; exact (sc _ (sc _ sn)))
 case hc => exact (fun c h => mk_err h)
 ·intro hr1
  simp only [qz]
  refine rf_extract rfl rfl rfl rfl ?_
  simp only [qz]
  refine rf_extract rfl rfl rfl rfl ?_
  simp only [qz]
  refine rf_storeRM (n := 5) rfl rfl Kx rfl rfl (UpdR.here _ _ _ Nl) (sk _ (sc _ sn)) ?_
  simp only [qz, Nat.reduceAdd]
  refine rg_assign ?_
  simp only [qz]
  refine rg_nil (ek_next (wk_ret ?_))
  refine ek_ret (fun w hw => ⟨rfl, _, run_results2 rfl rfl (Kn.hd0 hw) UU44 rfl Kx, ?_⟩)
  (try simp only [qz])
  exact ⟨by rw [show z.power = _ from hr1]; rfl, hw.below⟩
 intro z1 hr1
 simp only [qz]
 refine rf_extract rfl rfl rfl rfl ?_
 simp only [qz]
 refine rf_extract rfl rfl rfl rfl ?_
 simp only [qz]
 refine rf_storeRM (n := 5) rfl rfl Kx rfl rfl (UpdR.here _ _ _ Nl) (sk _ (sc _ sn)) ?_
 simp only [qz, Nat.reduceAdd]
 refine rg_assign ?_
 simp only [qz]
 refine rg_nil (ek_next (wk_ret ?_))
 refine ek_ret (fun w hw => ⟨rfl, _, run_results2 rfl rfl (Kn.hd0 hw) UU44 rfl Kx, ?_⟩)
 (try simp only [qz])
 exact ⟨by rw [show z.power = _ from hr1]; rfl, hw.below⟩
section
variable {n : Nat}
theorem sum_sum_mul (f g : Nat → Q4) (m n : Nat) : sumQ m f * sumQ n g = sumQ m fun i => sumQ n fun j => f i * g j := by
 rw [← sumQ_mulr]
 exact sumQ_congr fun i _ => (sumQ_mul n (f i) g).symm
theorem mul4 (a b c d : Q4) : a * b * (c * d) = b * c * (a * d) := by
 rw [Q4.mul_comm a b, Q4.mul_assoc, Q4.mul_assoc, ← Q4.mul_assoc a c d, Q4.mul_comm a c, Q4.mul_assoc c a d]
theorem un_keep {m : Nat → Nat → Q4} (h : UnC n m) (u v : Nat → Q4) :
    sumQ n (fun i => Q4.conj (sumQ n fun k => m i k * u k) * sumQ n fun l => m i l * v l) = sumQ n fun k => Q4.conj (u k) * v k := by
  have e1 : sumQ n (fun i => Q4.conj (sumQ n fun k => m i k * u k) * sumQ n fun l => m i l * v l) = sumQ n fun i => sumQ n fun k => sumQ n fun l => Q4.conj (m i k) * m i l * (Q4.conj (u k) * v l) := by
    refine sumQ_congr fun i _ => ?_
    rw [sumQ_conj, sum_sum_mul]
    refine sumQ_congr fun k _ => sumQ_congr fun l _ => ?_
    rw [Q4.conj_mul, Q4.mul_comm (Q4.conj (m i k)) (Q4.conj (u k)), mul4]
  rw [e1, sumQ_swap]
  refine sumQ_congr fun k hk => ?_
  rw [sumQ_swap]
  have e2 : sumQ n (fun l => sumQ n fun i => Q4.conj (m i k) * m i l * (Q4.conj (u k) * v l)) = sumQ n fun l => dl k l * (Q4.conj (u k) * v l) := by
    refine sumQ_congr fun l hl => ?_
    rw [sumQ_mulr, h k l hk hl]
  rw [e2]
  exact sumQ_dl (fun l => Q4.conj (u k) * v l) hk
theorem un_light {m : Nat → Nat → Q4} (h : UnC n m) (v : Nat → Q4) : sumQ n (fun i => (sumQ n fun k => m i k * v k) * Q4.conj (sumQ n fun k => m i k * v k)) = sumQ n fun k => v k * Q4.conj (v k) := by
 have e := un_keep h v v
 have e1 : sumQ n (fun i => (sumQ n fun k => m i k * v k) * Q4.conj (sumQ n fun k => m i k * v k)) = sumQ n fun i => Q4.conj (sumQ n fun k => m i k * v k) * sumQ n fun l => m i l * v l :=
  sumQ_congr fun i _ => Q4.mul_comm _ _
 rw [e1, e]
 exact sumQ_congr fun k _ => Q4.mul_comm _ _
end
def prodsR (x y : Nat → Nm) : Nat → NR
  | 0 => .ok Nm.zero
  | k + 1 => match prodsR x y k with
    | .error c => .error c
    | .ok s => match (x k).mul (y k) with
      | .error c => .error c
      | .ok p => s.add p
theorem prodsR_err {x y : Nat → Nm} {k : Nat} {c : Int} (h : prodsR x y k = .error c) : ∀ m, k ≤ m → prodsR x y m = .error c := by
  intro m hm
  induction m with
  | zero => obtain rfl : k = 0 := by omega
            exact h
  | succ m ih =>
    rcases (by omega : k = m + 1 ∨ k ≤ m) with rfl | hm
    · exact h
    · simp only [prodsR, ih hm]
theorem prodsR_val {x y : Nat → Nm} (hx : ∀ k, (x k).Ok) (hy : ∀ k, (y k).Ok) : ∀ {n : Nat} {z : Nm}, prodsR x y n = .ok z → z.Ok ∧ z.val = sumQ n fun k => (x k).val * (y k).val
  | 0, z, h => by
    cases h
    exact ⟨zero_ok, val_zero⟩
  | n + 1, z, h => by
    simp only [prodsR] at h
    split at h
    · cases h
    · next s hs =>
      split at h
      · cases h
      · next p hp =>
        obtain ⟨so, sv⟩ := prodsR_val hx hy hs
        obtain ⟨po, -, pe⟩ := mk_ok (mulR_k (hx n).k0 (hy n).k0) hp
        obtain ⟨zo, -, ze⟩ := mk_ok (addR_k so.k0) h
        refine ⟨zo, ?_⟩
        show _ = sumQ n _ + _
        rw [val_eqv zo.k0 (addR_k so.k0) ze, val_addR so.k0 po.k0, sv, val_eqv po.k0 (mulR_k (hx n).k0 (hy n).k0) pe, val_mulR (hx n).k0 (hy n).k0]
theorem prodsR_code {x y : Nat → Nm} : ∀ {n : Nat} {c : Int}, prodsR x y n = .error c → c = 4
  | 0, c, h => by cases h
  | n + 1, c, h => by
    simp only [prodsR] at h
    split at h
    · next c' hc => cases h; exact prodsR_code hc
    · split at h
      · next c' hc => cases h; exact mk_err hc
      · exact mk_err h
def lenR (v : Nat → Nm) : Nat → NR
  | 0 => .ok Nm.zero
  | k + 1 => match lenR v k with
    | .error c => .error c
    | .ok s => match (v k).power with
      | .error c => .error c
      | .ok p => s.add p
theorem lenR_err {v : Nat → Nm} {k : Nat} {c : Int} (h : lenR v k = .error c) : ∀ m, k ≤ m → lenR v m = .error c := by
  intro m hm
  induction m with
  | zero => obtain rfl : k = 0 := by omega
            exact h
  | succ m ih =>
    rcases (by omega : k = m + 1 ∨ k ≤ m) with rfl | hm
    · exact h
    · simp only [lenR, ih hm]
theorem power_val {z p : Nm} (hz : z.Ok) (h : z.power = .ok p) : p.Ok ∧ p.val = z.val * Q4.conj z.val := by
 have hc := conj_ok hz
 obtain ⟨po, -, pe⟩ := mk_ok (mulR_k hz.k0 hc.k0) h
 exact ⟨po, by rw [val_eqv po.k0 (mulR_k hz.k0 hc.k0) pe, val_mulR hz.k0 hc.k0, val_conj]⟩
theorem lenR_val {v : Nat → Nm} (hv : ∀ k, (v k).Ok) : ∀ {n : Nat} {z : Nm}, lenR v n = .ok z → z.Ok ∧ z.val = sumQ n fun k => (v k).val * Q4.conj (v k).val
  | 0, z, h => by
    cases h
    exact ⟨zero_ok, val_zero⟩
  | n + 1, z, h => by
    simp only [lenR] at h
    split at h
    · cases h
    · next s hs =>
      split at h
      · cases h
      · next p hp =>
        obtain ⟨so, sv⟩ := lenR_val hv hs
        obtain ⟨po, pv⟩ := power_val (hv n) hp
        obtain ⟨zo, -, ze⟩ := mk_ok (addR_k so.k0) h
        refine ⟨zo, ?_⟩
        show _ = sumQ n _ + _
        rw [val_eqv zo.k0 (addR_k so.k0) ze, val_addR so.k0 po.k0, sv, pv]
def colS (xs : List Nm) (N k l : Nat) : Nat → Nm
  | 0 => Nm.zero
  | n + 1 => (colS xs N k l n).addR ((nm xs (n * N + k)).conj.mulR (nm xs (n * N + l)))
def wantN (k l : Nat) : Nm := if k = l then Nm.one else Nm.zero
def Fb (n : Nat) : Int := 2 ^ (62 + 42 * n)
theorem upW_fit {M : Int} {n : Nat} {z : Nm} (h : z.Fit M) (hM : 0 ≤ M) (hn : n ≤ 81) : (Nm.up n z).Fit (2 ^ 41 * M) := by
 have key : ∀ m : Nat, m ≤ 41 → (2 : Int) ^ m * M ≤ 2 ^ 41 * M := fun m hm => by
  refine Int.mul_le_mul_of_nonneg_right ?_ hM
  have h1 := Nat.pow_le_pow_right (n := 2) Ox hm
  have e : ((2 ^ m : Nat) : Int) = (2 : Int) ^ m := by simp
  have e2 : ((2 ^ 41 : Nat) : Int) = (2 : Int) ^ 41 := by simp
  omega
 rcases (⟨n / 2, by omega⟩ : ∃ m, n = 2 * m ∧ m ≤ 40 ∨ n = 2 * m + 1 ∧ m ≤ 40) with ⟨m, ⟨rfl, hm⟩ | ⟨rfl, hm⟩⟩
 ·exact Nm.fit_mono (Nm.up_fit m h).1 (key m Ox)
 exact Nm.fit_mono (Nm.up_fit m h).2 (key (m + 1) Ox)
theorem Fb_pos (n : Nat) : 4611686018427387904 ≤ Fb n := by
 unfold Fb
 have h1 := Nat.pow_le_pow_right (n := 2) Ox (show 62 ≤ 62 + 42 * n by omega)
 have e : ((2 ^ (62 + 42 * n) : Nat) : Int) = (2 : Int) ^ (62 + 42 * n) := by simp
 have e2 : (2 : Nat) ^ 62 = 4611686018427387904 := by decide
 omega
theorem Fb_succ (n : Nat) : 2 ^ 41 * Fb n + 2 ^ 41 * Fb n = Fb (n + 1) := by
 unfold Fb
 rw [show 62 + 42 * (n + 1) = (62 + 42 * n) + 42 by omega, Int.pow_add (2 : Int) (62 + 42 * n) 42]
 generalize (2 : Int) ^ (62 + 42 * n) = M
 have e1 : (2 : Int) ^ 41 = 2199023255552 := by decide
 have e2 : (2 : Int) ^ 42 = 4398046511104 := by decide
 rw [e1, e2]
 omega
theorem prod_W {x y : Nm} (hx : x.Ok) (hy : y.Ok) : (x.conj.mulR y).Fit 4611686018427387904 ∧ 0 ≤ (x.conj.mulR y).k ∧ (x.conj.mulR y).k ≤ 80 :=
  ⟨Nm.fit_mono (mulR_fit (conj_ok hx).fit hy.fit) (by decide), by have := hx.k0; have := hy.k0; simp only [Nm.mulR, Nm.conj]; omega, by have := hx.k1; have := hy.k1; simp only [Nm.mulR, Nm.conj]; omega⟩
theorem addR_W {x y : Nm} {n : Nat} (hx : x.Fit (Fb n)) (hx0 : 0 ≤ x.k) (hx1 : x.k ≤ 80) (hy : y.Fit 4611686018427387904) (hy0 : 0 ≤ y.k) (hy1 : y.k ≤ 80) :
    (x.to (max x.k y.k)).Fit (2 ^ 41 * Fb n) ∧ (y.to (max x.k y.k)).Fit (2 ^ 41 * Fb n) ∧ (x.addR y).Fit (Fb (n + 1)) ∧ 0 ≤ (x.addR y).k ∧ (x.addR y).k ≤ 80 := by
  have hF := Fb_pos n
  have h1 : (x.to (max x.k y.k)).Fit (2 ^ 41 * Fb n) := upW_fit hx Ox Ox
  have h2 : (y.to (max x.k y.k)).Fit (2 ^ 41 * Fb n) := upW_fit (Nm.fit_mono hy hF) Ox Ox
  refine ⟨h1, h2, ?_, by simp only [Nm.addR]; omega, by simp only [Nm.addR]; omega⟩; rw [← Fb_succ]
  obtain ⟨a1, a2, a3, a4, a5, a6, a7, a8⟩ := h1
  obtain ⟨b1, b2, b3, b4, b5, b6, b7, b8⟩ := h2
  generalize 2 ^ 41 * Fb n = M at *
  unfold Nm.addR
  exact ⟨by dsimp only; omega, by dsimp only; omega, by dsimp only; omega, by dsimp only; omega, by dsimp only; omega, by dsimp only; omega, by dsimp only; omega, by dsimp only; omega⟩
theorem colS_W {xs : List Nm} {N k l : Nat} (hok : allOk xs = true) (hlen : xs.length = N * N) (hN : N ≤ 6) (hk : k < N) (hl : l < N) : ∀ n, n ≤ N → (colS xs N k l n).Fit (Fb n) ∧ 0 ≤ (colS xs N k l n).k ∧ (colS xs N k l n).k ≤ 80
  | 0, _ => by
    have := Fb_pos 0
    exact ⟨⟨by show -_ ≤ (0 : Int); omega, by show (0 : Int) ≤ _; omega, by show -_ ≤ (0 : Int); omega, by show (0 : Int) ≤ _; omega, by show -_ ≤ (0 : Int); omega, by show (0 : Int) ≤ _; omega, by show -_ ≤ (0 : Int); omega, by show (0 : Int) ≤ _; omega⟩, by show (0 : Int) ≤ 0; decide, by show (0 : Int) ≤ 80; decide⟩
  | n + 1, hn => by
    obtain ⟨h1, h2, h3⟩ := colS_W hok hlen hN hk hl n Ox
    have hx := ix_small (i := n) (N := N) Ox hN
    obtain ⟨p1, p2, p3⟩ := prod_W (ok_at hok (show n * N + k < xs.length by omega)) (ok_at hok (show n * N + l < xs.length by omega))
    obtain ⟨_, _, h4, h5, h6⟩ := addR_W h1 h2 h3 p1 p2 p3
    exact ⟨h4, h5, h6⟩
theorem SA4.conj {w : World} {z : Nm} {s0 s1 s2 s3 : Value} (h : SA4 w z s0 s1 s2 s3) : SA4 w z.conj s0 s3 s2 s1 :=
  ⟨h.a, by simp only [Nm.conj, Int.natAbs_neg]; exact h.d, by simp only [Nm.conj, Int.natAbs_neg]; exact h.c, by simp only [Nm.conj, Int.natAbs_neg]; exact h.b⟩
theorem wd_zero9 : (#[.bool false, .slice none 0 0, .bool false, .slice none 0 0, .bool false, .slice none 0 0, .bool false, .slice none 0 0, .int .i64 0] : Array Value) = #[.bool (decide (Nm.zero.a < 0)), .slice none (digs Nm.zero.a.natAbs).length 0, .bool (decide (Nm.zero.b < 0)), .slice none (digs Nm.zero.b.natAbs).length 0, .bool (decide (Nm.zero.c < 0)), .slice none (digs Nm.zero.c.natAbs).length 0, .bool (decide (Nm.zero.d < 0)), .slice none (digs Nm.zero.d.natAbs).length 0, .int .i64 Nm.zero.k] := by
 simp only [Nm.zero, Int.natAbs_zero, digs_zero]
 rfl
theorem sk4_zero {w : World} : SK4 w [] Nm.zero (.slice none (digs Nm.zero.a.natAbs).length 0) (.slice none (digs Nm.zero.b.natAbs).length 0) (.slice none (digs Nm.zero.c.natAbs).length 0) (.slice none (digs Nm.zero.d.natAbs).length 0) := by
 have h : SK w [] (.slice none (digs (0 : Int).natAbs).length 0) (0 : Int).natAbs := by
  simp only [Int.natAbs_zero, digs_zero]
  exact SK.own SU.nil
 exact ⟨h, h, h, h⟩
theorem products_any (n : Nat) (hn6 : n ≤ 6) (x y : Nat → Nm) (fv : Value) (hx : ∀ k, k < n → (x k).Ok) (hy : ∀ k, k < n → (y k).Ok) (w : World) (hF : FnV w fv (D1 n fun k => .tuple #[nmV (x k), nmV (y k)])) : Calls Tryz.prog 96 #[.int .i64 n, fv] w fun e w' => e = .returned (numV (prodsR x y n)) ∧ Below w.heap.size w w' := by
 go_enter Tryz.func96, Tryz.ntmps96
 refine wk_start ?_
 refine wk_seq ?_
 refine Wr [1, 0] ?_
 refine Rgn fun g1 => ?_
 refine Zx ?_
 refine Zr ?_
 refine Wr [1] ?_
 refine Rgn fun g2 => ?_
 simp only [qz]
 refine Zr ?_
 refine Wx [0, 0] ?_
 refine Zr ?_
 refine wk_loopF [5, 7, 8, 9, 10, 11, 13, 14, 15, 16, 17, 18, 19, 20, 21, 22, 23, 24, 25, 26, 27, 28, 29, 30, 31, 32, 33, 34, 35, 36, 37, 38, 39, 40, 41, 42] (fun mz f s => ∃ (k : Nat) (ac : Nm), f 13 = .int .i64 k ∧ s = ((g2, .cells #[.int .i64 ac.a, .int .i64 ac.b, .int .i64 ac.c, .int .i64 ac.d, .int .i64 ac.k] 44) :: ((g1, .cells #[.int .i64 0, .int .i64 0, .int .i64 0, .int .i64 0, .int .i64 0] 44) :: [])) ∧ mz = n - k ∧ k ≤ n ∧ Hid (prodsR x y k = .ok ac) ∧ ac.Ok) ((fun (k : Nat) (ac : Nm) => n - k) (0) (Nm.zero)) ?_ Kx ?_
 ·exact ⟨0, Nm.zero, rfl, rfl, rfl, by omega, (Lib.hid rfl), zero_ok⟩
 rintro mz f1 s ⟨k, ac, hs1_13, rfl, hn, hd1, hd2, hd3⟩
 simp only [Act.putF, List.foldl_cons, List.foldl_nil, hs1_13, Act.put, Act.eval, qW, Nat.reduceAdd, Bool.not_true, Bool.not_false]
 clear hs1_13
 refine wk_seq ?_
 refine Wr [0] ?_
 refine rfb_lss rfl rfl rfl rfl ?_
 rintro (_ | _) h1 <;> try simp only [qd, ne_eq] at h1
 ·simp only [qz]
  refine Zr ?_; refine Wr [0, 1, 0] ?_; refine rf_loadR (n := 5) rfl rfl rfl UU44 rfl Kx (fun w hw => Kn.hd0 hw) rfl rfl (Nq ?_); refine rf_storeR (n := 5) rfl rfl Kx rfl rfl (UpdR.there _ (UpdR.here _ _ _ Nl)) Nz (Nw ?_); refine Zx ?_; refine Zr ?_; refine ek_ret (fun w hw => ⟨rfl, _, run_results2 rfl rfl (Kn.hd0 (Kn.tl hw)) UU44 rfl Kx, ?_⟩); (try simp only [qz])
  obtain rfl : n = k := by omega
  exact ⟨by rw [hd2.out]; rfl, hw.below⟩
 simp only [qz]
 refine Zr ?_
 refine Wx [0, 0] ?_
 refine Zr ?_
 refine Wx [0, 0, 1, 0, 0, 0, 1, 1, 1, 1] ?_
 have hxk := hx k Ox
 have hyk := hy k Ox
 refine rg_fnv (.tuple #[nmV (x k), nmV (y k)]) Rx hF rfl (by simp only [qm, qs, Act.eval] <;> rfl) ⟨k, by omega, rfl, rfl⟩ Nz ?_
 refine Zx ?_
 refine Rgn fun g3 => ?_
 simp only [qz]
 refine Rgn fun g4 => ?_
 simp only [qz]
 refine rf_storeR (n := 5) rfl rfl Kx rfl rfl (UpdR.there _ (UpdR.here _ _ _ Nl)) Nz (Nw ?_)
 refine rf_storeR (n := 5) rfl rfl Kx rfl rfl (UpdR.here _ _ _ Nl) Nz (Nw ?_)
 refine Zr ?_
 refine Wr [0, 0, 1, 0, 0, 0, 1, 1, 0] ?_
 refine rf_loadR (n := 5) rfl rfl rfl UU44 rfl Kx (fun w hw => Kn.hd0 (Kn.tl hw)) rfl rfl (Nq ?_)
 refine rf_loadR (n := 5) rfl rfl rfl UU44 rfl Kx (fun w hw => Kn.hd0 hw) rfl rfl (Nq ?_)
 apply rg_num Rx Kx
 case hargs => exact Ax
 case h => exact fun w hw => amMul_ok (x k) (y k) hxk hyk w
 case hz => exact Nz
 case hc => exact (fun c h => mk_err h)
 ·intro hr2
  refine Zx ?_
  refine Rgn fun g5 => ?_
  simp only [qz]; refine rf_storeR (n := 5) rfl rfl Kx rfl rfl (UpdR.here _ _ _ Nl) Nz (Nw ?_); refine Zx ?_; refine Zr ?_; refine Wx [0, 0] ?_; refine rf_neq (b := true) rfl rfl rfl rfl (by decide) (Nq ?_); refine Zr ?_; refine Wr [0, 0, 1, 0] ?_; refine rf_build (cs := fun a => #[.int .i64 0, .int .i64 0, .int .i64 0, .int .i64 0, .int .i64 0]) rfl rfl Kx (Zx ?_); refine rf_storeR (n := 5) rfl rfl Kx rfl rfl (UpdR.there _ (UpdR.there _ (UpdR.there _ (UpdR.there _ (UpdR.here _ _ _ Nl))))) Nz (Nw ?_)
  refine Zx ?_; refine Zr ?_; refine ek_ret (fun w hw => ⟨rfl, _, run_results2 rfl rfl (Kn.hd0 (Kn.tl (Kn.tl (Kn.tl (Kn.tl hw))))) UU44 rfl Kx, ?_⟩); (try simp only [qz])
  exact ⟨by rw [prodsR_err (k := k + 1) (c := 4) (by simp only [prodsR, hd2.out, hr2]) n Ox]; rfl, hw.below⟩
 intro z2 hr2
 refine Zx ?_
 refine Rgn fun g6 => ?_
 simp only [qz]
 refine rf_storeR (n := 5) rfl rfl Kx rfl rfl (UpdR.here _ _ _ Nl) Nz (Nw ?_)
 refine Zx ?_
 refine Zr ?_
 refine Wx [0, 0] ?_
 refine rf_neq (b := false) rfl rfl rfl rfl (by decide) (Nq ?_)
 refine Zr ?_
 refine Wr [0, 0, 1, 0, 0, 0, 1, 0] ?_
 refine rf_loadR (n := 5) rfl rfl rfl UU44 rfl Kx (fun w hw => Kn.hd0 (Kn.tl (Kn.tl (Kn.tl hw)))) rfl rfl (Nq ?_)
 refine rf_loadR (n := 5) rfl rfl rfl UU44 rfl Kx (fun w hw => Kn.hd0 hw) rfl rfl (Nq ?_)
 have hpk := (mk_ok (mulR_k hxk.k0 hyk.k0) hr2).1
 apply rg_num Rx Kx
 case hargs => exact Ax
 case h => exact fun w hw => amAdd_ok ac z2 hd3 hpk w
 case hz => exact Nz
 case hc => exact (fun c h => mk_err h)
 ·intro hr3
  refine Zx ?_; refine rf_storeR (n := 5) rfl rfl Kx rfl rfl (UpdR.there _ (UpdR.there _ (UpdR.there _ (UpdR.here _ _ _ Nl)))) Nz (Nw ?_); refine Zx ?_; refine Zr ?_; refine Wx [0, 0] ?_; refine rf_neq (b := true) rfl rfl rfl rfl (by decide) (Nq ?_); refine Zr ?_; refine Wr [0, 0, 1, 0] ?_; refine rf_build (cs := fun a => #[.int .i64 0, .int .i64 0, .int .i64 0, .int .i64 0, .int .i64 0]) rfl rfl Kx (Zx ?_); refine rf_storeR (n := 5) rfl rfl Kx rfl rfl (UpdR.there _ (UpdR.there _ (UpdR.there _ (UpdR.there _ (UpdR.here _ _ _ Nl))))) Nz (Nw ?_)
  refine Zx ?_; refine Zr ?_; refine ek_ret (fun w hw => ⟨rfl, _, run_results2 rfl rfl (Kn.hd0 (Kn.tl (Kn.tl (Kn.tl (Kn.tl hw))))) UU44 rfl Kx, ?_⟩); (try simp only [qz])
  exact ⟨by rw [prodsR_err (k := k + 1) (c := 4) (by simp only [prodsR, hd2.out, hr2, hr3]) n Ox]; rfl, hw.below⟩
 intro z3 hr3
 refine Zx ?_
 refine rf_storeR (n := 5) rfl rfl Kx rfl rfl (UpdR.there _ (UpdR.there _ (UpdR.there _ (UpdR.here _ _ _ Nl)))) Nz (Nw ?_)
 refine Zx ?_
 refine Zr ?_
 refine Wx [0, 0] ?_
 refine rf_neq (b := false) rfl rfl rfl rfl (by decide) (Nq ?_)
 refine Zr ?_
 refine Wr [0, 0] ?_
 refine rf_add rfl rfl rfl rfl (wrap_ok Ox Ox) (Zx ?_)
 refine rg_nil ?_
 refine ek_sub (sk _ (sk _ (sk _ (sc _ (sc _ sn))))) ?_
 refine ek_roundF (n - (k + 1)) Ox Kx ?_
 exact ⟨k + 1, z3, rfl, by rfl, by rfl, Ox, (Lib.hid (by simp only [prodsR, hd2.out, hr2, hr3])), (mk_ok (addR_k hd3.k0) hr3).1⟩
theorem mul11_any (xs ys : List Nm) (a a' : Option Addr) (c c' : Nat) (N : Nat) (hN : N ≤ 6) (hlx : Hid (xs.length = N * N)) (hly : Hid (ys.length = N * N)) (i j k gx gi gy gk : Nat) (hi : i < N) (hj : j < N) (hk : k < N) (w : World) (hA : AS w a (nms xs)) (hB : AS w a' (nms ys)) (hX : Hd w gx 79 #[.int .i64 N, .slice a xs.length c]) (hY : Hd w gy 79 #[.int .i64 N, .slice a' ys.length c']) (hI : Hd w gi 3 #[.int .i64 i]) (hK : Hd w gk 3 #[.int .i64 k]) : Calls Tryz.prog 121 #[.int .i64 (j : Int), .pointer (some ⟨gx, 0, none⟩), .pointer (some ⟨gi, 0, none⟩), .pointer (some ⟨gy, 0, none⟩), .pointer (some ⟨gk, 0, none⟩)] w fun e w' => e = .returned (.tuple #[nmV (nm xs (i * N + j)), nmV (nm ys (j * N + k))]) ∧ Below w.heap.size w w' := by
 go_enter Tryz.func121, Tryz.ntmps121
 refine wk_start ?_
 refine wk_seq ?_
 refine Wr [1, 1] ?_
 refine Rgn fun g1 => ?_
 simp only [qz]
 refine Rgn fun g2 => ?_
 simp only [qz]
 refine Zr ?_
 refine wk_draws_m (hz1 := (sk _ (sk _ sn))) [(0, 0), (1, 0), (2, 0), (4, 3), (5, 3), (6, 3), (3, 1), (7, 1), (8, 2), (9, 1)] 8 Kx Kx (fun c d v a w h => by cases d <;> exact h) ?_
 simp only [List.map_cons, List.map_nil, List.getD_cons_zero, List.getD_cons_succ]
 refine rf_loadC (n := 2) (vs := [.int .i64 N, .slice a xs.length c]) rfl rfl rfl UU79 rfl Kx rfl (fun w hw => cells_range (Kn.hdB hw hX (by simp)) 0 2) (Nq ?_)
 refine rf_load (v := .int .i64 i) rfl rfl rfl UU3 rfl (fun w hw => (Kn.hdB hw hI (by simp)).at (i := 0) rfl) (Zx ?_)
 refine rf_loadC (n := 2) (vs := [.int .i64 N, .slice a' ys.length c']) rfl rfl rfl UU79 rfl Kx rfl (fun w hw => cells_range (Kn.hdB hw hY (by simp)) 0 2) (Nq ?_)
 refine rg_moveP ?_
 simp only [qz]
 refine rf_load (v := .int .i64 k) rfl rfl rfl UU3 rfl (fun w hw => (Kn.hdB hw hK (by simp)).at (i := 0) rfl) (Nq ?_)
 apply rg_pure Rx Kx
 case hargs => exact Ax
 case h => exact fun w hw => at_any N i j xs a c hlx.out hN hi hj w (hA.kn0 hw)
 case hz => exact (fun _ h => by cases h; exact (sc _ (sc _ sn)))
 simp only [qz]
 apply rg_pure Rx Kx
 case hargs => exact Ax
 case h => exact fun w hw => at_any N j k ys a' c' hly.out hN hj hk w (hB.kn0 hw)
 case hz => exact (fun _ h => by cases h; exact (sc _ (sc _ sn)))
 simp only [qz]
 refine rf_storeRM (n := 5) rfl rfl Kx rfl rfl (UpdR.there _ (UpdR.here _ _ _ Nl)) (sk _ (sk _ sn)) (Nw ?_)
 refine rf_storeR (n := 5) rfl rfl Kx rfl rfl (UpdR.here _ _ _ Nl) (fun _ h => by cases h; exact (sk _ (sk _ sn))) (Nw ?_)
 refine Zr ?_
 refine ek_ret (fun w hw => ⟨rfl, _, run_results_c2 rfl rfl (Kn.hd0 (Kn.tl hw)) UU44 rfl Kx rfl (Kn.hd0 hw) UU44 rfl Kx, ?_⟩)
 exact ⟨rfl, hw.below⟩
def mulF (N : Nat) (xs ys : List Nm) (i k : Nat) : NR := prodsR (fun j => nm xs (i * N + j)) (fun j => nm ys (j * N + k)) N
theorem mul1_any (xs ys : List Nm) (a a' : Option Addr) (c c' : Nat) (N : Nat) (hN : N ≤ 6) (hlx : Hid (xs.length = N * N)) (hly : Hid (ys.length = N * N)) (hox : allOk xs = true) (hoy : allOk ys = true) (i k gm gx gy : Nat) (hi : i < N) (hk : k < N) (w : World) (hA : AS w a (nms xs)) (hB : AS w a' (nms ys)) (hM : Hd w gm 28 #[.int .i64 N, .slice a xs.length c]) (hX : Hd w gx 79 #[.int .i64 N, .slice a xs.length c]) (hY : Hd w gy 79 #[.int .i64 N, .slice a' ys.length c']) : Calls Tryz.prog 120 #[.int .i64 (i : Int), .int .i64 (k : Int), .pointer (some ⟨gm, 0, none⟩), .pointer (some ⟨gx, 0, none⟩), .pointer (some ⟨gy, 0, none⟩)] w fun e w' => e = .returned (numV (mulF N xs ys i k)) ∧ Below w.heap.size w w' := by
 go_enter Tryz.func120, Tryz.ntmps120
 refine wk_start ?_
 refine wk_seq ?_
 refine Wr [1, 1, 1, 0] ?_
 refine Rgn fun g1 => ?_
 simp only [qz]
 refine Rgn fun g2 => ?_
 simp only [qz]
 refine Rgn fun g3 => ?_
 refine Zx ?_
 refine Zr ?_
 refine Wr [0, 0, 0, 1, 0, 0, 1, 0] ?_
 refine Zk ?_
 refine rf_load (v := .int .i64 N) rfl rfl rfl UU3 rfl (fun w hw => (Kn.hdB hw hM (by simp)).at (i := 0) rfl) (Nq ?_)
 refine Zk ?_
 apply rg_pure Rx Kx
 case hargs => exact Ax
 case h => exact fun w hw => products_any N hN (fun j => nm xs (i * N + j)) (fun j => nm ys (j * N + k)) _ (fun j hj => elemOk hox hlx.out hi hj) (fun j hj => elemOk hoy hly.out hj hk) w ⟨_, _, _, rfl, by kernel_rfl, fun w' hb vs r ⟨j, hj, hv, hr⟩ => by
   subst hv hr
   have h := mul11_any xs ys a a' c c' N hN hlx hly i j k gx g1 gy g2 hi hj hk w' ((hA.kn0 hw).below hb) ((hB.kn0 hw).below hb) ((Kn.hdB hw hX (by simp)).belowS hb) ((Kn.hdB hw hY (by simp)).belowS hb) ((Kn.hd0 (Kn.tl (Kn.tl hw))).belowS hb) ((Kn.hd0 (Kn.tl hw)).belowS hb)
   simpa using h⟩
 case hz => exact Nz
 simp only [qz]
 obtain ⟨v, e, hve⟩ := numV_ve2 (prodsR (fun j => nm xs (i * N + j)) (fun j => nm ys (j * N + k)) N)
 rw [hve]
 replace hve := Lib.hid hve
 refine Zx ?_
 refine rf_storeR (n := 5) rfl rfl Kx rfl rfl (UpdR.here _ _ _ Nl) Nz (Nw ?_)
 refine Zx ?_
 refine Zr ?_
 refine ek_ret (fun w hw => ⟨rfl, _, run_results2 rfl rfl (Kn.hd0 hw) UU44 rfl Kx, ?_⟩)
 (try simp only [qz])
 exact ⟨(congrArg Ending.returned hve.out).symm, hw.below⟩
def mulM (n m : Int) (xs ys : List Nm) : LR := if validB n xs && validB m ys then (if n = m then madeR n.toNat (mulF n.toNat xs ys) else .error 21) else .error 20
theorem mul_any (n m : Int) (xs ys : List Nm) (a a' : Option Addr) (c c' : Nat) (hl : xs.length ≤ 1000000) (hl' : ys.length ≤ 1000000) (w : World) (hA : AS w a (nms xs)) (hB : AS w a' (nms ys)) : Calls Tryz.prog 78 #[.agg #[.int .i64 n, .slice a xs.length c], .agg #[.int .i64 m, .slice a' ys.length c']] w fun e w' => RetM w (rN n.toNat (mulM n m xs ys)) (rL (mulM n m xs ys)) (rC (mulM n m xs ys)) e w' := by
 go_enter Tryz.func78, Tryz.ntmps78
 refine wk_start ?_
 refine wk_seq ?_
 refine Wr [1, 1, 1, 0] ?_
 refine Rgn fun g1 => ?_
 simp only [qz]
 refine Rgn fun g2 => ?_
 simp only [qz]
 refine Rgn fun g3 => ?_
 refine Zx ?_
 refine Zr ?_
 refine Wr [0, 1, 0, 0, 0, 1, 0, 0, 0] ?_
 refine rf_loadR (n := 2) rfl rfl rfl UU28 rfl Kx (fun w hw => Kn.hd0 (Kn.tl (Kn.tl hw))) rfl rfl (Nq ?_)
 apply rg_pureb Rx Kx
 case hargs => exact Ax
 case h => exact fun w hw => mvalid_any n xs a c hl w (hA.kn0 hw)
 case hz => exact Nz
 rintro (_ | _) h1 <;> try simp only [qd, ne_eq] at h1
 ·refine Zx ?_
  refine rg_skip_h Rx Nz ?_; refine Zx ?_; refine Zr ?_; refine Wr [0, 1, 0] ?_; refine rf_build (cs := fun a => #[.int .i64 0, .slice none 0 0]) rfl rfl Kx (Nq ?_); refine rf_storeR (n := 2) rfl rfl Kx rfl rfl (UpdR.here _ _ _ Nl) Nz (Nw ?_); refine Zx ?_; refine Zr ?_; refine ek_ret (fun w hw => ⟨rfl, _, run_results2 rfl rfl (Kn.hd0 hw) UU28 rfl Kx, ?_⟩); (try simp only [qz])
  exact retM_err (c := 20) (by unfold mulM; rw [h1]; rfl) hw.below
 simp only [qz]
 have hv := h1
 obtain ⟨N, rfl, hN1, hN, hlx, hlx36, hox⟩ := validB_N' hv
 replace hlx := Lib.hid hlx
 refine Zx ?_
 refine rf_loadR (n := 2) rfl rfl rfl UU28 rfl Kx (fun w hw => Kn.hd0 (Kn.tl hw)) rfl rfl (Nq ?_)
 apply rg_pureb Rx Kx
 case hargs => exact Ax
 case h => exact fun w hw => mvalid_any m ys a' c' hl' w (hB.kn0 hw)
 case hz => exact Nz
 rintro (_ | _) h2 <;> try simp only [qd, ne_eq] at h2
 ·refine Zx ?_
  refine Zr ?_; refine Wr [0, 1, 0] ?_; refine rf_build (cs := fun a => #[.int .i64 0, .slice none 0 0]) rfl rfl Kx (Nq ?_); refine rf_storeR (n := 2) rfl rfl Kx rfl rfl (UpdR.here _ _ _ Nl) Nz (Nw ?_); refine Zx ?_; refine Zr ?_; refine ek_ret (fun w hw => ⟨rfl, _, run_results2 rfl rfl (Kn.hd0 hw) UU28 rfl Kx, ?_⟩); (try simp only [qz])
  exact retM_err (c := 20) (by unfold mulM; rw [h2, Bool.and_false]; rfl) hw.below
 simp only [qz]
 have hv2 := h2
 obtain ⟨M, rfl, hM1, hM, hly, hly36, hoy⟩ := validB_N' hv2
 replace hly := Lib.hid hly
 refine Zx ?_
 refine Zr ?_
 refine Wr [0, 0, 0, 0, 0, 0] ?_
 refine Fd 0 0 UU28 ?_
 refine rf_load rfl rfl rfl UU3 rfl (fun w hw => (Kn.hd0 (Kn.tl (Kn.tl hw))).at rfl) (Nq ?_)
 refine Fd 0 0 UU28 ?_
 refine rf_load rfl rfl rfl UU3 rfl (fun w hw => (Kn.hd0 (Kn.tl hw)).at rfl) (Nq ?_)
 refine rfb_neq rfl rfl rfl rfl ?_
 rintro (_ | _) h3 <;> try simp only [qd, ne_eq] at h3
 ·simp only [qz]
  obtain rfl : N = M := by omega
  have hcp : mulM (N : Int) (N : Int) xs ys = madeR N (mulF N xs ys) := by (unfold mulM; rw [hv, hv2, Bool.and_self, if_pos rfl, if_pos rfl, Int.toNat_natCast])
  replace hcp := Lib.hid hcp
  refine Zx ?_; refine rg_nil (ek_next (wk_cond_f rfl (wk_skip (ek_block (ek_next ?_))))); refine wk_cutF [6, 7, 25, 26, 27, 28] (fun f s => ∃ (gx gy : Nat), f 6 = .pointer (some ⟨gx, 0, none⟩) ∧ f 7 = .pointer (some ⟨gy, 0, none⟩) ∧ s = ((gx, .cells #[.int .i64 N, .slice a xs.length c] 79) :: ((gy, .cells #[.int .i64 N, .slice a' ys.length c'] 79) :: ((g3, .cells #[.int .i64 0, .slice none 0 0] 28) :: ((g2, .cells #[.int .i64 N, .slice a' ys.length c'] 28) :: ((g1, .cells #[.int .i64 N, .slice a xs.length c] 28) :: [])))))) ?_ ?_
  ·refine wk_rt _ Kx (sc _ (sc _ (sc _ sn))) ?_
   refine rt_soft (i := 0) rfl Kx (fun c d v a w h => by cases d <;> exact h) (sc _ (sc _ (sc _ sn))) ?_; refine rf_loadR (n := 2) rfl rfl rfl UU28 rfl Kx (fun w hw => Kn.hd0 (Kn.tl (Kn.tl hw))) rfl rfl (Nq ?_); refine rg_nil ?_; refine ek_rt (sc _ (sc _ (sc _ sn))) ?_; refine rt_soft (i := 1) rfl Kx (fun c d v a w h => by cases d <;> exact h) (sc _ (sc _ (sc _ sn))) ?_; refine rf_build (cs := fun a => #[cellAt (a.eval (.tmp 25)) 0, cellAt (a.eval (.tmp 25)) 1]) rfl rfl Kx (Nq ?_)
   refine rg_nil ?_; refine ek_rt (sc _ (sc _ (sc _ sn))) ?_; refine rt_soft (i := 2) rfl Kx (fun c d v a w h => by cases d <;> exact h) (sc _ (sc _ (sc _ sn))) ?_; refine rf_loadR (n := 2) rfl rfl rfl UU28 rfl Kx (fun w hw => Kn.hd0 (Kn.tl hw)) rfl rfl (Nq ?_); refine rg_nil ?_; refine ek_rt (sc _ (sc _ (sc _ sn))) ?_; refine rt_soft (i := 3) rfl Kx (fun c d v a w h => by cases d <;> exact h) (sc _ (sc _ (sc _ sn))) ?_
   refine rf_build (cs := fun a => #[cellAt (a.eval (.tmp 27)) 0, cellAt (a.eval (.tmp 27)) 1]) rfl rfl Kx (Nq ?_); refine rg_nil ?_; refine ek_rt (sc _ (sc _ (sc _ sn))) ?_; refine rt_hard2 (i := 4) (j := 5) Kx rfl rfl ?_ ?_
   ·refine rg_new (cs := ?_) (ty := ?_) Rx (fun w => ?_) (fun _ h => by cases h; exact (sc _ (sc _ (sc _ sn)))) (fun g4 => ?_); rotate_left 2
    focus (go_simp; rfl)
    simp only [qz]; refine rg_nil ?_; refine ek_rt (sk _ (sc _ (sc _ (sc _ sn)))) ?_; refine rt_hard1 (i := 5) Kx rfl ?_
    refine rg_new (cs := ?_) (ty := ?_) Rx (fun w => ?_) (fun _ h => by cases h; exact (sk _ (sc _ (sc _ (sc _ sn))))) (fun g5 => ?_); rotate_left 2
    focus (go_simp; rfl)
    simp only [qz]; refine rg_nil ?_; refine ek_rt (sk _ (sk _ (sc _ (sc _ (sc _ sn))))) ?_; refine rt_hard1 (i := 6) Kx rfl ?_; refine rf_storeR (n := 2) rfl rfl Kx rfl rfl (UpdR.there _ (UpdR.here _ _ _ Nl)) (fun _ h => by cases h; exact (sk _ (sk _ (sc _ (sc _ (sc _ sn)))))) (Nw ?_); refine rg_nil ?_; refine ek_rt (sk _ (sk _ (sc _ (sc _ (sc _ sn))))) ?_; refine rt_hard1 (i := 7) Kx rfl ?_; refine rf_storeR (n := 2) rfl rfl Kx rfl rfl (UpdR.here _ _ _ Nl) (fun _ h => by cases h; exact (sk _ (sk _ (sc _ (sc _ (sc _ sn)))))) (Nw ?_)
    refine rg_nil ?_; refine ek_rt (sk _ (sk _ (sc _ (sc _ (sc _ sn))))) ?_; refine rt_nil Kx ?_; refine ek_perm (perm_at (l := [_]) (List.Perm.refl _)) ?_; refine ek_midF Kx ?_
    exact ⟨g4, g5, rfl, rfl, by rfl⟩
   refine rg_new (cs := ?_) (ty := ?_) Rx (fun w => ?_) (fun _ h => by cases h; exact (sc _ (sc _ (sc _ sn)))) (fun g6 => ?_); rotate_left 2
   focus (go_simp; rfl)
   simp only [qz]; refine rg_nil ?_; refine ek_rt (sk _ (sc _ (sc _ (sc _ sn)))) ?_; refine rt_hard1 (i := 4) Kx rfl ?_
   refine rg_new (cs := ?_) (ty := ?_) Rx (fun w => ?_) (fun _ h => by cases h; exact (sk _ (sc _ (sc _ (sc _ sn))))) (fun g7 => ?_); rotate_left 2
   focus (go_simp; rfl)
   simp only [qz]; refine rg_nil ?_; refine ek_rt (sk _ (sk _ (sc _ (sc _ (sc _ sn))))) ?_; refine rt_hard1 (i := 6) Kx rfl ?_; refine rf_storeR (n := 2) rfl rfl Kx rfl rfl (UpdR.here _ _ _ Nl) (fun _ h => by cases h; exact (sk _ (sk _ (sc _ (sc _ (sc _ sn)))))) (Nw ?_); refine rg_nil ?_; refine ek_rt (sk _ (sk _ (sc _ (sc _ (sc _ sn))))) ?_; refine rt_hard1 (i := 7) Kx rfl ?_; refine rf_storeR (n := 2) rfl rfl Kx rfl rfl (UpdR.there _ (UpdR.here _ _ _ Nl)) (fun _ h => by cases h; exact (sk _ (sk _ (sc _ (sc _ (sc _ sn)))))) (Nw ?_)
   refine rg_nil ?_; refine ek_rt (sk _ (sk _ (sc _ (sc _ (sc _ sn))))) ?_; refine rt_nil Kx ?_; refine ek_midF Kx ?_
   exact ⟨g7, g6, rfl, rfl, by rfl⟩
  rintro f1 s ⟨gx, gy, hs1_6, hs1_7, rfl⟩
  simp only [Act.putF, List.foldl_cons, List.foldl_nil, hs1_6, hs1_7, Act.put, Act.eval, qW, Nat.reduceAdd, Bool.not_true, Bool.not_false]; clear hs1_6 hs1_7; refine wk_seq ?_; refine Wr [0, 0, 0, 1, 0, 0, 1, 0] ?_; refine Fd 0 0 UU28 ?_; refine rf_load rfl rfl rfl UU3 rfl (fun w hw => (Kn.hd0 (Kn.tl (Kn.tl (Kn.tl (Kn.tl hw))))).at rfl) (Nq ?_); refine Zk ?_; apply rg_retM Rx Kx
  case hargs => exact Ax
  case h => exact fun w hw => made_any N hN (mulF N xs ys) _ (fun i k c hi hk h => by have := prodsR_code h; omega) w ⟨_, _, _, rfl, by kernel_rfl, fun w' hb vs r ⟨i, k, hi, hk, hv, hr⟩ => by
    subst hv hr
    have h := mul1_any xs ys a a' c c' N hN hlx hly hox hoy i k g1 gx gy hi hk w' ((hA.kn0 hw).below hb) ((hB.kn0 hw).below hb) ((Kn.hd0 (Kn.tl (Kn.tl (Kn.tl (Kn.tl hw))))).belowS hb) ((Kn.hd0 hw).belowS hb) ((Kn.hd0 (Kn.tl hw)).belowS hb)
    simpa using h⟩
  case hz => exact Nz
  intro va9 vc9 u9 hO9; refine Zx ?_; refine rf_storeR (n := 2) rfl rfl Kx rfl rfl (UpdR.app _ (UpdR.there _ (UpdR.there _ (UpdR.here _ _ _ Nl)))) Nz (Nw ?_); refine Zx ?_; refine Zr ?_; refine ek_ret (fun w hw => ⟨rfl, _, run_results2 rfl rfl (Kn.hd0 (Kn.tl (Kn.tl (Kn.tlU hw)))) UU28 rfl Kx, ?_⟩); (try simp only [qz])
  exact ⟨.slice va9 _ vc9, u9, by rw [hcp.out]; rfl, by rw [hcp.out]; exact hO9, hw.made (List.sublist_append_left _ _)⟩
 refine Zx ?_
 refine Zr ?_
 refine Wr [0, 1, 0] ?_
 refine rf_build (cs := fun a => #[.int .i64 0, .slice none 0 0]) rfl rfl Kx (Nq ?_)
 refine rf_storeR (n := 2) rfl rfl Kx rfl rfl (UpdR.here _ _ _ Nl) Nz (Nw ?_)
 refine Zx ?_
 refine Zr ?_
 refine ek_ret (fun w hw => ⟨rfl, _, run_results2 rfl rfl (Kn.hd0 hw) UU28 rfl Kx, ?_⟩)
 (try simp only [qz])
 exact retM_err (c := 21) (by unfold mulM; rw [hv, hv2, Bool.and_self, if_pos rfl, if_neg Ox]) hw.below
def mapM (F : Nat → List Nm → Nat → Nat → NR) (n : Int) (xs : List Nm) : LR := if validB n xs then madeR n.toNat (F n.toNat xs) else .error 20
theorem amConj_ok (z : Nm) (hz : z.Ok) (w : World) : Calls Tryz.prog 36 #[nmV z] w fun e w' => e = .returned (.tuple #[nmV z.conj, .int .i64 0]) ∧ Below w.heap.size w w' := by
 go_enter Tryz.func36, Tryz.ntmps36
 refine wk_start ?_
 refine wk_seq ?_
 refine Wr [1, 1, 0] ?_
 refine Rgn fun g1 => ?_
 simp only [qz]
 refine Rgn fun g2 => ?_
 refine Zx ?_
 refine Zr ?_
 refine Wr [0, 1, 0, 0, 1, 0] ?_
 refine rf_loadR (n := 5) rfl rfl rfl UU44 rfl Kx (fun w hw => Kn.hd0 (Kn.tl hw)) rfl rfl (Nq ?_)
 apply rg_pure Rx Kx
 case hargs => exact Ax
 case h => exact fun w hw => amchanged_ok z z.conj hz 81 #[] Kx w (fun w' _ => amconj_any z (Nm.fit_mono hz.fit Ox) w')
 case hz => exact Nz
 refine Zx ?_
 refine rf_storeR (n := 5) rfl rfl Kx rfl rfl (UpdR.here _ _ _ Nl) Nz (Nw ?_)
 refine Zx ?_
 refine Zr ?_
 refine ek_ret (fun w hw => ⟨rfl, _, run_results2 rfl rfl (Kn.hd0 hw) UU44 rfl Kx, ?_⟩)
 (try simp only [qz])
 first | exact ⟨rfl, hw.below⟩ | exact ⟨trivial, hw.below⟩ | exact hw.below
def dagF (N : Nat) (xs : List Nm) (i k : Nat) : NR := .ok (nm xs (k * N + i)).conj
theorem dag1_any (xs : List Nm) (a : Option Addr) (c : Nat) (N : Nat) (hN : N ≤ 6) (hlx : Hid (xs.length = N * N)) (hox : allOk xs = true) (i k gx : Nat) (hi : i < N) (hk : k < N) (w : World) (hA : AS w a (nms xs)) (hX : Hd w gx 79 #[.int .i64 N, .slice a xs.length c]) : Calls Tryz.prog 35 #[.int .i64 (i : Int), .int .i64 (k : Int), .pointer (some ⟨gx, 0, none⟩)] w fun e w' => e = .returned (numV (dagF N xs i k)) ∧ Below w.heap.size w w' := by
 go_enter Tryz.func35, Tryz.ntmps35
 refine wk_start ?_
 refine wk_seq ?_
 refine Wr [1, 0] ?_
 refine Rgn fun g1 => ?_
 refine Zx ?_
 refine Zr ?_
 refine Wr [0, 0, 0, 1, 1, 0, 0, 1, 0] ?_
 refine rf_loadC (n := 2) (vs := [.int .i64 N, .slice a xs.length c]) rfl rfl rfl UU79 rfl Kx rfl (fun w hw => cells_range (Kn.hdB hw hX (by simp)) 0 2) (Zx ?_)
 apply rg_pure Rx Kx
 case hargs => exact Ax
 case h => exact fun w hw => at_any N k i xs a c hlx.out hN hk hi w (hA.kn0 hw)
 case hz => exact Nz
 simp only [qz]
 apply rg_pure Rx Kx
 case hargs => exact Ax
 case h => exact fun w hw => amConj_ok (nm xs (k * N + i)) (elemOk hox hlx.out hk hi) w
 case hz => exact Nz
 refine Zx ?_
 refine rf_storeR (n := 5) rfl rfl Kx rfl rfl (UpdR.here _ _ _ Nl) Nz (Nw ?_)
 refine Zx ?_
 refine Zr ?_
 refine ek_ret (fun w hw => ⟨rfl, _, run_results2 rfl rfl (Kn.hd0 hw) UU44 rfl Kx, ?_⟩)
 (try simp only [qz])
 exact ⟨rfl, hw.below⟩
theorem mdagger_any (n : Int) (xs : List Nm) (a : Option Addr) (c : Nat) (hl : xs.length ≤ 1000000) (w : World) (hA : AS w a (nms xs)) : Calls Tryz.prog 8 #[.agg #[.int .i64 n, .slice a xs.length c]] w fun e w' => RetM w (rN n.toNat (mapM dagF n xs)) (rL (mapM dagF n xs)) (rC (mapM dagF n xs)) e w' := by
 go_enter Tryz.func8, Tryz.ntmps8
 refine wk_start ?_
 refine wk_seq ?_
 refine Wr [1, 1, 0] ?_
 refine Rgn fun g1 => ?_
 simp only [qz]
 refine Rgn fun g2 => ?_
 refine Zx ?_
 refine Zr ?_
 refine Wr [0, 1, 0] ?_
 refine rf_loadR (n := 2) rfl rfl rfl UU28 rfl Kx (fun w hw => Kn.hd0 (Kn.tl hw)) rfl rfl (Nq ?_)
 apply rg_pureb Rx Kx
 case hargs => exact Ax
 case h => exact fun w hw => mvalid_any n xs a c hl w (hA.kn0 hw)
 case hz => exact Nz
 rintro (_ | _) h1 <;> try simp only [qd, ne_eq] at h1
 ·refine Zx ?_
  refine Zr ?_; refine Wr [0, 1, 0] ?_; refine rf_build (cs := fun a => #[.int .i64 0, .slice none 0 0]) rfl rfl Kx (Nq ?_); refine rf_storeR (n := 2) rfl rfl Kx rfl rfl (UpdR.here _ _ _ Nl) Nz (Nw ?_); refine Zx ?_; refine Zr ?_; refine ek_ret (fun w hw => ⟨rfl, _, run_results2 rfl rfl (Kn.hd0 hw) UU28 rfl Kx, ?_⟩); (try simp only [qz])
  exact retM_err (c := 20) (by unfold mapM; rw [h1]; rfl) hw.below
 simp only [qz]
 have hv := h1
 obtain ⟨N, rfl, hN1, hN, hlx, hlx36, hox⟩ := validB_N' hv
 replace hlx := Lib.hid hlx
 have hcp : mapM dagF (N : Int) xs = madeR N (dagF N xs) := by (unfold mapM; rw [hv, if_pos rfl, Int.toNat_natCast])
 replace hcp := Lib.hid hcp
 refine Zx ?_
 refine Zr ?_
 refine Wr [0, 0, 1, 1] ?_
 refine rf_loadR (n := 2) rfl rfl rfl UU28 rfl Kx (fun w hw => Kn.hd0 (Kn.tl hw)) rfl rfl (Nq ?_)
 refine rf_build (cs := fun a => #[cellAt (a.eval (.tmp 9)) 0, cellAt (a.eval (.tmp 9)) 1]) rfl rfl Kx (Nq ?_)
 refine Rgn fun g3 => ?_
 simp only [qz]
 refine rf_storeR (n := 2) rfl rfl Kx rfl rfl (UpdR.here _ _ _ Nl) Nz (Nw ?_)
 refine Zr ?_
 refine Wr [0, 0, 0, 1, 0, 0, 1, 0] ?_
 refine Fd 0 0 UU28 ?_
 refine rf_load rfl rfl rfl UU3 rfl (fun w hw => (Kn.hd0 (Kn.tl (Kn.tl hw))).at rfl) (Nq ?_)
 refine Zk ?_
 apply rg_retM Rx Kx
 case hargs => exact Ax
 case h => exact fun w hw => made_any N hN (dagF N xs) _ (fun i k c hi hk h => by cases h) w ⟨_, _, _, rfl, by kernel_rfl, fun w' hb vs r ⟨i, k, hi, hk, hv, hr⟩ => by
   subst hv hr
   have h := dag1_any xs a c N hN hlx hox i k g3 hi hk w' ((hA.kn0 hw).below hb) ((Kn.hd0 hw).belowS hb)
   simpa using h⟩
 case hz => exact Nz
 intro va5 vc5 u5 hO5
 refine Zx ?_
 refine rf_storeR (n := 2) rfl rfl Kx rfl rfl (UpdR.app _ (UpdR.there _ (UpdR.here _ _ _ Nl))) Nz (Nw ?_)
 refine Zx ?_
 refine Zr ?_
 refine ek_ret (fun w hw => ⟨rfl, _, run_results2 rfl rfl (Kn.hd0 (Kn.tl (Kn.tlU hw))) UU28 rfl Kx, ?_⟩)
 (try simp only [qz])
 exact ⟨.slice va5 _ vc5, u5, by rw [hcp.out]; rfl, by rw [hcp.out]; exact hO5, hw.made (List.sublist_append_left _ _)⟩
def vecB (vs : List Nm) : Bool := decide (1 ≤ vs.length) && (decide (vs.length ≤ 6) && allOk vs)
theorem vecB_y {vs : List Nm} (h : vecB vs = true) : 1 ≤ vs.length ∧ vs.length ≤ 6 ∧ allOk vs = true := by
 simpa [vecB] using h
def RetV (w : World) (zs : List Nm) (cc : Int) (e : Ending) (w' : World) : Prop := ∃ v u, e = .returned (.tuple #[v, .int .i64 cc]) ∧ OwnN u v zs ∧ Made w u w'
section
variable {R : Option Nat} {ops : Array Oper} {Q : Exit → Act → World → Prop} {B : World} {F : List Nat} {s0 : Option (List Blk × List Blk)}
variable {l : List (Oper × Nat)} {a : Act} {s S : List Blk} {d : Option Tmp} {op : Op} {t : TypeId} {p : String} {af : Array Edge} {v : Value}
theorem rg_retV {f : Nat} {cargs : Array Operand} {at_ : Array TypeId} {args : Array Value} {zs : List Nm} {cc : Int} {P : Program} {gd : Option (Nat × Bool)} (hg : Region.wanted ⟨d, .call ⟨.value (.func f), cargs, at_⟩, t, p, af, gd⟩ (yielded ops a.tmps) = true) (hgo : isGo P f = true)
    (h : ∀ w, Kn B F s w → Calls P f args w (RetV w zs cc)) (hargs : cargs.map a.eval = args)
    (hz : ∀ z ∈ s0, z.1.Sublist s) (k : ∀ (va : Option Addr) (vc : Nat) (u : List Blk), OwnN u (.slice va zs.length vc) zs → Rg R P ops Q B F s0 l (a.put d (.tuple #[.slice va zs.length vc, .int .i64 cc])) (u ++ s)) :
    Rg R P ops Q B F s0 ((⟨d, .call ⟨.value (.func f), cargs, at_⟩, t, p, af, gd⟩, 1) :: l) a s :=
  rg_call hg hgo hargs fun w K => (h w K).mono fun e w' ⟨v, u, he, hO, hm⟩ => by
    obtain ⟨a', c', rfl, -⟩ := Own.val hO
    exact ⟨_, u ++ s, he, K.add hm, fun z hz' => (hz z hz').trans (List.sublist_append_right _ _), k a' c' u hO⟩
end
theorem retV_err {w w' : World} {c : Int} {r : LR} (h : r = .error c) (hb : Below w.heap.size w w') : RetV w (rL r) (rC r) (.returned (.tuple #[.slice none 0 0, .int .i64 c])) w' := by
 subst h
 exact ⟨.slice none 0 0, [], rfl, OwnG.nil, .nil hb⟩
def appR (N : Nat) (xs vs : List Nm) (i : Nat) : NR := prodsR (fun j => nm xs (i * N + j)) (nm vs) N
def appM (n : Int) (xs vs : List Nm) : LR := if validB n xs && vecB vs then (if n = vs.length then gather (appR n.toNat xs vs) n.toNat else .error 21) else .error 20
def lenM (vs : List Nm) : NR := if vecB vs then lenR (nm vs) vs.length else .error 20
theorem lenR_code {x : Nat → Nm} : ∀ {n : Nat} {c : Int}, lenR x n = .error c → c = 4
  | 0, c, h => by cases h
  | n + 1, c, h => by
    simp only [lenR] at h
    split at h
    · next h' => injection h with h; subst h; exact lenR_code h'
    · split at h
      · next h' => injection h with h; subst h; exact mk_err h'
      · exact mk_err h
theorem mvector_any (vs : List Nm) (a' : Option Addr) (c' : Nat) (hl' : vs.length ≤ 1000000) (w : World) (hB : AS w a' (nms vs)) : Calls Tryz.prog 59 #[.slice a' vs.length c'] w fun e w' => e = .returned (.bool (vecB vs)) ∧ Below w.heap.size w w' := by
 go_enter Tryz.func59, Tryz.ntmps59
 refine wk_start ?_
 refine wk_seq ?_
 refine wk_region [0] rfl Kx ?_
 simp only [qy]
 refine rg_assign ?_
 simp only [qz]
 refine rg_nil (ek_next (wk_seq ?_))
 refine wk_region [0, 0, 0, 0, 0, 0, 0, 0, 0, 0, 1, 0, 0] rfl Kx ?_
 simp only [qy]
 refine rg_move ?_
 simp only [qz]
 refine rf_len rfl rfl rfl UU26 ?_
 simp only [qz]
 refine rfb_geq rfl rfl rfl rfl ?_
 intro x h1
 cases x
 ·(try simp only [qd, ne_eq] at h1)
  simp only [qz]
  refine rg_move ?_
  simp only [qz]
  refine rg_skip Rx ?_
  simp only [qz]
  refine rg_skip Rx ?_
  simp only [qz]
  refine rg_skip Rx ?_
  simp only [qz]
  refine rf_pick rfl rfl rfl ?_
  simp only [qz]
  refine rg_move ?_
  simp only [qz]
  refine rg_skip Rx ?_
  simp only [qz]
  refine rg_skip_h Rx Nz ?_
  simp only [qz]
  refine rf_pick rfl rfl rfl ?_
  simp only [qz]
  refine rg_assign ?_
  simp only [qz]
  refine rg_nil (ek_next (wk_ret ?_))
  refine ek_ret (fun w hw => ⟨rfl, _, res_t _ rfl, ?_⟩)
  (try simp only [qz])
  exact ⟨by (unfold vecB; first | (rw [decide_eq_true (show 1 ≤ vs.length by omega), decide_eq_true (show vs.length ≤ 6 by omega)]; rfl) | (rw [decide_eq_false (show ¬ 1 ≤ vs.length by omega)]; rfl) | (rw [decide_eq_false (show ¬ vs.length ≤ 6 by omega), Bool.false_and, Bool.and_false])), hw.below⟩
 (try simp only [qd, ne_eq] at h1)
 simp only [qz]
 refine rg_move ?_
 simp only [qz]
 apply rg_soft_g
 case hg => rfl
 case hy => (intro w hw; go_simp; (try go_bits); exact Yld.mk _ _)
 simp only [qz]
 refine rf_len rfl rfl rfl UU26 ?_
 simp only [qz]
 refine rfb_leq rfl rfl rfl rfl ?_
 intro x h2
 cases x
 ·(try simp only [qd, ne_eq] at h2)
  simp only [qz]
  refine rf_pick rfl rfl rfl ?_
  simp only [qz]
  refine rg_move ?_
  simp only [qz]
  refine rg_skip Rx ?_
  simp only [qz]
  refine rg_skip_h Rx Nz ?_
  simp only [qz]
  refine rf_pick rfl rfl rfl ?_
  simp only [qz]
  refine rg_assign ?_
  simp only [qz]
  refine rg_nil (ek_next (wk_ret ?_))
  refine ek_ret (fun w hw => ⟨rfl, _, res_t _ rfl, ?_⟩)
  (try simp only [qz])
  exact ⟨by (unfold vecB; first | (rw [decide_eq_true (show 1 ≤ vs.length by omega), decide_eq_true (show vs.length ≤ 6 by omega)]; rfl) | (rw [decide_eq_false (show ¬ 1 ≤ vs.length by omega)]; rfl) | (rw [decide_eq_false (show ¬ vs.length ≤ 6 by omega), Bool.false_and, Bool.and_false])), hw.below⟩
 (try simp only [qd, ne_eq] at h2)
 simp only [qz]
 refine rf_pick rfl rfl rfl ?_
 simp only [qz]
 refine rg_move ?_
 simp only [qz]
 apply rg_soft_g
 case hg => rfl
 case hy => (intro w hw; go_simp; (try go_bits); exact Yld.mk _ _)
 simp only [qz]
 apply rg_pure Rx Kx
 case hargs => exact Ax
 case h => exact fun w hw => numbers_any vs a' c' hl' w (hB.kn0 hw)
 case hz => exact Nz
 simp only [qz]
 refine rf_pick rfl rfl rfl ?_
 simp only [qz]
 refine rg_assign ?_
 simp only [qz]
 refine rg_nil (ek_next (wk_ret ?_))
 refine ek_ret (fun w hw => ⟨rfl, _, res_t _ rfl, ?_⟩)
 (try simp only [qz])
 exact ⟨by (unfold vecB; first | (rw [decide_eq_true (show 1 ≤ vs.length by omega), decide_eq_true (show vs.length ≤ 6 by omega)]; rfl) | (rw [decide_eq_false (show ¬ 1 ≤ vs.length by omega)]; rfl) | (rw [decide_eq_false (show ¬ vs.length ≤ 6 by omega), Bool.false_and, Bool.and_false])), hw.below⟩
theorem power_ok {z p : Nm} (hz : z.Ok) (h : z.power = .ok p) : p.Ok := (mk_ok (mulR_k hz.k0 (conj_ok hz).k0) h).1
theorem mlength_any (vs : List Nm) (a' : Option Addr) (c' : Nat) (hl' : vs.length ≤ 1000000) (w : World) (hB : AS w a' (nms vs)) : Calls Tryz.prog 17 #[.slice a' vs.length c'] w fun e w' => e = .returned (numV (lenM vs)) ∧ Below w.heap.size w w' := by
 go_enter Tryz.func17, Tryz.ntmps17
 refine wk_start ?_
 refine wk_seq ?_
 refine wk_region [1, 0] rfl Kx ?_
 simp only [qy]
 refine Rgn fun g1 => ?_
 simp only [qz]
 refine rg_assign ?_
 simp only [qz]
 refine rg_nil (ek_next (wk_seq (wk_seq ?_)))
 refine wk_region [0, 1, 0] rfl Kx ?_
 simp only [qy]
 refine rg_move ?_
 simp only [qz]
 apply rg_pureb Rx Kx
 case hargs => exact Ax
 case h => exact fun w hw => mvector_any vs a' c' hl' w (hB.kn0 hw)
 case hz => exact Nz
 intro x h1
 cases x
 ·(try simp only [qd, ne_eq] at h1)
  simp only [qz]
  refine rf_not rfl rfl rfl ?_
  simp only [qz]
  refine rg_nil (ek_next (wk_cond_t rfl (wk_seq ?_)))
  refine wk_region [0, 1, 0] rfl Kx ?_
  simp only [qy]
  refine rf_build (cs := fun a => #[.int .i64 0, .int .i64 0, .int .i64 0, .int .i64 0, .int .i64 0]) rfl rfl Kx ?_
  simp only [qz]
  refine rf_storeR (n := 5) rfl rfl Kx rfl rfl (UpdR.here _ _ _ Nl) Nz ?_
  simp only [qz, Nat.reduceAdd]
  refine rg_assign ?_
  simp only [qz]
  refine rg_nil (ek_next (wk_ret (ek_then_ret ?_)))
  refine ek_ret (fun w hw => ⟨rfl, _, run_results2 rfl rfl (Kn.hd0 hw) UU44 rfl Kx, ?_⟩)
  (try simp only [qz])
  exact ⟨by unfold lenM; rw [h1]; rfl, hw.below⟩
 (try simp only [qd, ne_eq] at h1)
 simp only [qz]
 have hv := h1
 obtain ⟨hv1, hv6, hvo⟩ := vecB_y hv
 have hcp : lenM vs = lenR (nm vs) vs.length := by (unfold lenM; rw [hv, if_pos rfl])
 replace hcp := Lib.hid hcp
 refine rf_not rfl rfl rfl ?_
 simp only [qz]
 refine rg_nil (ek_next (wk_cond_f rfl (wk_skip (ek_next (wk_seq ?_)))))
 refine wk_region [1] rfl Kx ?_
 simp only [qy]
 refine Rgn fun g2 => ?_
 simp only [qz]
 refine rg_nil (ek_next (wk_seq (wk_seq ?_)))
 refine wk_region [0, 0, 0] rfl Kx ?_
 simp only [qy]
 refine rg_move ?_
 simp only [qz]
 refine rf_len rfl rfl rfl UU26 ?_
 simp only [qz]
 refine rg_move ?_
 simp only [qz]
 refine rg_nil (ek_next (wk_block ?_))
 refine wk_loopF [3, 6, 7, 8, 15, 16, 17, 18, 19, 20, 21, 22, 23, 24, 25, 26, 27, 28, 29, 30, 31, 32, 33, 34, 35, 36, 37, 38] (fun mz f s => ∃ (k : Nat) (ac : Nm), f 15 = .int .i64 k ∧ s = ((g2, .cells #[.int .i64 ac.a, .int .i64 ac.b, .int .i64 ac.c, .int .i64 ac.d, .int .i64 ac.k] 44) :: ((g1, .cells #[.int .i64 0, .int .i64 0, .int .i64 0, .int .i64 0, .int .i64 0] 44) :: [])) ∧ mz = vs.length - k ∧ k ≤ vs.length ∧ Hid (lenR (nm vs) k = .ok ac) ∧ ac.Ok) ((fun (k : Nat) (ac : Nm) => vs.length - k) (0) (Nm.zero)) ?_ Kx ?_
 ·exact ⟨0, Nm.zero, rfl, rfl, rfl, by omega, (Lib.hid rfl), zero_ok⟩
 rintro mz f1 s ⟨k, ac, hs1_15, rfl, hn, hd1, hd2, hd3⟩
 simp only [Act.putF, List.foldl_cons, List.foldl_nil, hs1_15, Act.put, Act.eval, q1, q2, q3, q4, q5, q6, q7, q8, q9, q10, q11, q12, q13, q14, q15, q16, q17, q18, Nat.reduceAdd, Bool.not_true, Bool.not_false]
 clear hs1_15
 refine wk_seq ?_
 refine wk_region [0] rfl Kx ?_
 simp only [qy]
 refine rfb_lss rfl rfl rfl rfl ?_
 intro x h2
 cases x
 ·(try simp only [qd, ne_eq] at h2)
  simp only [qz]
  refine rg_nil (ek_next (wk_seq (wk_cond_f rfl (wk_exit (ek_then_exit (ek_then_exit (ek_block_exit (ek_next (wk_seq ?_)))))))))
  refine wk_region [0, 1, 0] rfl Kx ?_
  simp only [qy]
  refine rf_loadR (n := 5) rfl rfl rfl UU44 rfl Kx (fun w hw => Kn.hd0 hw) rfl rfl ?_
  simp only [qz]
  refine rf_storeR (n := 5) rfl rfl Kx rfl rfl (UpdR.there _ (UpdR.here _ _ _ Nl)) Nz ?_
  simp only [qz, Nat.reduceAdd]
  refine rg_assign ?_
  simp only [qz]
  refine rg_nil (ek_next (wk_ret ?_))
  refine ek_ret (fun w hw => ⟨rfl, _, run_results2 rfl rfl (Kn.hd0 (Kn.tl hw)) UU44 rfl Kx, ?_⟩)
  (try simp only [qz])
  obtain rfl : k = vs.length := by omega
  exact ⟨by rw [hcp.out, hd2.out]; rfl, hw.below⟩
 (try simp only [qd, ne_eq] at h2)
 simp only [qz]
 refine rg_nil (ek_next (wk_seq (wk_cond_t rfl (wk_skip (ek_next (wk_seq (wk_block (wk_seq ?_))))))))
 obtain ⟨b', off', ha', hlt', hcell'⟩ := AS.openN hB Ox
 subst ha'
 have hvk := ok_at hvo (show k < vs.length by omega)
 refine wk_region [0, 0, 1, 1] rfl Kx ?_
 simp only [qy]
 refine rf_indexS (n := k) (sz := 5) (j := off' + k * 5) rfl rfl rfl rfl UU26 Kx Ox Ox rfl ?_
 simp only [qz]
 refine rf_loadC (n := 5) (vs := [.int .i64 (nm vs k).a, .int .i64 (nm vs k).b, .int .i64 (nm vs k).c, .int .i64 (nm vs k).d, .int .i64 (nm vs k).k]) rfl rfl rfl UU44 rfl Kx rfl (fun w hw => atN_range ((hcell' k Ox).kn hw hlt' (by simp))) ?_
 simp only [qz]
 refine Rgn fun g3 => ?_
 simp only [qz]
 refine rf_storeR (n := 5) rfl rfl Kx rfl rfl (UpdR.here _ _ _ Nl) Nz ?_
 simp only [qz, Nat.reduceAdd]
 refine rg_nil (ek_next (wk_seq ?_))
 refine wk_region [0, 1, 0, 0, 0, 1, 1, 0] rfl Kx ?_
 simp only [qy]
 refine rf_loadR (n := 5) rfl rfl rfl UU44 rfl Kx (fun w hw => Kn.hd0 hw) rfl rfl ?_
 simp only [qz]
 apply rg_num Rx Kx
 case hargs => exact Ax
 case h => exact fun w hw => amPower_ok (nm vs k) hvk w
 case hz => exact Nz
 case hc => exact (fun c h => mk_err h)
 ·intro hr3
  simp only [qz]
  refine rg_move ?_
  simp only [qz]
  refine rf_extract rfl rfl rfl rfl ?_
  simp only [qz]
  refine rf_extract rfl rfl rfl rfl ?_
  simp only [qz]
  refine Rgn fun g4 => ?_
  simp only [qz]
  refine rf_storeR (n := 5) rfl rfl Kx rfl rfl (UpdR.here _ _ _ Nl) Nz ?_
  simp only [qz, Nat.reduceAdd]
  refine rg_assign ?_
  simp only [qz]
  refine rg_nil (ek_next (wk_seq (wk_seq ?_)))
  refine wk_region [0, 0] rfl Kx ?_
  simp only [qy]
  refine rg_move ?_
  simp only [qz]
  refine rf_neq (b := true) rfl rfl rfl rfl (by decide) ?_
  simp only [qz]
  refine rg_nil (ek_next (wk_cond_t rfl (wk_seq ?_)))
  refine wk_region [0, 0, 1, 0] rfl Kx ?_
  simp only [qy]
  refine rf_build (cs := fun a => #[.int .i64 0, .int .i64 0, .int .i64 0, .int .i64 0, .int .i64 0]) rfl rfl Kx ?_
  simp only [qz]
  refine rg_move ?_
  simp only [qz]
  refine rf_storeR (n := 5) rfl rfl Kx rfl rfl (UpdR.there _ (UpdR.there _ (UpdR.there _ (UpdR.here _ _ _ Nl)))) Nz ?_
  simp only [qz, Nat.reduceAdd]
  refine rg_assign ?_
  simp only [qz]
  refine rg_nil (ek_next (wk_ret (ek_then_ret (ek_block_ret (ek_then_ret (ek_then_ret (ek_block_ret (ek_then_ret ?_))))))))
  refine ek_ret (fun w hw => ⟨rfl, _, run_results2 rfl rfl (Kn.hd0 (Kn.tl (Kn.tl (Kn.tl hw)))) UU44 rfl Kx, ?_⟩)
  (try simp only [qz])
  exact ⟨by rw [hcp.out, lenR_err (k := k + 1) (c := 4) (by simp only [lenR, hd2.out, hr3]) vs.length Ox]; rfl, hw.below⟩
 intro z3 hr3
 simp only [qz]
 refine rg_move ?_
 simp only [qz]
 refine rf_extract rfl rfl rfl rfl ?_
 simp only [qz]
 refine rf_extract rfl rfl rfl rfl ?_
 simp only [qz]
 refine Rgn fun g5 => ?_
 simp only [qz]
 refine rf_storeR (n := 5) rfl rfl Kx rfl rfl (UpdR.here _ _ _ Nl) Nz ?_
 simp only [qz, Nat.reduceAdd]
 refine rg_assign ?_
 simp only [qz]
 refine rg_nil (ek_next (wk_seq (wk_seq ?_)))
 refine wk_region [0, 0] rfl Kx ?_
 simp only [qy]
 refine rg_move ?_
 simp only [qz]
 refine rf_neq (b := false) rfl rfl rfl rfl (by decide) ?_
 simp only [qz]
 refine rg_nil (ek_next (wk_cond_f rfl (wk_skip (ek_next (wk_seq ?_)))))
 refine wk_region [0, 0, 1, 0, 0, 0, 1, 0] rfl Kx ?_
 simp only [qy]
 refine rf_loadR (n := 5) rfl rfl rfl UU44 rfl Kx (fun w hw => Kn.hd0 (Kn.tl (Kn.tl hw))) rfl rfl ?_
 simp only [qz]
 refine rf_loadR (n := 5) rfl rfl rfl UU44 rfl Kx (fun w hw => Kn.hd0 hw) rfl rfl ?_
 simp only [qz]
 have hpk := power_ok hvk hr3
 apply rg_num Rx Kx
 case hargs => exact Ax
 case h => exact fun w hw => amAdd_ok ac z3 hd3 hpk w
 case hz => exact Nz
 case hc => exact (fun c h => mk_err h)
 ·intro hr4
  simp only [qz]
  refine rg_move ?_
  simp only [qz]
  refine rf_extract rfl rfl rfl rfl ?_
  simp only [qz]
  refine rf_extract rfl rfl rfl rfl ?_
  simp only [qz]
  refine rf_storeR (n := 5) rfl rfl Kx rfl rfl (UpdR.there _ (UpdR.there _ (UpdR.here _ _ _ Nl))) Nz ?_
  simp only [qz, Nat.reduceAdd]
  refine rg_assign ?_
  simp only [qz]
  refine rg_nil (ek_next (wk_seq ?_))
  refine wk_region [0, 0] rfl Kx ?_
  simp only [qy]
  refine rg_move ?_
  simp only [qz]
  refine rf_neq (b := true) rfl rfl rfl rfl (by decide) ?_
  simp only [qz]
  refine rg_nil (ek_next (wk_cond_t rfl (wk_seq ?_)))
  refine wk_region [0, 0, 1, 0] rfl Kx ?_
  simp only [qy]
  refine rf_build (cs := fun a => #[.int .i64 0, .int .i64 0, .int .i64 0, .int .i64 0, .int .i64 0]) rfl rfl Kx ?_
  simp only [qz]
  refine rg_move ?_
  simp only [qz]
  refine rf_storeR (n := 5) rfl rfl Kx rfl rfl (UpdR.there _ (UpdR.there _ (UpdR.there _ (UpdR.here _ _ _ Nl)))) Nz ?_
  simp only [qz, Nat.reduceAdd]
  refine rg_assign ?_
  simp only [qz]
  refine rg_nil (ek_next (wk_ret (ek_block_ret (ek_then_ret (ek_then_ret (ek_block_ret (ek_then_ret ?_)))))))
  refine ek_ret (fun w hw => ⟨rfl, _, run_results2 rfl rfl (Kn.hd0 (Kn.tl (Kn.tl (Kn.tl hw)))) UU44 rfl Kx, ?_⟩)
  (try simp only [qz])
  exact ⟨by rw [hcp.out, lenR_err (k := k + 1) (c := 4) (by simp only [lenR, hd2.out, hr3, hr4]) vs.length Ox]; rfl, hw.below⟩
 intro z4 hr4
 simp only [qz]
 refine rg_move ?_
 simp only [qz]
 refine rf_extract rfl rfl rfl rfl ?_
 simp only [qz]
 refine rf_extract rfl rfl rfl rfl ?_
 simp only [qz]
 refine rf_storeR (n := 5) rfl rfl Kx rfl rfl (UpdR.there _ (UpdR.there _ (UpdR.here _ _ _ Nl))) Nz ?_
 simp only [qz, Nat.reduceAdd]
 refine rg_assign ?_
 simp only [qz]
 refine rg_nil (ek_next (wk_seq ?_))
 refine wk_region [0, 0] rfl Kx ?_
 simp only [qy]
 refine rg_move ?_
 simp only [qz]
 refine rf_neq (b := false) rfl rfl rfl rfl (by decide) ?_
 simp only [qz]
 refine rg_nil (ek_next (wk_cond_f rfl (wk_skip (ek_block (ek_next ?_)))))
 refine wk_region [0, 0] rfl Kx ?_
 simp only [qy]
 refine rf_add rfl rfl rfl rfl (wrap_ok Ox Ox) ?_
 simp only [qz]
 refine rg_move ?_
 simp only [qz]
 refine rg_nil ?_
 refine ek_sub (sk _ (sk _ (sc _ (sc _ sn)))) ?_
 refine ek_roundF (vs.length - (k + 1)) Ox Kx ?_
 exact ⟨k + 1, z4, rfl, by rfl, by rfl, Ox, (Lib.hid (by simp only [lenR, hd2.out, hr3, hr4])), (mk_ok (addR_k hd3.k0) hr4).1⟩
theorem apply1_any (xs vs : List Nm) (a a' : Option Addr) (c c' : Nat) (N : Nat) (hN : N ≤ 6) (hlx : Hid (xs.length = N * N)) (i k gx gi gv : Nat) (hi : i < N) (hk : k < N) (hk2 : k < vs.length) (w : World) (hA : AS w a (nms xs)) (hB : AS w a' (nms vs)) (hX : Hd w gx 79 #[.int .i64 N, .slice a xs.length c]) (hI : Hd w gi 3 #[.int .i64 i]) (hV : Hd w gv 26 #[.slice a' vs.length c']) : Calls Tryz.prog 97 #[.int .i64 (k : Int), .pointer (some ⟨gx, 0, none⟩), .pointer (some ⟨gi, 0, none⟩), .pointer (some ⟨gv, 0, none⟩)] w fun e w' => e = .returned (.tuple #[nmV (nm xs (i * N + k)), nmV (nm vs k)]) ∧ Below w.heap.size w w' := by
 obtain ⟨b', off', ha', hlt', hcell'⟩ := AS.openN hB Ox
 subst ha'
 go_enter Tryz.func97, Tryz.ntmps97
 refine wk_start ?_
 refine wk_seq ?_
 refine wk_region [1, 1] rfl Kx ?_
 simp only [qy]
 refine Rgn fun g1 => ?_
 simp only [qz]
 refine Rgn fun g2 => ?_
 simp only [qz]
 refine rg_nil (ek_next (wk_seq ?_))
 refine wk_draws_m (hz1 := (sk _ (sk _ sn))) [(0, 0), (1, 0), (2, 0), (4, 3), (5, 3), (6, 3), (7, 3), (3, 1), (8, 2), (9, 1)] 8 Kx Kx (fun c d v a w h => by cases d <;> exact h) ?_
 simp only [List.map_cons, List.map_nil, List.getD_cons_zero, List.getD_cons_succ]
 refine rf_loadC (n := 2) (vs := [.int .i64 N, .slice a xs.length c]) rfl rfl rfl UU79 rfl Kx rfl (fun w hw => cells_range (Kn.hdB hw hX (by simp)) 0 2) ?_
 simp only [qz]
 refine rf_load (v := .int .i64 i) rfl rfl rfl UU3 rfl (fun w hw => (Kn.hdB hw hI (by simp)).at (i := 0) rfl) ?_
 simp only [qz]
 refine rg_move ?_
 simp only [qz]
 refine rf_load (v := .slice (some ⟨b', off', none⟩) vs.length c') rfl rfl rfl UU26 rfl (fun w hw => (Kn.hdB hw hV (by simp)).at (i := 0) rfl) ?_
 simp only [qz]
 refine rg_moveP ?_
 simp only [qz]
 refine rf_indexS (n := k) (sz := 5) (j := off' + k * 5) rfl rfl rfl rfl UU26 Kx Ox Ox rfl ?_
 simp only [qz]
 refine rf_loadC (n := 5) (vs := [.int .i64 (nm vs k).a, .int .i64 (nm vs k).b, .int .i64 (nm vs k).c, .int .i64 (nm vs k).d, .int .i64 (nm vs k).k]) rfl rfl rfl UU44 rfl Kx rfl (fun w hw => atN_range ((hcell' k Ox).kn hw hlt' (by simp))) ?_
 simp only [qz]
 apply rg_pure Rx Kx
 case hargs => exact Ax
 case h => exact fun w hw => at_any N i k xs a c hlx.out hN hi hk w (hA.kn0 hw)
 case hz => exact (fun _ h => by cases h; exact (sc _ (sc _ sn)))
 simp only [qz]
 refine rf_storeRM (n := 5) rfl rfl Kx rfl rfl (UpdR.there _ (UpdR.here _ _ _ Nl)) (sk _ (sk _ sn)) ?_
 simp only [qz, Nat.reduceAdd]
 refine rf_storeR (n := 5) rfl rfl Kx rfl rfl (UpdR.here _ _ _ Nl) (fun _ h => by cases h; exact (sk _ (sk _ sn))) ?_
 simp only [qz, Nat.reduceAdd]
 refine rg_nil (ek_next (wk_ret ?_))
 refine ek_ret (fun w hw => ⟨rfl, _, run_results_c2 rfl rfl (Kn.hd0 (Kn.tl hw)) UU44 rfl Kx rfl (Kn.hd0 hw) UU44 rfl Kx, ?_⟩)
 exact ⟨rfl, hw.below⟩
set_option maxHeartbeats 1000000
def omQ : Q4 := ⟨0, 1, 0, 0⟩
def imQ : Q4 := ⟨0, 0, 1, 0⟩
def hhQ : Q4 := ⟨0, 1 / 2, 0, -1 / 2⟩
def omP : Nat → Q4
  | 0 => 1
  | n + 1 => omQ * omP n
theorem dh_hh (x : Q4) : Q4.dh x = hhQ * x := by
 apply Q4.ext' <;> simp only [Q4.dh, hhQ, Q4.ma, Q4.mb, Q4.mc, Q4.md] <;> grind
theorem Q4.neg_neg (x : Q4) : -(-x) = x := by apply Q4.ext' <;> simp only [Q4.na, Q4.nb, Q4.nc, Q4.nd] <;> grind
theorem om_unit : Q4.conj omQ * omQ = 1 := by
 apply Q4.ext' <;> simp only [omQ, Q4.ma, Q4.mb, Q4.mc, Q4.md, Q4.ca, Q4.cb, Q4.cc, Q4.cd, Q4.oa, Q4.ob, Q4.oc, Q4.od] <;> grind
theorem mul4c (a b c d : Q4) : a * b * (c * d) = a * c * (b * d) := by
 rw [Q4.mul_assoc, ← Q4.mul_assoc b c d, Q4.mul_comm b c, Q4.mul_assoc c b d, ← Q4.mul_assoc]
theorem omP_unit : ∀ n, Q4.conj (omP n) * omP n = 1
  | 0 => by show Q4.conj 1 * 1 = 1; rw [Q4.mul_one, Q4.conj_one]
  | n + 1 => by
    show Q4.conj (omQ * omP n) * (omQ * omP n) = 1
    rw [Q4.conj_mul, mul4c, om_unit, omP_unit n, Q4.mul_one]
theorem conj_unit_mul {u x y : Q4} (h : Q4.conj u * u = 1) : Q4.conj (u * x) * (u * y) = Q4.conj x * y := by
 rw [Q4.conj_mul, mul4c, h, Q4.one_mul]
abbrev Tb := Nat → Nat → Q4
def swq (p c : Nat) : Nat := if c = p then p + 1 else if c = p + 1 then p else c
def phQ (p : Nat) (u : Q4) (m : Tb) : Tb := fun i k => if i = p then u * m i k else m i k
def crQ (p : Nat) (m : Tb) : Tb := fun i k => m (swq p i) k
def cpQ (p : Nat) (m : Tb) : Tb := fun i k => if i = p then hhQ * (m p k + imQ * m (p + 1) k) else if i = p + 1 then hhQ * (imQ * m p k + m (p + 1) k) else m i k
theorem sumQ_two {p : Nat} {f g : Nat → Q4} (h : ∀ i, i ≠ p → i ≠ p + 1 → f i = g i) (h2 : f p + f (p + 1) = g p + g (p + 1)) : ∀ n, p + 1 < n → sumQ n f = sumQ n g
  | 0, hn => absurd hn Ox
  | n + 1, hn => by
    by_cases e : n = p + 1
    · subst e
      simp only [sumQ]; rw [Q4.add_assoc, Q4.add_assoc, h2, sumQ_congr fun i hi => h i Ox Ox]
    · simp only [sumQ]; rw [sumQ_two h h2 n Ox, h n Ox Ox]
theorem ph_un {n p : Nat} {u : Q4} {m : Tb} (hu : Q4.conj u * u = 1) (h : UnC n m) : UnC n (phQ p u m) := fun i j hi hj => by
  rw [← h i j hi hj]
  refine sumQ_congr fun k _ => ?_
  unfold phQ
  split
  · exact conj_unit_mul hu
  · rfl
theorem cr_un {n p : Nat} {m : Tb} (hp : p + 1 < n) (h : UnC n m) : UnC n (crQ p m) := fun i j hi hj => by
  rw [← h i j hi hj]
  have e1 : swq p p = p + 1 := if_pos rfl
  have e2 : swq p (p + 1) = p := by unfold swq; rw [if_neg Ox, if_pos rfl]
  refine sumQ_two (p := p) (fun k h1 h2 => ?_) ?_ n hp
  · unfold crQ swq
    rw [if_neg h1, if_neg h2]
  · unfold crQ
    rw [e1, e2, Q4.add_comm]
theorem cp_norm (a b c d : Q4) : Q4.conj (hhQ * (a + imQ * b)) * (hhQ * (c + imQ * d)) + Q4.conj (hhQ * (imQ * a + b)) * (hhQ * (imQ * c + d)) = Q4.conj a * c + Q4.conj b * d := by
 have e1 : Q4.conj hhQ * hhQ = ⟨1 / 2, 0, 0, 0⟩ := by
  apply Q4.ext' <;> simp only [hhQ, Q4.ma, Q4.mb, Q4.mc, Q4.md, Q4.ca, Q4.cb, Q4.cc, Q4.cd] <;> grind
 have e2 : ∀ x y : Q4, Q4.conj (hhQ * x) * (hhQ * y) = ⟨1 / 2, 0, 0, 0⟩ * (Q4.conj x * y) := fun x y => by rw [Q4.conj_mul, mul4c, e1]
 rw [e2, e2]
 have e3 : Q4.conj imQ * imQ = 1 := by
  apply Q4.ext' <;> simp only [imQ, Q4.ma, Q4.mb, Q4.mc, Q4.md, Q4.ca, Q4.cb, Q4.cc, Q4.cd, Q4.oa, Q4.ob, Q4.oc, Q4.od] <;> grind
 have e4 : Q4.conj imQ = -imQ := by
  apply Q4.ext' <;> simp only [imQ, Q4.ca, Q4.cb, Q4.cc, Q4.cd, Q4.na, Q4.nb, Q4.nc, Q4.nd] <;> grind
 have e5 : Q4.conj (a + imQ * b) * (c + imQ * d) + Q4.conj (imQ * a + b) * (imQ * c + d) = (Q4.conj a * c + Q4.conj b * d) + (Q4.conj a * c + Q4.conj b * d) := by
  rw [Q4.conj_add, Q4.conj_add, Q4.add_mul, Q4.add_mul, Q4.mul_add, Q4.mul_add, Q4.mul_add, Q4.mul_add, conj_unit_mul e3, conj_unit_mul e3, Q4.conj_mul, Q4.conj_mul, e4]
  generalize Q4.conj a = a'
  generalize Q4.conj b = b'
  have f1 : a' * (imQ * d) = imQ * (a' * d) := by rw [← Q4.mul_assoc, Q4.mul_comm a', Q4.mul_assoc]
  have f2 : b' * (imQ * c) = imQ * (b' * c) := by rw [← Q4.mul_assoc, Q4.mul_comm b', Q4.mul_assoc]
  rw [f1, f2, Q4.neg_mul, Q4.neg_mul, Q4.neg_mul, Q4.neg_mul, Q4.mul_assoc, Q4.mul_assoc]
  generalize a' * c = x
  generalize b' * d = y
  generalize imQ * (a' * d) = s
  generalize imQ * (b' * c) = t
  apply Q4.ext' <;> simp only [Q4.aa, Q4.ab, Q4.ac, Q4.ad, Q4.na, Q4.nb, Q4.nc, Q4.nd] <;> grind
 rw [← Q4.mul_add, e5]
 generalize Q4.conj a * c + Q4.conj b * d = z
 apply Q4.ext' <;> simp only [Q4.aa, Q4.ab, Q4.ac, Q4.ad, Q4.ma, Q4.mb, Q4.mc, Q4.md] <;> grind
theorem cp_un {n p : Nat} {m : Tb} (hp : p + 1 < n) (h : UnC n m) : UnC n (cpQ p m) := fun i j hi hj => by
  rw [← h i j hi hj]; refine sumQ_two (p := p) (fun k h1 h2 => ?_) ?_ n hp
  · unfold cpQ
    rw [if_neg h1, if_neg h2, if_neg h1, if_neg h2]
  · unfold cpQ
    rw [if_pos rfl, if_pos rfl, if_neg (show ¬ p + 1 = p by omega), if_pos rfl, if_neg (show ¬ p + 1 = p by omega), if_pos rfl]
    exact cp_norm _ _ _ _
def InQ (K : Nat) (v : Q4) : Prop := ∃ z : Nm, z.k = K ∧ z.val = v
theorem InQ.up {K : Nat} {v : Q4} (h : InQ K v) : InQ (K + 1) v := by
 obtain ⟨z, hk, hv⟩ := h
 exact ⟨z.tr, by show z.k + 1 = _; omega, by rw [val_tr Ox]; exact hv⟩
theorem InQ.mono {K L : Nat} {v : Q4} (h : InQ K v) (hl : K ≤ L) : InQ L v := by
 obtain ⟨d, rfl⟩ := Nat.le.dest hl
 clear hl
 induction d with
 | zero => exact h
 | succ d ih => exact ih.up
theorem InQ.zero (K : Nat) : InQ K 0 := InQ.mono (K := 0) ⟨Nm.zero, rfl, val_zero⟩ (Nat.zero_le _)
theorem InQ.one (K : Nat) : InQ K 1 := InQ.mono (K := 0) ⟨Nm.one, rfl, val_one⟩ (Nat.zero_le _)
theorem valK (K : Nat) (z : Nm) (h : z.k = K) : z.val = Q4.dn K z.co := by unfold Nm.val; rw [h, Int.toNat_natCast]
theorem InQ.add {K : Nat} {u v : Q4} (hu : InQ K u) (hv : InQ K v) : InQ K (u + v) := by
 obtain ⟨x, hx, rfl⟩ := hu
 obtain ⟨y, hy, rfl⟩ := hv
 refine ⟨⟨x.a + y.a, x.b + y.b, x.c + y.c, x.d + y.d, K⟩, rfl, ?_⟩
 rw [valK K _ rfl, valK K x hx, valK K y hy, ← Q4.dn_add]
 congr 1
 apply Q4.ext' <;> simp only [Nm.co, Q4.aa, Q4.ab, Q4.ac, Q4.ad, Rat.intCast_add]
theorem rot_val (z : Nm) : z.rot.val = omQ * z.val := by
 have hk : z.rot.k = z.k := rfl
 unfold Nm.val
 rw [hk, Q4.mul_comm, ← Q4.dn_mul]
 congr 1
 apply Q4.ext' <;> simp only [Nm.co, Nm.rot, omQ, Q4.ma, Q4.mb, Q4.mc, Q4.md, Rat.intCast_neg] <;> grind
theorem InQ.om {K : Nat} {v : Q4} (h : InQ K v) : InQ K (omQ * v) := by
 obtain ⟨z, hk, rfl⟩ := h
 exact ⟨z.rot, hk, rot_val z⟩
theorem InQ.omn {K : Nat} {v : Q4} (h : InQ K v) : ∀ n, InQ K (omP n * v)
  | 0 => by show InQ K (1 * v); rw [Q4.one_mul]; exact h
  | n + 1 => by
    show InQ K (omQ * omP n * v)
    rw [Q4.mul_assoc]
    exact (InQ.omn h n).om
theorem om_im : omQ * omQ = imQ := by
 apply Q4.ext' <;> simp only [omQ, imQ, Q4.ma, Q4.mb, Q4.mc, Q4.md] <;> grind
theorem InQ.im {K : Nat} {v : Q4} (h : InQ K v) : InQ K (imQ * v) := by
 rw [← om_im, Q4.mul_assoc]
 exact h.om.om
theorem dn_hh : ∀ (n : Nat) (x : Q4), Q4.dn (n + 1) x = hhQ * Q4.dn n x
  | n, x => by
    show Q4.dn n (Q4.dh x) = _
    rw [dh_hh, Q4.mul_comm, Q4.dn_mul, Q4.mul_comm]
theorem val_hh (a b c d : Int) (K : Nat) : (⟨a, b, c, d, (K : Int) + 1⟩ : Nm).val = hhQ * (⟨a, b, c, d, K⟩ : Nm).val := by
 rw [valK (K + 1) ⟨a, b, c, d, (K : Int) + 1⟩ (by show (K : Int) + 1 = _; omega), valK K ⟨a, b, c, d, K⟩ rfl, dn_hh]
 rfl
theorem InQ.hh {K : Nat} {v : Q4} (h : InQ K v) : InQ (K + 1) (hhQ * v) := by
 obtain ⟨z, hk, rfl⟩ := h
 refine ⟨⟨z.a, z.b, z.c, z.d, (K : Int) + 1⟩, by show (K : Int) + 1 = _; omega, ?_⟩
 rw [val_hh, ← hk]
theorem nf_in {K : Nat} {v : Q4} (h : InQ K v) : ∃ z : Nm, z.Nf ∧ 0 ≤ z.k ∧ z.k ≤ K ∧ z.val = v := by
 obtain ⟨z, hk, rfl⟩ := h
 have h0 : 0 ≤ z.k := by omega
 have h1 := nf_k h0
 exact ⟨z.nf, nf_form z, h1.1, by omega, val_eqv h1.1 h0 (nf_eqv z)⟩
theorem nf_val {x y : Nm} (hx : x.Nf) (hx0 : 0 ≤ x.k) (hy : y.Nf) (hy0 : 0 ≤ y.k) (h : x.val = y.val) : x = y := form_unique hx hy hx0 hy0 (eqv_val hx0 hy0 h)
theorem le_in {K : Nat} {z : Nm} (hz : z.Nf) (h0 : 0 ≤ z.k) (h : InQ K z.val) : z.k ≤ K := by
 obtain ⟨x, hx, hx0, hxK, hv⟩ := nf_in h
 rw [← nf_val hx hx0 hz h0 hv]
 exact hxK
theorem in_le {K : Nat} {z : Nm} (h0 : 0 ≤ z.k) (h : z.k ≤ K) : InQ K z.val := InQ.mono (K := z.k.toNat) ⟨z, by omega, rfl⟩ Ox
set_option maxHeartbeats 1000000
def sumE (z : Nm) : Int := z.a + z.b + z.c + z.d
def kindN (z : Nm) (K : Int) : Int := if z.k < K then 0 else if sumE z % 2 = 1 then 1 else 2
def dexp (z : Nm) : Nat := if z.k ≤ 0 then 0 else if sumE z % 2 = 1 then (2 * z.k).toNat else (2 * z.k - 1).toNat
theorem dexp_le (z : Nm) {K : Int} (h : z.k ≤ K) (h0 : 0 ≤ K) : (dexp z : Int) ≤ 2 * K := by
 unfold dexp
 split
 ·omega
 ·split <;> omega
theorem nf_dexp {z : Nm} {K : Int} (h0 : 0 ≤ z.k) (hk : z.k ≤ K) : (dexp z.nf : Int) ≤ 2 * K := dexp_le _ (by have := nf_k h0; omega) Ox
theorem nf_dexp1 {z : Nm} {K : Int} (h0 : 0 ≤ z.k) (hk : z.k ≤ K) (hK : 0 < K) (he : sumE z % 2 = 0) : (dexp z.nf : Int) ≤ 2 * K - 1 := by
 by_cases hn : 0 < z.k ∧ z.even
 ·have h1 := nf_step hn.1 hn.2
  rw [h1]
  have := nf_dexp (z := z.step) (K := K - 1) (by show 0 ≤ z.k - 1; omega) (by show z.k - 1 ≤ _; omega)
  omega
 ·rw [nf_stop hn]
  unfold dexp
  rw [if_neg (show ¬ sumE z % 2 = 1 by omega)]
  split <;> omega
def AllE (z : Nm) : Prop := z.a % 2 = 0 ∧ z.b % 2 = 0 ∧ z.c % 2 = 0 ∧ z.d % 2 = 0
def AllO (z : Nm) : Prop := z.a % 2 = 1 ∧ z.b % 2 = 1 ∧ z.c % 2 = 1 ∧ z.d % 2 = 1
theorem drop_core {s : Nm} {K : Int} (hK : 0 < K) (hs : s.k = K + 1) :
    (AllE s → ∃ t : Nm, 0 ≤ t.k ∧ t.k = K - 1 ∧ t.val = s.val) ∧ (AllO s → ∃ t : Nm, t.k = K ∧ sumE t % 2 = 0 ∧ t.val = s.val) := by
  obtain ⟨a, b, c, d, k⟩ := s
  simp only at hs
  subst hs
  constructor
  · rintro ⟨h1, h2, h3, h4⟩
    simp only at h1 h2 h3 h4
    refine ⟨⟨a / 2, b / 2, c / 2, d / 2, K - 1⟩, by show 0 ≤ K - 1; omega, rfl, ?_⟩
    have e : (⟨a, b, c, d, K + 1⟩ : Nm) = (⟨a / 2, b / 2, c / 2, d / 2, K - 1⟩ : Nm).tr.tr := by
      rw [Nm.tr2]; simp only [Nm.mk.injEq]
      omega
    rw [e, val_tr (by show 0 ≤ K - 1 + 1; omega), val_tr (by show 0 ≤ K - 1; omega)]
  · rintro ⟨h1, h2, h3, h4⟩
    simp only at h1 h2 h3 h4
    refine ⟨(⟨a, b, c, d, K + 1⟩ : Nm).step, by show K + 1 - 1 = K; omega, ?_, ?_⟩
    · unfold sumE Nm.step
      simp only
      omega
    · have he : (⟨a, b, c, d, K + 1⟩ : Nm).even := ⟨by show (a + c) % 2 = 0; omega, by show (b + d) % 2 = 0; omega⟩
      rw [← val_tr (z := (⟨a, b, c, d, K + 1⟩ : Nm).step) (by show 0 ≤ K + 1 - 1; omega), Nm.tr_step he]
def wtE (z : Nm) : Int := z.a % 2 + z.b % 2 + z.c % 2 + z.d % 2
def okM (x y : Nm) : Bool := if wtE x = wtE y then decide (x.a % 2 = y.a % 2 ∧ x.b % 2 = y.b % 2 ∧ x.c % 2 = y.c % 2 ∧ x.d % 2 = y.d % 2) else decide (x.a % 2 = 1 - y.a % 2 ∧ x.b % 2 = 1 - y.b % 2 ∧ x.c % 2 = 1 - y.c % 2 ∧ x.d % 2 = 1 - y.d % 2)
def turnN (n : Nat) (z : Nm) : Nm := match n with
  | 0 => z
  | 1 => z.rot
  | 2 => z.rot.rot
  | _ => z.rot.rot.rot
def matchN (x y : Nm) : Nat := if okM x (turnN 0 y) then 0 else if okM x (turnN 1 y) then 1 else if okM x (turnN 2 y) then 2 else if okM x (turnN 3 y) then 3 else 0
theorem mod2 (a : Int) : a % 2 = 0 ∨ a % 2 = 1 := by omega
theorem neg2 (a : Int) : (-a) % 2 = a % 2 := by omega
def okF (A B C D A' B' C' D' : Fin 2) : Bool := if A.val + B.val + C.val + D.val = A'.val + B'.val + C'.val + D'.val then decide (A = A') && decide (B = B') && decide (C = C') && decide (D = D') else decide (A ≠ A') && decide (B ≠ B') && decide (C ≠ C') && decide (D ≠ D')
theorem okF_key : ∀ A B C D A' B' C' D' : Fin 2, (A.val + B.val + C.val + D.val) % 2 = (A'.val + B'.val + C'.val + D'.val) % 2 → ¬ (A = C ∧ B = D) → ¬ (A' = C' ∧ B' = D') →
    okF A B C D A' B' C' D' = true ∨ okF A B C D D' A' B' C' = true ∨ okF A B C D C' D' A' B' = true ∨ okF A B C D B' C' D' A' = true := by decide
theorem res2 (a : Int) : ∃ A : Fin 2, a % 2 = (A.val : Int) := by
 rcases mod2 a with h | h
 ·exact ⟨0, h⟩
 ·exact ⟨1, h⟩
theorem okM_F {x y : Nm} {A B C D A' B' C' D' : Fin 2} (h1 : x.a % 2 = (A.val : Int)) (h2 : x.b % 2 = (B.val : Int)) (h3 : x.c % 2 = (C.val : Int)) (h4 : x.d % 2 = (D.val : Int))
    (k1 : y.a % 2 = (A'.val : Int)) (k2 : y.b % 2 = (B'.val : Int)) (k3 : y.c % 2 = (C'.val : Int)) (k4 : y.d % 2 = (D'.val : Int)) (h : okF A B C D A' B' C' D' = true) : okM x y = true := by
  have f1 := A.isLt; have f2 := B.isLt; have f3 := C.isLt; have f4 := D.isLt
  have g1 := A'.isLt; have g2 := B'.isLt; have g3 := C'.isLt; have g4 := D'.isLt
  unfold okF at h
  unfold okM wtE
  rw [h1, h2, h3, h4, k1, k2, k3, k4]
  split at h
  · rename_i e
    simp only [Bool.and_eq_true, decide_eq_true_eq] at h
    obtain ⟨⟨⟨rfl, rfl⟩, rfl⟩, rfl⟩ := h
    rw [if_pos rfl]
    exact decide_eq_true ⟨rfl, rfl, rfl, rfl⟩
  · rename_i e
    simp only [Bool.and_eq_true, decide_eq_true_eq, ne_eq, Fin.ext_iff] at h; rw [if_neg Ox]
    exact decide_eq_true ⟨by omega, by omega, by omega, by omega⟩
theorem match_ok {x y : Nm} (h : sumE x % 2 = sumE y % 2) (hx : ¬ x.even) (hy : ¬ y.even) : okM x (turnN (matchN x y) y) = true := by
 have key : okM x (turnN 0 y) = true ∨ okM x (turnN 1 y) = true ∨ okM x (turnN 2 y) = true ∨ okM x (turnN 3 y) = true := by
  obtain ⟨A, h1⟩ := res2 x.a
  obtain ⟨B, h2⟩ := res2 x.b
  obtain ⟨C, h3⟩ := res2 x.c
  obtain ⟨D, h4⟩ := res2 x.d
  obtain ⟨A', k1⟩ := res2 y.a
  obtain ⟨B', k2⟩ := res2 y.b
  obtain ⟨C', k3⟩ := res2 y.c
  obtain ⟨D', k4⟩ := res2 y.d
  have n1 : (-y.a) % 2 = (A'.val : Int) := by rw [neg2]; exact k1
  have n2 : (-y.b) % 2 = (B'.val : Int) := by rw [neg2]; exact k2
  have n3 : (-y.c) % 2 = (C'.val : Int) := by rw [neg2]; exact k3
  have n4 : (-y.d) % 2 = (D'.val : Int) := by rw [neg2]; exact k4
  have hx' : ¬ ((x.a + x.c) % 2 = 0 ∧ (x.b + x.d) % 2 = 0) := hx
  have hy' : ¬ ((y.a + y.c) % 2 = 0 ∧ (y.b + y.d) % 2 = 0) := hy
  unfold sumE at h
  have f1 := A.isLt; have f2 := B.isLt; have f3 := C.isLt; have f4 := D.isLt
  have g1 := A'.isLt; have g2 := B'.isLt; have g3 := C'.isLt; have g4 := D'.isLt
  rcases okF_key A B C D A' B' C' D' Ox (by rw [Fin.ext_iff, Fin.ext_iff]; omega) (by rw [Fin.ext_iff, Fin.ext_iff]; omega) with e | e | e | e
  ·exact .inl (okM_F h1 h2 h3 h4 k1 k2 k3 k4 e)
  ·exact .inr (.inl (okM_F h1 h2 h3 h4 n4 k1 k2 k3 e))
  ·exact .inr (.inr (.inl (okM_F h1 h2 h3 h4 n3 n4 k1 k2 e)))
  ·exact .inr (.inr (.inr (okM_F h1 h2 h3 h4 n2 n3 n4 k1 e)))
 unfold matchN
 by_cases h0 : okM x (turnN 0 y) = true
 ·rw [if_pos h0]; exact h0
 ·rw [if_neg h0]
  by_cases h1 : okM x (turnN 1 y) = true
  ·rw [if_pos h1]; exact h1
  ·rw [if_neg h1]
   by_cases h2 : okM x (turnN 2 y) = true
   ·rw [if_pos h2]; exact h2
   ·rw [if_neg h2]
    have h3 : okM x (turnN 3 y) = true := by
     rcases key with h | h | h | h
     ·exact absurd h h0
     ·exact absurd h h1
     ·exact absurd h h2
     ·exact h
    rw [if_pos h3]; exact h3
theorem turnN_k (n : Nat) (z : Nm) : (turnN n z).k = z.k := by
 match n with
 | 0 => rfl
 | 1 => rfl
 | 2 => rfl
 | _ + 3 => rfl
theorem turnN_val {n : Nat} (h : n < 4) (z : Nm) : (turnN n z).val = omP n * z.val := by
 match n, h with
 | 0, _ => show z.val = 1 * z.val; rw [Q4.one_mul]
 | 1, _ => show z.rot.val = omQ * 1 * z.val; rw [Q4.mul_one, rot_val]
 | 2, _ => show z.rot.rot.val = omQ * (omQ * 1) * z.val; rw [Q4.mul_one, rot_val, rot_val, Q4.mul_assoc]
 | 3, _ => show z.rot.rot.rot.val = omQ * (omQ * (omQ * 1)) * z.val; rw [Q4.mul_one, rot_val, rot_val, rot_val, Q4.mul_assoc, Q4.mul_assoc]
theorem match_lt (x y : Nm) : matchN x y < 4 := by
 unfold matchN
 split
 ·omega
 ·split
  ·omega
  ·split
   ·omega
   ·split <;> omega
theorem om_back : ∀ n, n < 4 → imQ * omP ((n + 6) % 8) = omP n ∧ omP ((n + 6) % 8) = -(imQ * omP n) := by
 intro n hn
 have e2 : omP 2 = imQ := by show omQ * (omQ * 1) = _; rw [Q4.mul_one, om_im]
 have ii : imQ * imQ = -1 := by apply Q4.ext' <;> simp only [imQ, Q4.ma, Q4.mb, Q4.mc, Q4.md, Q4.na, Q4.nb, Q4.nc, Q4.nd, Q4.oa, Q4.ob, Q4.oc, Q4.od] <;> grind
 have st : ∀ n, omP (n + 2) = imQ * omP n := fun n => by show omQ * (omQ * omP n) = _; rw [← Q4.mul_assoc, om_im]
 have s6 : ∀ n, omP (n + 6) = -(imQ * omP n) := fun n => by
  rw [st (n + 4), st (n + 2), st n, ← Q4.mul_assoc imQ imQ, ii, Q4.neg_mul, Q4.one_mul]
 have s8 : ∀ n, omP (n + 8) = omP n := fun n => by
  rw [st (n + 6), s6, Q4.mul_neg, ← Q4.mul_assoc, ii, Q4.neg_mul, Q4.one_mul, Q4.neg_neg]
 have key : omP ((n + 6) % 8) = -(imQ * omP n) := by
  rcases (by omega : n < 2 ∨ (n + 6) = (n - 2) + 8 ∧ n - 2 < 8) with h | h
  ·rw [Nat.mod_eq_of_lt Ox, s6]
  ·rw [h.1, Nat.add_mod_right, Nat.mod_eq_of_lt Ox, ← s8, ← h.1, s6]
 refine ⟨?_, key⟩
 rw [key, Q4.mul_neg, ← Q4.mul_assoc, ii, Q4.neg_mul, Q4.one_mul, Q4.neg_neg]
theorem nm_valN {z : Nm} {K : Nat} (h : z.k = K) : z = ⟨z.a, z.b, z.c, z.d, K⟩ := by rw [← h]
theorem val_neg4 (a b c d : Int) (k : Int) : (⟨-a, -b, -c, -d, k⟩ : Nm).val = -(⟨a, b, c, d, k⟩ : Nm).val := val_neg ⟨a, b, c, d, k⟩
theorem val_addK (a b c d a' b' c' d' : Int) (K : Nat) : (⟨a + a', b + b', c + c', d + d', K⟩ : Nm).val = (⟨a, b, c, d, K⟩ : Nm).val + (⟨a', b', c', d', K⟩ : Nm).val := by
 rw [valK K _ rfl, valK K _ rfl, valK K _ rfl, ← Q4.dn_add]
 congr 1
 apply Q4.ext' <;> simp only [Nm.co, Q4.aa, Q4.ab, Q4.ac, Q4.ad, Rat.intCast_add]
theorem pair_drop {x y : Nm} {K : Nat} (hK : 0 < K) (hx : x.k = K) (hy : y.k = K) (fx : x.Nf) (fy : y.Nf) (hs : sumE x % 2 = sumE y % 2) :
    (∃ t : Nm, 0 ≤ t.k ∧ t.val = hhQ * (x.val + imQ * (omP ((matchN x y + 6) % 8) * y.val)) ∧ dexp t.nf + 1 ≤ dexp x ∧ t.k ≤ K) ∧
    (∃ t : Nm, 0 ≤ t.k ∧ t.val = hhQ * (imQ * x.val + omP ((matchN x y + 6) % 8) * y.val) ∧ dexp t.nf + 1 ≤ dexp x ∧ t.k ≤ K) := by
  have nx : ¬ x.even := fx.resolve_left Ox
  have ny : ¬ y.even := fy.resolve_left Ox
  have hm := match_ok hs nx ny
  obtain ⟨ob, ob2⟩ := om_back _ (match_lt x y)
  have hv := turnN_val (match_lt x y) y
  have hyk := turnN_k (matchN x y) y
  generalize turnN (matchN x y) y = y' at hm hv hyk
  generalize matchN x y = n at ob ob2 hv
  have hdx : (dexp x : Int) = if sumE x % 2 = 1 then 2 * (K : Int) else 2 * K - 1 := by
    unfold dexp
    rw [if_neg Ox, hx]
    split <;> omega
  have core : ∀ s : Nm, s.k = (K : Int) + 1 → (AllE s ∨ AllO s ∧ sumE x % 2 = 1) → ∃ t : Nm, 0 ≤ t.k ∧ t.val = s.val ∧ dexp t.nf + 1 ≤ dexp x ∧ t.k ≤ K := by
    intro s hsk h
    obtain ⟨d1, d2⟩ := drop_core (s := s) (K := K) Ox hsk
    rcases h with h | ⟨h, h1⟩
    · obtain ⟨t, t0, tk, tv⟩ := d1 h
      have := nf_dexp (z := t) (K := K - 1) t0 Ox
      refine ⟨t, t0, tv, ?_, by omega⟩
      split at hdx <;> omega
    · obtain ⟨t, tk, ts, tv⟩ := d2 h
      have := nf_dexp1 (z := t) (K := K) Ox Ox Ox ts
      refine ⟨t, by omega, tv, ?_, by omega⟩; rw [if_pos h1] at hdx
      omega
  have par : (x.a % 2 = y'.a % 2 ∧ x.b % 2 = y'.b % 2 ∧ x.c % 2 = y'.c % 2 ∧ x.d % 2 = y'.d % 2) ∨
      (x.a % 2 = 1 - y'.a % 2 ∧ x.b % 2 = 1 - y'.b % 2 ∧ x.c % 2 = 1 - y'.c % 2 ∧ x.d % 2 = 1 - y'.d % 2) ∧ sumE x % 2 = 1 := by
    unfold okM at hm
    split at hm
    · exact .inl (of_decide_eq_true hm)
    · rename_i hw
      have h1 := of_decide_eq_true hm
      refine .inr ⟨h1, ?_⟩
      unfold wtE at hw
      have nx' : ¬ ((x.a + x.c) % 2 = 0 ∧ (x.b + x.d) % 2 = 0) := nx
      obtain ⟨c1, c2, c3, c4⟩ := h1
      unfold sumE
      rcases mod2 x.a with a1 | a1 <;> rcases mod2 x.b with a2 | a2 <;> rcases mod2 x.c with a3 | a3 <;> rcases mod2 x.d with a4 | a4 <;> omega
  have ex := nm_valN hx
  have ey := nm_valN (hyk.trans hy)
  constructor
  · obtain ⟨t, t0, tv, td, tk⟩ := core ⟨x.a + y'.a, x.b + y'.b, x.c + y'.c, x.d + y'.d, (K : Int) + 1⟩ rfl (by
      rcases par with ⟨h1, h2, h3, h4⟩ | ⟨⟨h1, h2, h3, h4⟩, h5⟩
      · exact .inl ⟨by show (x.a + y'.a) % 2 = 0; omega, by show (x.b + y'.b) % 2 = 0; omega, by show (x.c + y'.c) % 2 = 0; omega, by show (x.d + y'.d) % 2 = 0; omega⟩
      · exact .inr ⟨⟨by show (x.a + y'.a) % 2 = 1; omega, by show (x.b + y'.b) % 2 = 1; omega, by show (x.c + y'.c) % 2 = 1; omega, by show (x.d + y'.d) % 2 = 1; omega⟩, h5⟩)
    refine ⟨t, t0, tv.trans ?_, td, tk⟩; rw [val_hh, val_addK, ← ex, ← ey, hv, ← Q4.mul_assoc imQ, ob]
  · obtain ⟨t, t0, tv, td, tk⟩ := core ⟨-(x.c - y'.c), -(x.d - y'.d), x.a - y'.a, x.b - y'.b, (K : Int) + 1⟩ rfl (by
      rcases par with ⟨h1, h2, h3, h4⟩ | ⟨⟨h1, h2, h3, h4⟩, h5⟩
      · exact .inl ⟨by show (-(x.c - y'.c)) % 2 = 0; omega, by show (-(x.d - y'.d)) % 2 = 0; omega, by show (x.a - y'.a) % 2 = 0; omega, by show (x.b - y'.b) % 2 = 0; omega⟩
      · exact .inr ⟨⟨by show (-(x.c - y'.c)) % 2 = 1; omega, by show (-(x.d - y'.d)) % 2 = 1; omega, by show (x.a - y'.a) % 2 = 1; omega, by show (x.b - y'.b) % 2 = 1; omega⟩, h5⟩)
    refine ⟨t, t0, tv.trans ?_, td, tk⟩
    have e1 : (⟨-(x.c - y'.c), -(x.d - y'.d), x.a - y'.a, x.b - y'.b, (K : Int)⟩ : Nm) = (⟨x.a + -y'.a, x.b + -y'.b, x.c + -y'.c, x.d + -y'.d, (K : Int)⟩ : Nm).rot.rot := by
      unfold Nm.rot
      simp only [Nm.mk.injEq]
      exact ⟨by omega, by omega, by omega, by omega, trivial⟩
    rw [val_hh, e1, rot_val, rot_val, val_addK, val_neg4, ← ex, ← ey, hv, ob2, ← Q4.mul_assoc omQ, om_im, Q4.mul_add, Q4.mul_neg, Q4.neg_mul, Q4.mul_assoc]
end Go.Proofs.YthjjkajjpejcdaaGreat
