/- Texts in one: Wb4, Wb8, Sf, Mt2a, Sy1, Sy2, Sy3, Sy4, SyPl, Sy6, Sy7, Sy8, Sy9, Sy10, Sy12, AlPl, Mt2, Mt3. -/
import Derived.Test.YthjjkajjpejcdaaGreatLTpD
namespace Go.Proofs.YthjjkajjpejcdaaGreat
set_option linter.all false
set_option maxRecDepth 100000
set_option maxHeartbeats 1000000
open Go.RowKit
theorem tr_len {z : Nm} (h : z.Fit 9850501549098619803069760025035903451269934817616361666987073351061430442874302652853566563721228910201656997576704) : (digs z.tr.a.natAbs).length ≤ 1000 ∧ (digs z.tr.b.natAbs).length ≤ 1000 ∧ (digs z.tr.c.natAbs).length ≤ 1000 ∧ (digs z.tr.d.natAbs).length ≤ 1000 := by
 obtain ⟨h1, h2, h3, h4, h5, h6, h7, h8⟩ := h
 simp only [Nm.tr]
 exact ⟨len_big Ox Ox, len_big Ox Ox, len_big Ox Ox, len_big Ox Ox⟩
set_option maxHeartbeats 2000000 in
theorem wnum_any (z : Nm) (s0 s1 s2 s3 : Value) (hz : z.Fit 9850501549098619803069760025035903451269934817616361666987073351061430442874302652853566563721228910201656997576704) (hk : 0 ≤ z.k) (hk1 : z.k ≤ 10000) (w : World) (hs : SA4 w z s0 s1 s2 s3) : Calls Tryz.prog 15 #[wdV z s0 s1 s2 s3] w fun e w' => e = .returned (.tuple #[nmV (wnum z).1, .bool (wnum z).2]) ∧ Below w.heap.size w w' := by
 obtain ⟨⟨a0, c0, rfl⟩, ⟨a1, c1, rfl⟩, ⟨a2, c2, rfl⟩, ⟨a3, c3, rfl⟩⟩ := (⟨hs.a.form, hs.b.form, hs.c.form, hs.d.form⟩ : _ ∧ _ ∧ _ ∧ _)
 go_enter Tryz.func15, Tryz.ntmps15
 refine wk_start ?_
 refine wk_seq ?_
 refine Wr [1, 1, 0] ?_
 refine Rgn fun g1 => ?_
 simp only [qz]
 refine Rgn fun g2 => ?_
 refine Zx ?_
 refine rg_nil (ek_next ?_)
 refine wk_cutF [4, 5, 10, 11, 12, 13, 14, 15, 16, 17, 18, 19, 20, 21, 22, 23, 24, 25, 26, 27, 28, 29, 30, 31, 32, 33, 34, 35, 36, 37, 38, 39, 40, 41, 42, 43, 44, 45, 46, 47, 48, 49, 50, 51] (fun f s => ∃ (y : Nm) (ta0 ta1 ta2 ta3 : Option Addr) (tc0 tc1 tc2 tc3 : Nat) (u : List Blk), s = (u ++ ((g2, .cells #[.int .i64 0, .int .i64 0, .int .i64 0, .int .i64 0, .int .i64 0] 44) :: ((g1, .cells #[.bool (decide (y.a < 0)), .slice ta0 (digs y.a.natAbs).length tc0, .bool (decide (y.b < 0)), .slice ta1 (digs y.b.natAbs).length tc1, .bool (decide (y.c < 0)), .slice ta2 (digs y.c.natAbs).length tc2, .bool (decide (y.d < 0)), .slice ta3 (digs y.d.natAbs).length tc3, .int .i64 y.k] 41) :: []))) ∧ Hid (y.nf = z.nf) ∧ y.nf = y ∧ SK4 w u y (.slice ta0 (digs y.a.natAbs).length tc0) (.slice ta1 (digs y.b.natAbs).length tc1) (.slice ta2 (digs y.c.natAbs).length tc2) (.slice ta3 (digs y.d.natAbs).length tc3) ∧ y.Fit 9850501549098619803069760025035903451269934817616361666987073351061430442874302652853566563721228910201656997576704) ?_ ?_
 ·refine wk_block ?_
  refine wk_loopF [4, 5, 10, 11, 12, 13, 14, 15, 16, 17, 18, 19, 20, 21, 22, 23, 24, 25, 26, 27, 28, 29, 30, 31, 32, 33, 34, 35, 36, 37, 38, 39, 40, 41, 42, 43, 44, 45, 46, 47, 48, 49, 50, 51] (fun mz f s => ∃ (y : Nm) (ta0 ta1 ta2 ta3 : Option Addr) (tc0 tc1 tc2 tc3 : Nat) (u : List Blk), s = (u ++ ((g2, .cells #[.int .i64 0, .int .i64 0, .int .i64 0, .int .i64 0, .int .i64 0] 44) :: ((g1, .cells #[.bool (decide (y.a < 0)), .slice ta0 (digs y.a.natAbs).length tc0, .bool (decide (y.b < 0)), .slice ta1 (digs y.b.natAbs).length tc1, .bool (decide (y.c < 0)), .slice ta2 (digs y.c.natAbs).length tc2, .bool (decide (y.d < 0)), .slice ta3 (digs y.d.natAbs).length tc3, .int .i64 y.k] 41) :: []))) ∧ mz = y.k.toNat ∧ Hid (y.nf = z.nf) ∧ SK4 w u y (.slice ta0 (digs y.a.natAbs).length tc0) (.slice ta1 (digs y.b.natAbs).length tc1) (.slice ta2 (digs y.c.natAbs).length tc2) (.slice ta3 (digs y.d.natAbs).length tc3) ∧ y.Fit 9850501549098619803069760025035903451269934817616361666987073351061430442874302652853566563721228910201656997576704 ∧ 0 ≤ y.k ∧ y.k ≤ 10000) ((fun (y : Nm) (ta0 ta1 ta2 ta3 : Option Addr) (tc0 tc1 tc2 tc3 : Nat) (u : List Blk) => y.k.toNat) (z) (a0) (a1) (a2) (a3) (c0) (c1) (c2) (c3) ([])) ?_ Kx ?_
  ·exact ⟨z, a0, a1, a2, a3, c0, c1, c2, c3, [], rfl, rfl, Lib.hid rfl, SK4.arg hs, hz, hk, hk1⟩
  rintro mz f1 s ⟨y, ta0, ta1, ta2, ta3, tc0, tc1, tc2, tc3, u, rfl, hn, hd1, hd2, hd3, hd4, hd5⟩
  simp only [Act.putF, List.foldl_cons, List.foldl_nil, Act.put, Act.eval, qW, Nat.reduceAdd, Bool.not_true, Bool.not_false]
  have hnf := hd1
  have hsk := hd2
  have hfit := hd3
  clear hd1 hd2 hd3; refine wk_seq (wk_seq ?_); refine Wr [0, 0, 0, 0, 0, 0, 0, 0, 0, 0, 1, 1, 0, 0, 0, 0, 0, 0, 0, 0, 1, 1, 0] ?_; refine Fd 0 8 UU41 ?_; refine rf_load rfl rfl rfl UU3 rfl (fun w hw => (Kn.hd0 (Kn.tl (Kn.tlU hw))).at rfl) (Nq ?_); refine rfb_gtr rfl rfl rfl rfl ?_
  rintro (_ | _) h1 <;> try simp only [qd, ne_eq] at h1
  ·refine Zx ?_
   refine rg_skip_h Rx Nz ?_; simp only [qz]; refine rg_skip_h Rx Nz ?_; refine Zx ?_; refine rg_skip_h Rx Nz ?_; simp only [qz]; refine rg_skip_h Rx Nz ?_; refine Zx ?_; refine rg_nil (ek_next (wk_cond_f rfl (wk_exit (ek_then_exit (ek_then_exit (ek_block_exit ?_)))))); refine ek_midF Kx ?_
   exact ⟨y, ta0, ta1, ta2, ta3, tc0, tc1, tc2, tc3, u, by rfl, hnf, (nf_stop (fun hh => by have := hh.1; have := hh.2.1; have := hh.2.2; omega)), hsk, hfit⟩
  refine Zx ?_; refine Fd 7 0 UU41 ?_; refine Ia 0 2 0 UU39 ?_; refine rf_loadR (n := 2) rfl rfl rfl UU38 rfl Kx (fun w hw => Kn.hd0 (Kn.tl (Kn.tlU hw))) rfl rfl (Nq ?_); refine Fd 7 0 UU41 ?_; refine Ia 2 2 4 UU39 ?_; refine rf_loadR (n := 2) rfl rfl rfl UU38 rfl Kx (fun w hw => Kn.hd0 (Kn.tl (Kn.tlU hw))) rfl rfl (Nq ?_)
  obtain ⟨la, lb, lc, ld⟩ := fit_big hfit
  obtain ⟨fa0, fa1, fb0, fb1, fc0, fc1, fd0, fd1⟩ := id hfit
  apply (rg_made (T := fun v u => ∃ s, v = bgV (y.a + y.c) s ∧ SU u s (y.a + y.c).natAbs)) Rx Kx
  case hargs => exact Ax
  case h => exact fun w hw => badd_any y.a y.c _ _ la lc w (hsk.a.at hw (List.sublist_append_left _ _)) (hsk.c.at hw (List.sublist_append_left _ _))
  case hz => exact Nz
  rintro _ u3 ⟨s3, rfl, hS3⟩
  obtain ⟨⟨sa3, sc3, rfl⟩, -⟩ := id hS3
  simp only [qz]; apply rg_pureb Rx Kx
  case hargs => exact Ax
  case h => exact fun w hw => beven_any (y.a + y.c) _ (len_big Ox Ox) w (hS3.at hw (List.sublist_append_left _ _))
  case hz => exact Nz
  rintro (_ | _) h2 <;> try simp only [qd, ne_eq] at h2
  ·refine Zx ?_
   refine rg_skip_h Rx Nz ?_; simp only [qz]; refine rg_skip_h Rx Nz ?_; refine Zx ?_; refine Zr ?_; refine ek_sub ((Sa (sc _ (sc _ sn)) _).trans (Sr _ _)) ?_; refine ek_midF Kx ?_
   exact ⟨y, ta0, ta1, ta2, ta3, tc0, tc1, tc2, tc3, u, by rfl, hnf, (nf_stop (fun hh => by have := hh.1; have := hh.2.1; have := hh.2.2; omega)), hsk, hfit⟩
  refine Zx ?_; refine Fd 7 0 UU41 ?_; refine Ia 1 2 2 UU39 ?_; refine rf_loadR (n := 2) rfl rfl rfl UU38 rfl Kx (fun w hw => Kn.hd0 (Kn.tl (Kn.tlU (Kn.tlU hw)))) rfl rfl (Nq ?_); refine Fd 7 0 UU41 ?_; refine Ia 3 2 6 UU39 ?_; refine rf_loadR (n := 2) rfl rfl rfl UU38 rfl Kx (fun w hw => Kn.hd0 (Kn.tl (Kn.tlU (Kn.tlU hw)))) rfl rfl (Nq ?_)
  apply (rg_made (T := fun v u => ∃ s, v = bgV (y.b + y.d) s ∧ SU u s (y.b + y.d).natAbs)) Rx Kx
  case hargs => exact Ax
  case h => exact fun w hw => badd_any y.b y.d _ _ lb ld w (hsk.b.at hw ((List.sublist_append_left _ _).trans (Sr _ _))) (hsk.d.at hw ((List.sublist_append_left _ _).trans (Sr _ _)))
  case hz => exact Nz
  rintro _ u4 ⟨s4, rfl, hS4⟩
  obtain ⟨⟨sa4, sc4, rfl⟩, -⟩ := id hS4
  simp only [qz]; apply rg_pureb Rx Kx
  case hargs => exact Ax
  case h => exact fun w hw => beven_any (y.b + y.d) _ (len_big Ox Ox) w (hS4.at hw (List.sublist_append_left _ _))
  case hz => exact Nz
  rintro (_ | _) h3 <;> try simp only [qd, ne_eq] at h3
  ·refine Zx ?_
   refine Zr ?_; refine ek_sub (((Sa (sc _ (sc _ sn)) _).trans (Sr _ _)).trans (Sr _ _)) ?_; refine ek_midF Kx ?_
   exact ⟨y, ta0, ta1, ta2, ta3, tc0, tc1, tc2, tc3, u, by rfl, hnf, (nf_stop (fun hh => by have := hh.1; have := hh.2.1; have := hh.2.2; omega)), hsk, hfit⟩
  refine Zx ?_; refine Zr ?_; refine Wr [0, 0, 1, 1, 1] ?_; refine Fd 7 0 UU41 ?_; refine rf_loadR (n := 8) rfl rfl rfl UU39 rfl Kx (fun w hw => Kn.hd0 (Kn.tl (Kn.tlU (Kn.tlU (Kn.tlU hw))))) rfl rfl (Nq ?_)
  apply (rg_made (T := fun v u => ∃ s0 s1 s2 s3, v = arV (y.tr) s0 s1 s2 s3 ∧ SU4 u (y.tr) s0 s1 s2 s3)) Rx Kx
  case hargs => exact Ax
  case h => exact fun w hw => timesR_any y _ _ _ _ hfit w (hsk.at hw (((List.sublist_append_left _ _).trans (Sr _ _)).trans (Sr _ _)))
  case hz => exact Nz
  rintro _ u5 ⟨t0, t1, t2, t3, rfl, hS5⟩
  obtain ⟨⟨ta5_0, tc5_0, rfl⟩, -⟩ := id hS5.a
  obtain ⟨⟨ta5_1, tc5_1, rfl⟩, -⟩ := id hS5.b
  obtain ⟨⟨ta5_2, tc5_2, rfl⟩, -⟩ := id hS5.c
  obtain ⟨⟨ta5_3, tc5_3, rfl⟩, -⟩ := id hS5.d
  simp only [qz]
  obtain ⟨ma, mb, mc, md⟩ := tr_len hfit
  refine Rgn fun g6 => ?_
  simp only [qz]; refine rf_storeR (n := 8) rfl rfl Kx rfl rfl (UpdR.here _ _ _ Nl) Nz (Nw ?_); refine Zr ?_; refine Wx [0] ?_; refine rg_nil (ek_next (wk_block ?_)); refine wk_unroll 4 ?_; refine wk_seq (wk_seq ?_); refine Wx [0, 0] ?_; refine rf_lss (b := true) rfl rfl rfl rfl (by decide) (Nq ?_); refine Zr ?_; refine Wx [0, 0, 0, 0, 1, 0, 1] ?_; refine Ia 0 2 0 UU39 ?_; refine rf_loadR (n := 2) rfl rfl rfl UU38 rfl Kx (fun w hw => Kn.hd0 hw) rfl rfl (Nq ?_)
  apply (rg_made (T := fun v u => ∃ s, v = bgV (y.tr.a / 2) s ∧ SU u s (y.tr.a / 2).natAbs)) Rx Kx
  case hargs => exact Ax
  case h => exact fun w hw => bhalf_any y.tr.a _ ma (by simp only [Nm.tr]; omega) w (hS5.a.at hw (List.Sublist.cons _ (List.sublist_append_left _ _)))
  case hz => exact Nz
  rintro _ u7 ⟨s7, rfl, hS7⟩
  obtain ⟨⟨sa7, sc7, rfl⟩, -⟩ := id hS7
  simp only [qz]; refine Ia 0 2 0 UU39 ?_; refine rf_storeR (n := 2) rfl rfl Kx rfl rfl (UpdR.app _ (UpdR.here _ _ _ Nl)) Nz (Nw ?_); refine Zr ?_; refine Wx [0, 0, 0] ?_; refine rf_add (r := 1) rfl rfl rfl rfl (by decide) (Zx ?_); refine Zr ?_; refine Wx [0, 0] ?_; refine rf_lss (b := true) rfl rfl rfl rfl (by decide) (Nq ?_); refine Zr ?_; refine Wx [0, 0, 0, 0, 1, 0, 1] ?_; refine Ia 1 2 2 UU39 ?_
  refine rf_loadR (n := 2) rfl rfl rfl UU38 rfl Kx (fun w hw => Kn.hd0 (Kn.tlU hw)) rfl rfl (Nq ?_)
  apply (rg_made (T := fun v u => ∃ s, v = bgV (y.tr.b / 2) s ∧ SU u s (y.tr.b / 2).natAbs)) Rx Kx
  case hargs => exact Ax
  case h => exact fun w hw => bhalf_any y.tr.b _ mb (by simp only [Nm.tr]; omega) w (hS5.b.at hw ((List.Sublist.cons _ (List.sublist_append_left _ _)).trans (Sr _ _)))
  case hz => exact Nz
  rintro _ u8 ⟨s8, rfl, hS8⟩
  obtain ⟨⟨sa8, sc8, rfl⟩, -⟩ := id hS8
  simp only [qz]; refine Ia 1 2 2 UU39 ?_; refine rf_storeR (n := 2) rfl rfl Kx rfl rfl (UpdR.app _ (UpdR.app _ (UpdR.here _ _ _ Nl))) Nz (Nw ?_); refine Zr ?_; refine Wx [0, 0, 0] ?_; refine rf_add (r := 2) rfl rfl rfl rfl (by decide) (Zx ?_); refine Zr ?_; refine Wx [0, 0] ?_; refine rf_lss (b := true) rfl rfl rfl rfl (by decide) (Nq ?_); refine Zr ?_; refine Wx [0, 0, 0, 0, 1, 0, 1] ?_; refine Ia 2 2 4 UU39 ?_
  refine rf_loadR (n := 2) rfl rfl rfl UU38 rfl Kx (fun w hw => Kn.hd0 (Kn.tlU (Kn.tlU hw))) rfl rfl (Nq ?_)
  apply (rg_made (T := fun v u => ∃ s, v = bgV (y.tr.c / 2) s ∧ SU u s (y.tr.c / 2).natAbs)) Rx Kx
  case hargs => exact Ax
  case h => exact fun w hw => bhalf_any y.tr.c _ mc (by simp only [Nm.tr]; omega) w (hS5.c.at hw (((List.Sublist.cons _ (List.sublist_append_left _ _)).trans (Sr _ _)).trans (Sr _ _)))
  case hz => exact Nz
  rintro _ u9 ⟨s9, rfl, hS9⟩
  obtain ⟨⟨sa9, sc9, rfl⟩, -⟩ := id hS9
  simp only [qz]; refine Ia 2 2 4 UU39 ?_; refine rf_storeR (n := 2) rfl rfl Kx rfl rfl (UpdR.app _ (UpdR.app _ (UpdR.app _ (UpdR.here _ _ _ Nl)))) Nz (Nw ?_); refine Zr ?_; refine Wx [0, 0, 0] ?_; refine rf_add (r := 3) rfl rfl rfl rfl (by decide) (Zx ?_); refine Zr ?_; refine Wx [0, 0] ?_; refine rf_lss (b := true) rfl rfl rfl rfl (by decide) (Nq ?_); refine Zr ?_; refine Wx [0, 0, 0, 0, 1, 0, 1] ?_; refine Ia 3 2 6 UU39 ?_
  refine rf_loadR (n := 2) rfl rfl rfl UU38 rfl Kx (fun w hw => Kn.hd0 (Kn.tlU (Kn.tlU (Kn.tlU hw)))) rfl rfl (Nq ?_)
  apply (rg_made (T := fun v u => ∃ s, v = bgV (y.tr.d / 2) s ∧ SU u s (y.tr.d / 2).natAbs)) Rx Kx
  case hargs => exact Ax
  case h => exact fun w hw => bhalf_any y.tr.d _ md (by simp only [Nm.tr]; omega) w (hS5.d.at hw ((((List.Sublist.cons _ (List.sublist_append_left _ _)).trans (Sr _ _)).trans (Sr _ _)).trans (Sr _ _)))
  case hz => exact Nz
  rintro _ u10 ⟨s10, rfl, hS10⟩
  obtain ⟨⟨sa10, sc10, rfl⟩, -⟩ := id hS10
  simp only [qz]; refine Ia 3 2 6 UU39 ?_; refine rf_storeR (n := 2) rfl rfl Kx rfl rfl (UpdR.app _ (UpdR.app _ (UpdR.app _ (UpdR.app _ (UpdR.here _ _ _ Nl))))) Nz (Nw ?_); refine Zr ?_; refine Wx [0, 0, 0] ?_; refine rf_add (r := 4) rfl rfl rfl rfl (by decide) (Zx ?_); refine Zr ?_; refine Wx [0, 0] ?_; refine rf_lss (b := false) rfl rfl rfl rfl (by decide) (Nq ?_); refine Zr ?_; refine Wr [0, 0, 0, 0, 0, 1, 0, 1] ?_
  refine rf_loadR (n := 8) rfl rfl rfl UU39 rfl Kx (fun w hw => Kn.hd0 (Kn.tlU (Kn.tlU (Kn.tlU (Kn.tlU hw))))) rfl rfl (Nq ?_); refine Fd 0 8 UU41 ?_; refine rf_load rfl rfl rfl UU3 rfl (fun w hw => (Kn.hd0 (Kn.tl (Kn.tlU (Kn.tlU (Kn.tlU (Kn.tlU (Kn.tl (Kn.tlU (Kn.tlU (Kn.tlU (Kn.tlU hw))))))))))).at rfl) (Nq ?_); refine rf_sub rfl rfl rfl rfl (wrap_ok Ox Ox) (Nq ?_)
  refine Fd 7 0 UU41 ?_; refine rf_storeR (n := 8) rfl rfl Kx rfl rfl (UpdR.app _ (UpdR.app _ (UpdR.app _ (UpdR.app _ (UpdR.there _ (UpdR.app _ (UpdR.app _ (UpdR.app _ (UpdR.app _ (UpdR.there _ (UpdR.here _ _ _ Nl))))))))))) Nz (Nw ?_); refine Fd 0 8 UU41 ?_; refine rf_store rfl rfl Kx rfl rfl (UpdR.app _ (UpdR.app _ (UpdR.app _ (UpdR.app _ (UpdR.there _ (UpdR.app _ (UpdR.app _ (UpdR.app _ (UpdR.app _ (UpdR.there _ (UpdR.here _ _ _ Nl))))))))))) Nz (Nq ?_)
  refine rg_nil (ek_block ?_); refine ek_sub (Sa (Sa (Sa (Sa (sk _ (((((sc _ (sc _ sn)).trans (Sr _ _)).trans (Sr _ _)).trans (Sr _ _)).trans (Sr _ _))) _) _) _) _) ?_; refine ek_roundF (y.step.k.toNat) ((by simp only [Nm.step]; omega)) Kx ?_
  exact ⟨y.step, sa7, sa8, sa9, sa10, sc7, sc8, sc9, sc10, (u10 ++ (u9 ++ (u8 ++ u7))), (by simp only [List.append_assoc]; rfl), by rfl, (Lib.hid ((nf_step Ox ⟨by omega, by omega⟩).symm.trans hnf.out)), ⟨(SK.own (hS7.mono ((((List.Sublist.refl _).trans (Sr _ _)).trans (Sr _ _)).trans (Sr _ _)))), (SK.own (hS8.mono (((List.sublist_append_left _ _).trans (Sr _ _)).trans (Sr _ _)))), (SK.own (hS9.mono ((List.sublist_append_left _ _).trans (Sr _ _)))), (SK.own (hS10.mono (List.sublist_append_left _ _)))⟩, (Nm.step_fit hfit), (by simp only [Nm.step]; omega), (by simp only [Nm.step]; omega)⟩
 rintro f1 s ⟨y, ta0, ta1, ta2, ta3, tc0, tc1, tc2, tc3, u, rfl, hnf, hst, hsk, hfit⟩
 simp only [Act.putF, List.foldl_cons, List.foldl_nil, Act.put, Act.eval, qW, Nat.reduceAdd, Bool.not_true, Bool.not_false]
 have hyz : y = z.nf := hst.symm.trans hnf.out
 replace hyz := Lib.hid hyz
 clear hst hnf
 obtain ⟨la, lb, lc, ld⟩ := fit_big hfit
 refine wk_seq ?_
 refine Wr [0, 0, 0, 1, 1] ?_
 refine Fd 0 8 UU41 ?_
 refine rf_load rfl rfl rfl UU3 rfl (fun w hw => (Kn.hd0 (Kn.tl (Kn.tlU hw))).at rfl) (Nq ?_)
 refine rf_build (cs := fun a => #[.int .i64 0, .int .i64 0, .int .i64 0, .int .i64 0, a.eval (.tmp 53)]) rfl rfl Kx (Nq ?_)
 refine Rgn fun g11 => ?_
 simp only [qz]
 refine rf_storeR (n := 5) rfl rfl Kx rfl rfl (UpdR.here _ _ _ Nl) Nz (Nw ?_)
 refine Zr ?_
 refine Wx [0] ?_
 refine rg_nil (ek_next (wk_block ?_))
 refine wk_unroll 4 ?_
 refine wk_seq (wk_seq ?_)
 refine Wx [0, 0] ?_
 refine rf_lss (b := true) rfl rfl rfl rfl (by decide) (Nq ?_)
 refine Zr ?_
 refine Wx [0, 0, 0, 0, 1, 0, 0, 0, 0, 0] ?_
 refine Fd 7 0 UU41 ?_
 refine Ia 0 2 0 UU39 ?_
 refine rf_loadR (n := 2) rfl rfl rfl UU38 rfl Kx (fun w hw => Kn.hd0 (Kn.tl (Kn.tlU (Kn.tl hw)))) rfl rfl (Nq ?_)
 cases hq0 : smB y.a
 ·apply rg_pure Rx Kx
  case hargs => exact Ax
  case h => exact fun w hw => by have := bsmall_any y.a _ la w (hsk.a.at hw (List.Sublist.cons _ (List.sublist_append_left _ _))); rw [hq0] at this; exact this
  case hz => exact Nz
  refine Zx ?_; refine Zr ?_; refine Wx [0, 0] ?_; refine Zr ?_; refine Wr [0, 1, 0] ?_; refine rf_build (cs := fun a => #[.int .i64 0, .int .i64 0, .int .i64 0, .int .i64 0, .int .i64 0]) rfl rfl Kx (Nq ?_); refine rf_storeR (n := 5) rfl rfl Kx rfl rfl (UpdR.there _ (UpdR.app _ (UpdR.here _ _ _ Nl))) Nz (Nw ?_); refine Zx ?_; refine Zr ?_; refine ek_ret (fun w hw => ⟨rfl, _, run_results2 rfl rfl (Kn.hd0 (Kn.tlU (Kn.tl hw))) UU44 rfl Kx, ?_⟩)
  (try simp only [qz])
  exact ⟨by unfold wnum; rw [← hyz.out]; unfold numOk; simp [*, Nm.zero], hw.below⟩
 apply rg_pure Rx Kx
 case hargs => exact Ax
 case h => exact fun w hw => by have := bsmall_any y.a _ la w (hsk.a.at hw (List.Sublist.cons _ (List.sublist_append_left _ _))); rw [hq0] at this; exact this
 case hz => exact Nz
 refine Zx ?_
 refine Zr ?_
 refine Wx [0, 0] ?_
 refine Zr ?_
 refine Wx [0, 0, 0, 0, 1] ?_
 refine Fd 3 0 UU44 ?_
 refine Ia 0 1 0 UU42 ?_
 refine rf_store rfl rfl Kx rfl rfl (UpdR.here _ _ _ Nl) Nz (Nq ?_)
 refine Zr ?_
 refine Wx [0, 0, 0] ?_
 refine rf_add (r := 1) rfl rfl rfl rfl (by decide) (Zx ?_)
 refine Zr ?_
 refine Wx [0, 0] ?_
 refine rf_lss (b := true) rfl rfl rfl rfl (by decide) (Nq ?_)
 refine Zr ?_
 refine Wx [0, 0, 0, 0, 1, 0, 0, 0, 0, 0] ?_
 refine Fd 7 0 UU41 ?_
 refine Ia 1 2 2 UU39 ?_
 refine rf_loadR (n := 2) rfl rfl rfl UU38 rfl Kx (fun w hw => Kn.hd0 (Kn.tl (Kn.tlU (Kn.tl hw)))) rfl rfl (Nq ?_)
 cases hq1 : smB y.b
 ·apply rg_pure Rx Kx
  case hargs => exact Ax
  case h => exact fun w hw => by have := bsmall_any y.b _ lb w (hsk.b.at hw (List.Sublist.cons _ (List.sublist_append_left _ _))); rw [hq1] at this; exact this
  case hz => exact Nz
  refine Zx ?_; refine Zr ?_; refine Wx [0, 0] ?_; refine Zr ?_; refine Wr [0, 1, 0] ?_; refine rf_build (cs := fun a => #[.int .i64 0, .int .i64 0, .int .i64 0, .int .i64 0, .int .i64 0]) rfl rfl Kx (Nq ?_); refine rf_storeR (n := 5) rfl rfl Kx rfl rfl (UpdR.there _ (UpdR.app _ (UpdR.here _ _ _ Nl))) Nz (Nw ?_); refine Zx ?_; refine Zr ?_; refine ek_ret (fun w hw => ⟨rfl, _, run_results2 rfl rfl (Kn.hd0 (Kn.tlU (Kn.tl hw))) UU44 rfl Kx, ?_⟩)
  (try simp only [qz])
  exact ⟨by unfold wnum; rw [← hyz.out]; unfold numOk; simp [*, Nm.zero], hw.below⟩
 apply rg_pure Rx Kx
 case hargs => exact Ax
 case h => exact fun w hw => by have := bsmall_any y.b _ lb w (hsk.b.at hw (List.Sublist.cons _ (List.sublist_append_left _ _))); rw [hq1] at this; exact this
 case hz => exact Nz
 refine Zx ?_
 refine Zr ?_
 refine Wx [0, 0] ?_
 refine Zr ?_
 refine Wx [0, 0, 0, 0, 1] ?_
 refine Fd 3 0 UU44 ?_
 refine Ia 1 1 1 UU42 ?_
 refine rf_store rfl rfl Kx rfl rfl (UpdR.here _ _ _ Nl) Nz (Nq ?_)
 refine Zr ?_
 refine Wx [0, 0, 0] ?_
 refine rf_add (r := 2) rfl rfl rfl rfl (by decide) (Zx ?_)
 refine Zr ?_
 refine Wx [0, 0] ?_
 refine rf_lss (b := true) rfl rfl rfl rfl (by decide) (Nq ?_)
 refine Zr ?_
 refine Wx [0, 0, 0, 0, 1, 0, 0, 0, 0, 0] ?_
 refine Fd 7 0 UU41 ?_
 refine Ia 2 2 4 UU39 ?_
 refine rf_loadR (n := 2) rfl rfl rfl UU38 rfl Kx (fun w hw => Kn.hd0 (Kn.tl (Kn.tlU (Kn.tl hw)))) rfl rfl (Nq ?_)
 cases hq2 : smB y.c
 ·apply rg_pure Rx Kx
  case hargs => exact Ax
  case h => exact fun w hw => by have := bsmall_any y.c _ lc w (hsk.c.at hw (List.Sublist.cons _ (List.sublist_append_left _ _))); rw [hq2] at this; exact this
  case hz => exact Nz
  refine Zx ?_; refine Zr ?_; refine Wx [0, 0] ?_; refine Zr ?_; refine Wr [0, 1, 0] ?_; refine rf_build (cs := fun a => #[.int .i64 0, .int .i64 0, .int .i64 0, .int .i64 0, .int .i64 0]) rfl rfl Kx (Nq ?_); refine rf_storeR (n := 5) rfl rfl Kx rfl rfl (UpdR.there _ (UpdR.app _ (UpdR.here _ _ _ Nl))) Nz (Nw ?_); refine Zx ?_; refine Zr ?_; refine ek_ret (fun w hw => ⟨rfl, _, run_results2 rfl rfl (Kn.hd0 (Kn.tlU (Kn.tl hw))) UU44 rfl Kx, ?_⟩)
  (try simp only [qz])
  exact ⟨by unfold wnum; rw [← hyz.out]; unfold numOk; simp [*, Nm.zero], hw.below⟩
 apply rg_pure Rx Kx
 case hargs => exact Ax
 case h => exact fun w hw => by have := bsmall_any y.c _ lc w (hsk.c.at hw (List.Sublist.cons _ (List.sublist_append_left _ _))); rw [hq2] at this; exact this
 case hz => exact Nz
 refine Zx ?_
 refine Zr ?_
 refine Wx [0, 0] ?_
 refine Zr ?_
 refine Wx [0, 0, 0, 0, 1] ?_
 refine Fd 3 0 UU44 ?_
 refine Ia 2 1 2 UU42 ?_
 refine rf_store rfl rfl Kx rfl rfl (UpdR.here _ _ _ Nl) Nz (Nq ?_)
 refine Zr ?_
 refine Wx [0, 0, 0] ?_
 refine rf_add (r := 3) rfl rfl rfl rfl (by decide) (Zx ?_)
 refine Zr ?_
 refine Wx [0, 0] ?_
 refine rf_lss (b := true) rfl rfl rfl rfl (by decide) (Nq ?_)
 refine Zr ?_
 refine Wx [0, 0, 0, 0, 1, 0, 0, 0, 0, 0] ?_
 refine Fd 7 0 UU41 ?_
 refine Ia 3 2 6 UU39 ?_
 refine rf_loadR (n := 2) rfl rfl rfl UU38 rfl Kx (fun w hw => Kn.hd0 (Kn.tl (Kn.tlU (Kn.tl hw)))) rfl rfl (Nq ?_)
 cases hq3 : smB y.d
 ·apply rg_pure Rx Kx
  case hargs => exact Ax
  case h => exact fun w hw => by have := bsmall_any y.d _ ld w (hsk.d.at hw (List.Sublist.cons _ (List.sublist_append_left _ _))); rw [hq3] at this; exact this
  case hz => exact Nz
  refine Zx ?_; refine Zr ?_; refine Wx [0, 0] ?_; refine Zr ?_; refine Wr [0, 1, 0] ?_; refine rf_build (cs := fun a => #[.int .i64 0, .int .i64 0, .int .i64 0, .int .i64 0, .int .i64 0]) rfl rfl Kx (Nq ?_); refine rf_storeR (n := 5) rfl rfl Kx rfl rfl (UpdR.there _ (UpdR.app _ (UpdR.here _ _ _ Nl))) Nz (Nw ?_); refine Zx ?_; refine Zr ?_; refine ek_ret (fun w hw => ⟨rfl, _, run_results2 rfl rfl (Kn.hd0 (Kn.tlU (Kn.tl hw))) UU44 rfl Kx, ?_⟩)
  (try simp only [qz])
  exact ⟨by unfold wnum; rw [← hyz.out]; unfold numOk; simp [*, Nm.zero], hw.below⟩
 apply rg_pure Rx Kx
 case hargs => exact Ax
 case h => exact fun w hw => by have := bsmall_any y.d _ ld w (hsk.d.at hw (List.Sublist.cons _ (List.sublist_append_left _ _))); rw [hq3] at this; exact this
 case hz => exact Nz
 refine Zx ?_
 refine Zr ?_
 refine Wx [0, 0] ?_
 refine Zr ?_
 refine Wx [0, 0, 0, 0, 1] ?_
 refine Fd 3 0 UU44 ?_
 refine Ia 3 1 3 UU42 ?_
 refine rf_store rfl rfl Kx rfl rfl (UpdR.here _ _ _ Nl) Nz (Nq ?_)
 refine Zr ?_
 refine Wx [0, 0, 0] ?_
 refine rf_add (r := 4) rfl rfl rfl rfl (by decide) (Zx ?_)
 refine Zr ?_
 refine Wx [0, 0] ?_
 refine rf_lss (b := false) rfl rfl rfl rfl (by decide) (Nq ?_)
 refine Zr ?_
 refine wk_draws_m (hz1 := (sc _ (Sa (sk _ (sc _ sn)) _))) [(0, 0), (1, 3), (2, 3), (3, 3), (4, 2), (5, 0)] 4 Kx Kx (fun c d v a w h => by cases d <;> exact h) ?_
 simp only [List.map_cons, List.map_nil, List.getD_cons_zero, List.getD_cons_succ]
 refine rf_loadR (n := 5) rfl rfl rfl UU44 rfl Kx (fun w hw => Kn.hd0 hw) rfl rfl (Nq ?_)
 refine Fd 0 8 UU41 ?_
 refine rf_load rfl rfl rfl UU3 rfl (fun w hw => (Kn.hd0 (Kn.tlU (Kn.tl hw))).at rfl) (Nq ?_)
 refine rf_leq rfl rfl rfl rfl rfl (Nq ?_)
 refine rf_storeRM (n := 5) rfl rfl Kx rfl rfl (UpdR.there _ (UpdR.app _ (UpdR.here _ _ _ Nl))) (sc _ (Sa (sk _ (sc _ sn)) _)) (Nw ?_)
 refine Zx ?_
 refine Zr ?_
 refine ek_ret (fun w hw => ⟨rfl, _, run_results2 rfl rfl (Kn.hd0 (Kn.tlU (Kn.tl hw))) UU44 rfl Kx, ?_⟩)
 (try simp only [qz])
 exact ⟨by unfold wnum; rw [← hyz.out]; unfold numOk; simp [*, Nm.zero], hw.below⟩
theorem fit382 {z : Nm} (h : z.Fit 1000000000) : z.Fit 9850501549098619803069760025035903451269934817616361666987073351061430442874302652853566563721228910201656997576704 := Nm.fit_mono h (by decide)
section
variable {R : Option Nat} {ops : Array Oper} {Q : Exit → Act → World → Prop} {B : World} {F : List Nat} {s0 : Option (List Blk × List Blk)} {P : Program}
variable {l : List (Oper × Nat)} {a : Act} {s : List Blk} {d : Option Tmp} {t : TypeId} {p : String} {af : Array Edge} {gd : Option (Nat × Bool)} {m : Nat}
theorem rf_sliceFrom {T : Nat} {x yl : Operand} {b off lo len cap e sz : Nat} {k' : IntKind} {zl : Int} (hm : soft03 m = true) (hg : Region.wanted ⟨d, .slice T x (some yl) none none, t, p, af, gd⟩ (yielded ops a.tmps) = true)
    (hx : a.eval x = .slice (some ⟨b, off, none⟩) len cap) (hl : a.eval yl = .int k' zl) (hu : P.underlying T = some (.slice e)) (hs : (P.info? e).map (·.size) = some sz) (hzl : zl = (lo : Int)) (hn : lo ≤ len)
    (h : Rg R P ops Q B F s0 l (a.put d (.slice (if cap = lo then some ⟨b, off, none⟩ else some ⟨b, off + lo * sz, none⟩) (len - lo) (cap - lo))) s) : Rg R P ops Q B F s0 ((⟨d, .slice T x (some yl) none none, t, p, af, gd⟩, m) :: l) a s := by
  subst hzl
  refine rg_any hm hg (fun w => ?_) h
  unfold Yld
  cases hq : P.info? e with
  | none => simp [hq] at hs
  | some q =>
    have hs' : q.size = sz := by simpa [hq] using hs
    have hb2 := fun w => run_sliceBound (P := P) w k' (lo : Int) len .sliceB Ox Ox
    have e2 : (lo : Int).toNat = lo := Int.toNat_natCast _
    rw [e2] at hb2
    simp [execOp, hx, hl, Instr.sliceAt, Instr.slice, Instr.sliceBounds, run_underlying hu, sizeOf, typeInfo, hq, hs', hb2, Addr.add_mid]
end
section
variable {P : Program} {w : World}
theorem run_results_c2 {fn : Func} {k k' ty ty' : Nat} {tmps : Array Value} {g t g' t' : Nat} {cs cs' : Array Value} {d d' : TypeDesc} (hres : fn.results = #[.cell k ty, .cell k' ty'])
    (hk : tmps.getD k undef = .pointer (some ⟨g, 0, none⟩)) (hg : Hd w g t cs) (hu : P.underlying ty = some d) (hr : isRow d = true)
    (hs : (P.info? ty).map (·.size) = some cs.size) (hk' : tmps.getD k' undef = .pointer (some ⟨g', 0, none⟩)) (hg' : Hd w g' t' cs') (hu' : P.underlying ty' = some d') (hr' : isRow d' = true)
    (hs' : (P.info? ty').map (·.size) = some cs'.size) : (results fn tmps).run P w = .ok (.tuple #[.agg cs, .agg cs']) w := by
  have := run_load_hd hg hu hr hs
  have := run_load_hd hg' hu' hr' hs'
  have hk0 : tmps[k]?.getD undef = .pointer (some ⟨g, 0, none⟩) := by simpa using hk
  have hk0' : tmps[k']?.getD undef = .pointer (some ⟨g', 0, none⟩) := by simpa using hk'
  simp [results, hres, hk0, hk0', asAddr, *]
end
theorem Hd.belowS {w w' : World} {g t : Nat} {cs : Array Value} (h : Hd w g t cs) (hb : Below w.heap.size w w') : Hd w' g t cs := (hb.block g h.lt).trans h
theorem numV_ve2 (r : NR) : ∃ (v : Nm) (c : Int), numV r = .tuple #[nmV v, .int .i64 c] := by cases r <;> exact ⟨_, _, rfl⟩
theorem elemOk {xs : List Nm} {N : Nat} (hok : allOk xs = true) (hl : xs.length = N * N) {i k : Nat} (hi : i < N) (hk : k < N) : (nm xs (i * N + k)).Ok := ok_at hok (by rw [hl]; exact ix_lt hi hk)
theorem validB_N' {n : Int} {xs : List Nm} (h : validB n xs = true) : ∃ N : Nat, n = N ∧ 1 ≤ N ∧ N ≤ 6 ∧ xs.length = N * N ∧ xs.length ≤ 36 ∧ allOk xs = true := by
 simp only [validB, Bool.and_eq_true, decide_eq_true_eq] at h
 obtain ⟨h1, h2, h3, h4⟩ := h
 obtain ⟨N, rfl⟩ : ∃ N : Nat, n = N := ⟨n.toNat, by omega⟩
 have h5 : xs.length = N * N := by
  have e : ((N * N : Nat) : Int) = (N : Int) * N := Int.natCast_mul N N
  omega
 have h6 : N * N ≤ 6 * 6 := Nat.mul_le_mul Ox Ox
 exact ⟨N, rfl, by omega, by omega, h5, by omega, h4⟩
theorem retM_err {w w' : World} {K : Nat} {c : Int} {r : LR} (h : r = .error c) (hb : Below w.heap.size w w') : RetM w (rN K r) (rL r) (rC r) (.returned (.tuple #[.agg #[.int .i64 0, .slice none 0 0], .int .i64 c])) w' := by
 subst h
 exact ⟨.slice none 0 0, [], rfl, OwnG.nil, .nil hb⟩
theorem wrap_eqB {n r : Int} (h : n = r) (h0 : -9223372036854775808 ≤ r) (h1 : r < 9223372036854775808) : IntKind.i64.wrap n = r := by
 rw [h]; exact wrap_ok Ox Ox
theorem Kf {x b : Bool} (h : b = x) (hb : b = false := by first | rfl | exact decide_eq_false Ox | exact beq_eq_false_iff_ne.2 Ox | exact bne_eq_false_iff_eq.2 Ox | (simp; omega) | (simp; done)) : x = false := h.symm.trans hb
theorem Kt {x b : Bool} (h : b = x) (hb : b = true := by first | rfl | exact decide_eq_true Ox | exact beq_iff_eq.2 Ox | exact bne_iff_ne.2 Ox | (simp; omega) | (simp; done)) : x = true := h.symm.trans hb
abbrev ints (xs : List Int) : List Value := xs.map (.int .i64)
abbrev slV (a : Option Addr) (n c : Nat) : Value := .slice a n c
def ix (xs : List Int) (k : Nat) : Int := xs.getD k 0
theorem AS.open {w : World} {a : Option Addr} {xs : List Int} (h : AS w a (ints xs)) (hn : 0 < xs.length) :
    ∃ b off, a = some ⟨b, off, none⟩ ∧ b < w.heap.size ∧ ∀ j, j < xs.length → w.cell? ⟨b, off + j, none⟩ = some (.int .i64 (ix xs j)) := by
  unfold ix
  obtain ⟨b, off, rfl, hlt, hc⟩ := h (by intro e; simp only [List.map_eq_nil_iff] at e; subst e; simp at hn)
  refine ⟨b, off, rfl, hlt, fun j hj => ?_⟩; rw [hc j (by simpa using hj), List.getElem?_map, List.getD_eq_getElem?_getD, List.getElem?_eq_getElem hj]
  rfl
def betB (l n h : Int) : Bool := decide (l ≤ n ∧ n ≤ h)
def Fine (xs : List Int) (k : Nat) : Prop := ∀ i, i < k → (0 ≤ ix xs i ∧ ix xs i < xs.length) ∧ ∀ j, j < i → ix xs j ≠ ix xs i
def Perm (xs : List Int) : Prop := 1 ≤ xs.length ∧ xs.length ≤ 64 ∧ Fine xs xs.length
noncomputable instance (xs : List Int) : Decidable (Perm xs) := Classical.propDecidable _
noncomputable def permB (xs : List Int) : Bool := decide (Perm xs)
theorem permB_true {xs : List Int} (h : Perm xs) : permB xs = true := by unfold permB; exact decide_eq_true h
theorem permB_false {xs : List Int} (h : ¬ Perm xs) : permB xs = false := by unfold permB; exact decide_eq_false h
theorem perm_of {xs : List Int} (h : permB xs = true) : Perm xs := by unfold permB at h; exact of_decide_eq_true h
theorem not_perm_of {xs : List Int} (h : permB xs = false) : ¬ Perm xs := by unfold permB at h; exact of_decide_eq_false h
theorem Fine.succ {xs : List Int} {k : Nat} (h : Fine xs k) (h0 : 0 ≤ ix xs k) (h1 : ix xs k < xs.length) (h2 : ∀ j, j < k → ix xs j ≠ ix xs k) : Fine xs (k + 1) := by
 intro i hi
 by_cases he : i = k
 ·subst he; exact ⟨⟨h0, h1⟩, h2⟩
 exact h i Ox
theorem between_any (l n h : Int) (w : World) : Calls Tryz.prog 105 #[.int .i64 l, .int .i64 n, .int .i64 h] w fun e w' => e = .returned (.bool (betB l n h)) ∧ Below w.heap.size w w' := by
 go_enter Tryz.func105, Tryz.ntmps105
 refine wk_start ?_
 refine wk_seq ?_
 refine Wm [0] ?_
 refine Zr ?_
 refine Wm [0, 0, 0, 0, 0, 0, 0, 0, 0] ?_
 apply rg_softb
 case hy => (intro w hw; exact Gy)
 rintro (_ | _) h1 <;> try simp only [qd, ne_eq] at h1
 ·refine Zm ?_
  refine Zk ?_; refine Zr ?_
  refine Er fun w hw => ?_
  (try simp only [qz])
  exact ⟨by (simp [betB]; omega), hw.below⟩
 refine Zm ?_
 apply rg_soft_g
 case hg => rfl
 case hy => (intro w hw; exact Gy)
 simp only [qz]
 apply rg_soft_g
 case hg => rfl
 case hy => (intro w hw; exact Gy)
 simp only [qz]
 apply rg_soft_g
 case hg => rfl
 case hy => (intro w hw; exact Gy)
 simp only [qz]
 refine Zk ?_
 refine Zr ?_
 refine Er fun w hw => ?_
 (try simp only [qz])
 exact ⟨by simp [betB, h1], hw.below⟩
def FineM (xs : List Int) (m : Int) (k : Nat) : Prop := ∀ i, i < k → (0 ≤ ix xs i ∧ ix xs i < m) ∧ ∀ j, j < i → ix xs j ≠ ix xs i
theorem FineM.succ {xs : List Int} {m : Int} {k : Nat} (h : FineM xs m k) (h0 : 0 ≤ ix xs k) (h1 : ix xs k < m) (h2 : ∀ j, j < k → ix xs j ≠ ix xs k) : FineM xs m (k + 1) := by
 intro i hi
 by_cases he : i = k
 ·subst he; exact ⟨⟨h0, h1⟩, h2⟩
 exact h i Ox
theorem FineM.perm {xs : List Int} {m : Int} {k : Nat} (h : FineM xs m k) (hm : m = xs.length) (hk : k = xs.length) (h1 : 1 ≤ xs.length) (h2 : xs.length ≤ 64) : Perm xs := by
 subst hm hk
 exact ⟨h1, h2, h⟩
def Seen (xs : List Int) (k : Nat) (q : Nat) : Prop := q < 2 ^ 64 ∧ ∀ b, q.testBit b = true ↔ ∃ j, j < k ∧ ix xs j = (b : Int)
theorem Seen.zero (xs : List Int) : Seen xs 0 0 := ⟨by decide, fun b => by simp⟩
theorem Seen.hit {xs : List Int} {k q : Nat} (h : Seen xs k q) (h0 : 0 ≤ ix xs k) (hb : ((q / 2 ^ (ix xs k).toNat % 2 : Nat) : Int) = 1) : ∃ j, j < k ∧ ix xs j = ix xs k := by
 have ht : q.testBit (ix xs k).toNat = true := by rw [Nat.testBit_eq_decide_div_mod_eq]; exact decide_eq_true Ox
 obtain ⟨j, hj, e⟩ := (h.2 _).1 ht
 exact ⟨j, hj, by omega⟩
theorem Seen.miss {xs : List Int} {k q : Nat} (h : Seen xs k q) (h0 : 0 ≤ ix xs k) (hb : ¬ ((q / 2 ^ (ix xs k).toNat % 2 : Nat) : Int) = 1) : ∀ j, j < k → ix xs j ≠ ix xs k := by
 intro j hj e
 have ht : q.testBit (ix xs k).toNat = true := (h.2 _).2 ⟨j, hj, by omega⟩
 rw [Nat.testBit_eq_decide_div_mod_eq] at ht
 exact hb (by have := of_decide_eq_true ht; omega)
theorem Seen.succ {xs : List Int} {k q : Nat} (h : Seen xs k q) (h0 : 0 ≤ ix xs k) (h1 : ix xs k < 64) : Seen xs (k + 1) (q ||| 2 ^ (ix xs k).toNat) := by
 refine ⟨Nat.or_lt_two_pow h.1 (Nat.pow_lt_pow_right Ox Ox), fun b => ?_⟩
 rw [Nat.testBit_or, Bool.or_eq_true, h.2 b, Nat.testBit_two_pow]
 constructor
 ·rintro (⟨j, hj, e⟩ | e)
  ·exact ⟨j, by omega, e⟩
  exact ⟨k, by omega, by have := of_decide_eq_true e; omega⟩
 rintro ⟨j, hj, e⟩
 by_cases hjk : j = k
 ·subst hjk; exact .inr (decide_eq_true Ox)
 exact .inl ⟨j, by omega, e⟩
theorem and_bit (q : Nat) (hq : q < 2 ^ 64) (n : Nat) : bits .and .u64 ((q : Int) / 2 ^ n) 1 = ((q / 2 ^ n % 2 : Nat) : Int) := by
 have e : ((q : Int) / 2 ^ n) = ((q / 2 ^ n : Nat) : Int) := by simp
 have hlt : q / 2 ^ n < 2 ^ 64 := Nat.lt_of_le_of_lt (Nat.div_le_self _ _) hq
 have := (bits_nat .u64 64 (by decide) (fun n h0 h1 => IntWalk.u64_in n ⟨h0, by omega⟩) (q / 2 ^ n) 1 hlt (by decide)).1
 rw [e]
 rw [show (1 : Int) = ((1 : Nat) : Int) from rfl, this, Nat.and_one_is_mod]
theorem or_bit (q : Nat) (hq : q < 2 ^ 64) (n : Nat) (hn : n < 64) : bits .or .u64 (q : Int) (IntKind.u64.wrap (2 ^ n)) = ((q ||| 2 ^ n : Nat) : Int) := by
 have hlt : 2 ^ n < 2 ^ 64 := Nat.pow_lt_pow_right Ox hn
 have e : ((2 : Int) ^ n) = ((2 ^ n : Nat) : Int) := by simp
 rw [e]
 generalize 2 ^ n = z at hlt
 rw [IntWalk.u64_in _ ⟨by omega, by omega⟩]
 exact (bits_nat .u64 64 (by decide) (fun n h0 h1 => IntWalk.u64_in n ⟨h0, by omega⟩) q z hq hlt).2
theorem valid_any (xs : List Int) (a : Option Addr) (c : Nat) (hl : xs.length ≤ 1000) (w : World) (hA : AS w a (ints xs)) : Calls Tryz.prog 65 #[slV a xs.length c] w fun e w' => e = .returned (.bool (permB xs)) ∧ Below w.heap.size w w' := by
 go_enter Tryz.func65, Tryz.ntmps65
 refine wk_start ?_
 refine wk_seq ?_
 refine Wm [0] ?_
 refine Zr ?_
 refine Wm [0] ?_
 refine Zr ?_
 refine Wm [0, 0, 0] ?_
 refine Zk ?_
 refine Zr ?_
 refine wk_loopS [2, 3, 5, 8, 9, 10, 11, 12, 13, 14, 15, 16, 17, 18, 19, 20, 21, 22, 23, 24, 25, 26, 27, 28, 29, 30] (fun n vs s => ∃ (k q : Nat) (j5 j9 j10 j11 j12 j13 j14 j15 j16 j17 j18 j19 j20 j21 j22 j23 j24 j25 j26 j27 j28 j29 j30 : Value), vs = [.bool false, .int .u64 q, j5, .int .i64 k, j9, j10, j11, j12, j13, j14, j15, j16, j17, j18, j19, j20, j21, j22, j23, j24, j25, j26, j27, j28, j29, j30] ∧ s = [] ∧ n = xs.length - k ∧ k ≤ xs.length ∧ FineM xs (if 64 < (xs.length : Int) then 64 else (xs.length : Int)) k ∧ Seen xs k q) ((fun (k q : Nat) => xs.length - k) (0) (0)) ?_ Kx ?_
 ·dsimp only [Act.vals, List.map, Array.getD, List.size_toArray, List.length_cons, List.length_nil, Nat.reduceAdd, Nat.reduceLT, ↓reduceDIte, Array.getInternal, List.getElem_toArray, List.getElem_cons_zero, List.getElem_cons_succ]
  exact ⟨0, 0, _, _, _, _, _, _, _, _, _, _, _, _, _, _, _, _, _, _, _, _, _, _, _, rfl, rfl, rfl, by omega, fun i hi => by omega, Seen.zero xs⟩
 rintro n vs s ⟨k, q, j5, j9, j10, j11, j12, j13, j14, j15, j16, j17, j18, j19, j20, j21, j22, j23, j24, j25, j26, j27, j28, j29, j30, rfl, rfl, hn, hc1, hc2, hc3⟩
 simp only [Act.puts, Act.vals, List.zip_cons_cons, List.zip_nil_right, List.foldl_cons, List.foldl_nil, List.map_cons, List.map_nil, Act.put, Act.eval, List.setIfInBounds_toArray, List.set_cons_zero, List.set_cons_succ, Array.getD_eq_getD_getElem?, List.getElem?_toArray, List.getElem?_cons_zero, List.getElem?_cons_succ, Option.getD_some]
 refine wk_seq ?_
 refine Wr [0] ?_
 apply rg_softb
 case hy => (intro w hw; exact Gy)
 rintro (_ | _) h1 <;> try simp only [qd, ne_eq] at h1
 ·simp only [qz]
  refine Zr ?_; refine Wm [0, 0, 1, 0] ?_; refine Zk ?_; apply rg_pureb Rx Kx
  case hargs => exact Ax
  case h => exact fun w hw => between_any _ _ _ w
  case hz => exact Nz
  rintro (_ | _) h2 <;> try simp only [qd, ne_eq] at h2
  ·refine Zm ?_
   refine Zr ?_
   refine Er fun w hw => ?_
   (try simp only [qz])
   exact ⟨by rw [permB_false (by rintro ⟨p1, p2, p3⟩; have h9 := of_decide_eq_false h2; omega)], hw.below⟩
  refine Zm ?_; refine Zr ?_
  refine Er fun w hw => ?_
  (try simp only [qz])
  exact ⟨by rw [permB_true (hc2.perm (by have h9 := of_decide_eq_true h2; split <;> omega) Ox (by have h9 := of_decide_eq_true h2; omega) (by have h9 := of_decide_eq_true h2; omega))], hw.below⟩
 simp only [qz]
 obtain ⟨b, off, rfl, hlt, hcell⟩ := AS.open hA Ox
 have hck := hcell k Ox
 refine Zr ?_
 refine Wr [0, 0, 0] ?_
 refine Zk ?_
 apply rg_soft
 case hy => (intro w hw; have hcA := Kn.cellB hw hlt (by simp); exact Gy)
 refine Zm ?_
 refine Zr ?_
 refine Wm [0, 0, 0, 0, 0, 1, 0, 0, 0, 0, 0, 0, 0, 0] ?_
 refine Zk ?_
 refine Zk ?_
 refine Zk ?_
 apply rg_pureb Rx Kx
 case hargs => exact Ax
 case h => exact fun w hw => between_any _ _ _ w
 case hz => exact Nz
 rintro (_ | _) h3 <;> try simp only [qd, ne_eq] at h3
 ·simp only [qz]
  refine Zk ?_; refine Zk ?_; refine Zr ?_; refine Wm [0] ?_; refine Zr ?_
  refine Er fun w hw => ?_
  (try simp only [qz])
  exact ⟨by rw [permB_false (by rintro ⟨p1, p2, p3⟩; have := (p3 k Ox).1; have h9 := of_decide_eq_false h3; split at h9 <;> omega)], hw.below⟩
 simp only [qz]
 obtain ⟨hk0, hk1⟩ := of_decide_eq_true h3
 have hk2 : ix xs k < (if 64 < (xs.length : Int) then 64 else (xs.length : Int)) := by omega
 have hk3 : ix xs k < 64 := by (split at hk2 <;> omega)
 clear hk1
 have e1 := and_bit q hc3.1 (ix xs k).toNat
 have e2 := or_bit q hc3.1 (ix xs k).toNat Ox
 refine Zk ?_
 apply rg_soft_g
 case hg => rfl
 case hy => (intro w hw; exact Gy)
 simp only [qz]
 apply rg_soft_g
 case hg => rfl
 case hy => (intro w hw; exact Gy)
 simp only [qz]
 apply rg_soft_g
 case hg => rfl
 case hy => (intro w hw; exact Gy)
 simp only [qz]
 apply rg_soft_g
 case hg => rfl
 case hy => (intro w hw; exact Gy)
 simp only [qz]
 apply rg_softb_g
 case hg => rfl
 case hy => (intro w hw; exact Gy)
 rintro (_ | _) h4 <;> try simp only [qd, ne_eq] at h4
 ·simp only [qz]
  have hmiss := hc3.miss hk0 h4
  refine Zk ?_; refine Zr ?_; refine Wm [0, 0, 0, 0, 0] ?_; refine Zk ?_; refine Zk ?_; refine Zr ?_; refine Wr [0, 0] ?_; refine Zk ?_; refine rg_nil ?_; refine ek_roundS (xs.length - (k + 1)) Ox Kx ?_
  dsimp only [Act.vals, List.map, Array.getD, List.size_toArray, List.length_cons, List.length_nil, Nat.reduceAdd, Nat.reduceLT, ↓reduceDIte, Array.getInternal, List.getElem_toArray, List.getElem_cons_zero, List.getElem_cons_succ]
  exact ⟨k + 1, q ||| 2 ^ (ix xs k).toNat, _, _, _, _, _, _, _, _, _, _, _, _, _, _, _, _, _, _, _, _, _, _, _, by rfl, by rfl, by rfl, by omega, hc2.succ hk0 hk2 hmiss, hc3.succ hk0 hk3⟩
 simp only [qz]
 refine Zk ?_
 refine Zr ?_
 refine Wm [0] ?_
 refine Zr ?_
 refine Er fun w hw => ?_
 (try simp only [qz])
 exact ⟨by rw [permB_false (by rintro ⟨p1, p2, p3⟩; obtain ⟨j, hj, e⟩ := hc3.hit hk0 h4; exact (p3 k Ox).2 j hj e)], hw.below⟩
theorem ext_ix {xs ys : List Int} (hl : xs.length = ys.length) (h : ∀ j, j < xs.length → ix xs j = ix ys j) : xs = ys := by
 refine List.ext_getElem hl fun j h1 h2 => ?_
 have := h j h1
 unfold ix at this
 rw [List.getD_eq_getElem?_getD, List.getD_eq_getElem?_getD, List.getElem?_eq_getElem h1, List.getElem?_eq_getElem h2] at this
 exact this
theorem intInfo : (Tryz.prog.info? 3).map (fun i => (i.zero, i.size, i.bytes)) = some (some (.int .i64 0), 1, 8) := by kernel_rfl
theorem made_ints (n : Nat) : madeCells #[Value.int .i64 0] n = (ints (List.replicate n 0)).toArray := by
 unfold madeCells
 apply Array.ext'
 simp only [Array.toList_map, Array.toList_range]
 apply List.ext_getElem
 ·simp
 intro i h1 h2
 simp [Nat.mod_one]
def OwnI (u : List Blk) (v : Value) (xs : List Int) : Prop := Own 3 1 u v xs.length (ints xs)
theorem OwnI.whole {g : Nat} {xs : List Int} (h : xs.length ≤ 1000000) : OwnI [(g, .cells (ints xs).toArray 3)] (.slice (some ⟨g, 0, none⟩) xs.length xs.length) xs :=
  Own.whole (cur := (ints xs).toArray) (by simp) (by simp only [maxLen]; omega)
theorem OwnI.nil : OwnI [] (.slice none 0 0) [] := Own.nil _ _
def RetI (w : World) (f : Value → Value) (T : List Int → Prop) (e : Ending) (w' : World) : Prop := ∃ v u zs, e = .returned (f v) ∧ OwnI u v zs ∧ T zs ∧ Made w u w'
section
variable {R : Option Nat} {ops : Array Oper} {Q : Exit → Act → World → Prop} {B : World} {F : List Nat} {s0 : Option (List Blk × List Blk)}
variable {l : List (Oper × Nat)} {a : Act} {s S : List Blk} {d : Option Tmp} {op : Op} {t : TypeId} {p : String} {af : Array Edge} {v : Value}
theorem rg_makeI {lo co : Operand} {n : Nat} {gd : Option (Nat × Bool)} (hg : Region.wanted ⟨d, .makeSlice 23 lo co, t, p, af, gd⟩ (yielded ops a.tmps) = true) (hl : a.eval lo = .int .i64 n) (hc : a.eval co = .int .i64 n) (hn : n ≤ 1000000)
    (hzz : ∀ z ∈ s0, z.1.Sublist s) (h : ∀ g, Rg R Tryz.prog ops Q B F s0 l (a.put d (.slice (some ⟨g, 0, none⟩) n n)) ((g, .cells (ints (List.replicate n 0)).toArray 3) :: s)) :
    Rg R Tryz.prog ops Q B F s0 ((⟨d, .makeSlice 23 lo co, t, p, af, gd⟩, 1) :: l) a s := by
  obtain ⟨i, hi, hz, hs, hb⟩ := info_parts intInfo
  refine rg_make (i := i) (z := .int .i64 0) (n := n) hg UU23 hi hz hl hc (by rw [hb]; omega) Ox hzz fun g => ?_
  have : madeCells (Value.int .i64 0).cells (n * i.size) = (ints (List.replicate n 0)).toArray := by rw [hs, Nat.mul_one]; exact made_ints n
  rw [this]
  exact h g
end
theorem OwnI.whole' {g n : Nat} {xs : List Int} (hn : xs.length = n) (h : n ≤ 1000000) : OwnI [(g, .cells (ints xs).toArray 3)] (.slice (some ⟨g, 0, none⟩) n n) xs := by
 subst hn; exact OwnI.whole h
theorem OwnI.val {u : List Blk} {v : Value} {xs : List Int} (h : OwnI u v xs) : ∃ a c, v = .slice a xs.length c := let ⟨a, c, e, _⟩ := Own.val h; ⟨a, c, e⟩
theorem OwnI.as {u s : List Blk} {xs : List Int} {a : Option Addr} {n c : Nat} {B w : World} {F : List Nat} (h : OwnI u (.slice a n c) xs) (K : Kn B F (u ++ s) w) : AS w a (ints xs) := by
 obtain ⟨a', c', e, hA⟩ := Own.as h K
 cases e
 exact hA
theorem ints_cell {w : World} {g e : Nat} {zs : List Int} (h : Hd w g e (ints zs).toArray) {i : Nat} (hi : i < zs.length) : w.cell? ⟨g, i, none⟩ = some (.int .i64 (ix zs i)) := by
 rw [h.cell]
 simp [ix, List.getElem?_eq_getElem hi]
theorem ix_set {zs : List Int} {i : Nat} {x : Int} (j : Nat) (hi : i < zs.length) : ix (zs.set i x) j = if j = i then x else ix zs j := by
 unfold ix
 rw [List.getD_eq_getElem?_getD, List.getD_eq_getElem?_getD, List.getElem?_set]
 by_cases h : i = j
 ·subst h; simp [hi]
 rw [if_neg h, if_neg (fun e => h e.symm)]
def invTo (xs : List Int) : Nat → List Int
  | 0 => List.replicate xs.length 0
  | k + 1 => (invTo xs k).set (ix xs k).toNat k
def invL (xs : List Int) : List Int := invTo xs xs.length
theorem invTo_len (xs : List Int) : ∀ k, (invTo xs k).length = xs.length
  | 0 => by simp [invTo]
  | k + 1 => by simp [invTo, invTo_len xs k]
theorem valid_yes (xs : List Int) (a : Option Addr) (c : Nat) (hl : xs.length ≤ 1000) (hp : Perm xs) (w : World) (hA : AS w a (ints xs)) : Calls Tryz.prog 65 #[slV a xs.length c] w fun e w' => e = .returned (.bool true) ∧ Below w.heap.size w w' := by
 have := valid_any xs a c hl w hA; rwa [permB_true hp] at this
section
variable {R : Option Nat} {ops : Array Oper} {Q : Exit → Act → World → Prop} {B : World} {F : List Nat} {s0 : Option (List Blk × List Blk)}
variable {l : List (Oper × Nat)} {a : Act} {s S : List Blk} {d : Option Tmp} {op : Op} {t : TypeId} {p : String} {af : Array Edge} {v : Value}
theorem rg_retI {f : Nat} {cargs : Array Operand} {at_ : Array TypeId} {args : Array Value} {fv : Value → Value} {T : List Int → Prop} {gd : Option (Nat × Bool)} (hg : Region.wanted ⟨d, .call ⟨.value (.func f), cargs, at_⟩, t, p, af, gd⟩ (yielded ops a.tmps) = true) (hgo : isGo Tryz.prog f = true)
    (h : ∀ w, Kn B F s w → Calls Tryz.prog f args w (RetI w fv T)) (hargs : cargs.map a.eval = args) (hz : ∀ z ∈ s0, z.1.Sublist s)
    (k : ∀ v u zs, OwnI u v zs → T zs → Rg R Tryz.prog ops Q B F s0 l (a.put d (fv v)) (u ++ s)) :
    Rg R Tryz.prog ops Q B F s0 ((⟨d, .call ⟨.value (.func f), cargs, at_⟩, t, p, af, gd⟩, 1) :: l) a s :=
  rg_made (T := fun v u => ∃ v0 zs, v = fv v0 ∧ OwnI u v0 zs ∧ T zs) hg hgo (fun w K => (h w K).mono fun e w' ⟨v, u, zs, he, hO, hT, hm⟩ => ⟨fv v, u, he, ⟨v, zs, rfl, hO, hT⟩, hm⟩) hargs hz
    fun _ u ⟨v0, zs, e, hO, hT⟩ => by subst e; exact k v0 u zs hO hT
end
theorem invert_any (xs : List Int) (a : Option Addr) (c : Nat) (hl : xs.length ≤ 1000) (hp : Perm xs) (w : World) (hA : AS w a (ints xs)) : Calls Tryz.prog 64 #[slV a xs.length c] w fun e w' => RetI w (fun v => v) (fun zs => zs = invL xs) e w' := by
 go_enter Tryz.func64, Tryz.ntmps64
 refine wk_start ?_
 refine wk_seq ?_
 refine Wm [0] ?_
 refine Zr ?_
 refine Wm [0, 0, 1, 0] ?_
 refine Zk ?_
 refine rg_makeI (n := xs.length) Rx rfl rfl Ox Nz (fun g1 => ?_)
 refine Zm ?_
 refine Zr ?_
 refine Wm [0, 0, 0] ?_
 refine Zk ?_
 refine Zr ?_
 refine wk_loopS [4, 5, 11, 12, 13, 14, 15, 16, 17, 18, 19, 20] (fun n vs s => ∃ (k : Nat) (j4 j5 j12 j13 j14 j15 j16 j17 j18 j19 j20 : Value), vs = [j4, j5, .int .i64 k, j12, j13, j14, j15, j16, j17, j18, j19, j20] ∧ s = ((g1, .cells (ints (invTo xs k)).toArray 3) :: []) ∧ n = xs.length - k ∧ k ≤ xs.length) ((fun (k : Nat) => xs.length - k) (0)) ?_ Kx ?_
 ·dsimp only [Act.vals, List.map, Array.getD, List.size_toArray, List.length_cons, List.length_nil, Nat.reduceAdd, Nat.reduceLT, ↓reduceDIte, Array.getInternal, List.getElem_toArray, List.getElem_cons_zero, List.getElem_cons_succ]
  exact ⟨0, _, _, _, _, _, _, _, _, _, _, _, rfl, rfl, rfl, by omega⟩
 rintro n vs s ⟨k, j4, j5, j12, j13, j14, j15, j16, j17, j18, j19, j20, rfl, rfl, hn, hc1⟩
 simp only [Act.puts, Act.vals, List.zip_cons_cons, List.zip_nil_right, List.foldl_cons, List.foldl_nil, List.map_cons, List.map_nil, Act.put, Act.eval, List.setIfInBounds_toArray, List.set_cons_zero, List.set_cons_succ, Array.getD_eq_getD_getElem?, List.getElem?_toArray, List.getElem?_cons_zero, List.getElem?_cons_succ, Option.getD_some]
 refine wk_seq ?_
 refine Wr [0] ?_
 apply rg_softb
 case hy => (intro w hw; exact Gy)
 rintro (_ | _) h1 <;> try simp only [qd, ne_eq] at h1
 ·simp only [qz]
  refine Zr ?_; refine Wm [0, 0] ?_; refine Zr ?_
  refine Er fun w hw => ?_
  (try simp only [qz])
  exact ⟨_, _, _, rfl, OwnI.whole' (invTo_len xs _) Ox, (by rw [show k = xs.length by omega]; rfl), hw.made (List.Sublist.refl _)⟩
 simp only [qz]
 obtain ⟨b, off, rfl, hlt, hcell⟩ := AS.open hA Ox
 have hck := hcell k Ox
 obtain ⟨hp0, hp1⟩ := (hp.2.2 k Ox).1
 have hpl : (ix xs k).toNat < (invTo xs k).length := by (rw [invTo_len]; omega)
 refine Zr ?_
 refine Wm [0, 0, 0, 0, 0] ?_
 refine Zk ?_
 apply rg_soft
 case hy => (intro w hw; have hcA := Kn.cellB hw hlt (by simp); exact Gy)
 refine Zm ?_
 refine rg_nil (ek_next ?_)
 refine Wm [0, 0, 0, 0, 1] ?_
 refine Zk ?_
 apply rg_store
 case hr => (intro w hw; have hcg1 := ints_cell (Kn.hd0 hw) hpl; have hfg1 := (Kn.hd0 hw).free; refine ⟨_, by (go_simp; (try go_bits); exact Dne.mk _), ?_⟩; repeat (first | with_reducible exact hw | with_reducible apply Kn.put (Upd.here _ _ _)))
 case hz => (intro z hz; cases hz)
 simp only [qz]
 refine Zr ?_
 refine Wr [0, 0] ?_
 refine Zk ?_
 refine rg_nil ?_
 refine ek_roundS (xs.length - (k + 1)) Ox Kx ?_
 dsimp only [Act.vals, List.map, Array.getD, List.size_toArray, List.length_cons, List.length_nil, Nat.reduceAdd, Nat.reduceLT, ↓reduceDIte, Array.getInternal, List.getElem_toArray, List.getElem_cons_zero, List.getElem_cons_succ]
 exact ⟨k + 1, _, _, _, _, _, _, _, _, _, _, _, by rfl, by (simp only [ints, invTo, List.map_set]), by rfl, by omega⟩
theorem ix_cons_succ (x : Int) (t : List Int) (k : Nat) : ix (x :: t) (k + 1) = ix t k := rfl
theorem ix_get (l : List Int) (k : Nat) (h : k < l.length) : ix l k = l[k] := by
 unfold ix; rw [List.getD_eq_getElem?_getD, List.getElem?_eq_getElem h]; rfl
def cnt (x : Int) (t : List Int) : Nat := (t.filter fun y => decide (y < x)).length
def invs : List Int → Nat
  | [] => 0
  | x :: t => cnt x t + invs t
def swapAt : List Int → Nat → List Int
  | x :: y :: t, 0 => y :: x :: t
  | x :: t, k + 1 => x :: swapAt t k
  | l, _ => l
theorem swapAt_len : ∀ (l : List Int) (k : Nat), (swapAt l k).length = l.length
  | [], _ => by simp [swapAt]
  | [x], 0 => by simp [swapAt]
  | x :: y :: t, 0 => by simp [swapAt]
  | x :: t, k + 1 => by simp [swapAt, swapAt_len t k]
theorem swapAt_set : ∀ (l : List Int) (k : Nat), k + 1 < l.length → (l.set k (ix l (k + 1))).set (k + 1) (ix l k) = swapAt l k
  | [], k, h => by simp at h
  | [x], k, h => by simp at h
  | x :: y :: t, 0, h => by simp [swapAt, ix]
  | x :: y :: t, k + 1, h => by
    have := swapAt_set (y :: t) k (by simpa using h)
    simp only [swapAt, ix_cons_succ, List.set_cons_succ]; rw [← this]
    simp [ix]
theorem swapAt_perm : ∀ (l : List Int) (k : Nat), (swapAt l k).Perm l
  | [], _ => by simp [swapAt]
  | [x], 0 => by simp [swapAt]
  | x :: y :: t, 0 => List.Perm.swap x y t
  | x :: t, k + 1 => by simp only [swapAt]; exact (swapAt_perm t k).cons x
theorem cnt_perm (x : Int) {s t : List Int} (h : s.Perm t) : cnt x s = cnt x t := (h.filter _).length_eq
theorem invs_swap : ∀ (l : List Int) (k : Nat), k + 1 < l.length → ix l (k + 1) < ix l k → invs (swapAt l k) + 1 = invs l
  | [], k, h, _ => by simp at h
  | [x], k, h, _ => by simp at h
  | x :: y :: t, 0, _, h => by
    have hy : y < x := h
    have hx : ¬ x < y := by omega
    simp only [swapAt, invs, cnt, List.filter_cons, decide_eq_true hy, decide_eq_false hx, if_true, Bool.false_eq_true, if_false, List.length_cons]
    omega
  | x :: y :: t, k + 1, hk, h => by
    have := invs_swap (y :: t) k (by simpa using hk) h
    have hc := cnt_perm x (swapAt_perm (y :: t) k)
    simp only [swapAt, invs] at this ⊢; rw [hc]
    omega
def Up (l : List Int) (k : Nat) : Prop := ∀ j, j < k → ix l j < ix l (j + 1)
theorem up_invs : ∀ (l : List Int), (∀ j, j + 1 < l.length → ix l j < ix l (j + 1)) → invs l = 0
  | [], _ => rfl
  | [x], _ => rfl
  | x :: y :: t, h => by
    have ih := up_invs (y :: t) (fun j hj => h (j + 1) (by simpa using hj))
    have hmono : ∀ (t : List Int) (y : Int), (∀ j, j + 1 < (y :: t).length → ix (y :: t) j < ix (y :: t) (j + 1)) → ∀ z ∈ t, y < z := by
      intro t
      induction t with
      | nil => intro y _ z hz; cases hz
      | cons a t iht =>
        intro y hy z hz
        have h0 : y < a := hy 0 (by simp)
        rcases List.mem_cons.1 hz with rfl | hz
        · exact h0
        · have := iht a (fun j hj => hy (j + 1) (by simpa using hj)) z hz; omega
    have hc : cnt x (y :: t) = 0 := by
      unfold cnt
      have hall := hmono (y :: t) x h
      rw [List.filter_eq_nil_iff.2 (fun z hz => by have := hall z hz; simp; omega)]
      rfl
    simp only [invs] at ih ⊢
    omega
theorem invs_snoc : ∀ (l : List Int) (x : Int), invs (l ++ [x]) = invs l + (l.filter fun y => decide (x < y)).length
  | [], x => by simp [invs, cnt]
  | y :: t, x => by
    have ih := invs_snoc t x
    simp only [List.cons_append, invs, ih, cnt, List.filter_append, List.length_append, List.filter_cons, List.filter_nil]
    by_cases h : x < y
    · simp only [decide_eq_true h, if_true, List.length_cons, List.length_nil]; omega
    · simp only [decide_eq_false h, Bool.false_eq_true, if_false, List.length_nil]; omega
inductive Ex (xs : List Int) : List Nat → List Int → Prop
  | start : Ex xs [] xs
  | step {ys : List Nat} {l : List Int} {k : Nat} (h : Ex xs ys l) (hk : k + 1 < l.length) (hu : Up l k) (hd : ix l (k + 1) < ix l k) : Ex xs (ys ++ [k]) (swapAt l k)
theorem Ex.len {xs : List Int} {ys : List Nat} {l : List Int} (h : Ex xs ys l) : l.length = xs.length := by
 induction h with
 | start => rfl
 | step h _ _ _ ih => rw [swapAt_len, ih]
theorem Ex.perm {xs : List Int} {ys : List Nat} {l : List Int} (h : Ex xs ys l) : l.Perm xs := by
 induction h with
 | start => exact List.Perm.refl _
 | step h _ _ _ ih => exact (swapAt_perm _ _).trans ih
theorem Ex.invs {xs : List Int} {ys : List Nat} {l : List Int} (h : Ex xs ys l) : Proofs.YthjjkajjpejcdaaGreat.invs l + ys.length = Proofs.YthjjkajjpejcdaaGreat.invs xs := by
 induction h with
 | start => rfl
 | step h hk _ hd ih => have := invs_swap _ _ hk hd; rw [List.length_append]; simp only [List.length_cons, List.length_nil]; omega
theorem Perm.nodup {xs : List Int} (h : Perm xs) : xs.Nodup := by
 rw [List.nodup_iff_pairwise_ne, List.pairwise_iff_getElem]
 intro i j hi hj hij e
 have := (h.2.2 j hj).2 i hij
 rw [ix_get _ _ hi, ix_get _ _ hj] at this
 exact this e
theorem Ex.ne {xs : List Int} {ys : List Nat} {l : List Int} (h : Ex xs ys l) (hp : Perm xs) {k : Nat} (hk : k + 1 < l.length) (hn : ¬ ix l k < ix l (k + 1)) : ix l (k + 1) < ix l k := by
 have hnd : l.Nodup := h.perm.nodup_iff.2 hp.nodup
 rw [List.nodup_iff_pairwise_ne, List.pairwise_iff_getElem] at hnd
 have := hnd k (k + 1) Ox hk Ox
 rw [← ix_get _ _ Ox, ← ix_get _ _ hk] at this
 omega
section
variable {R : Option Nat} {ops : Array Oper} {Q : Exit → Act → World → Prop} {B : World} {F : List Nat} {s0 : Option (List Blk × List Blk)}
variable {l : List (Oper × Nat)} {a : Act} {s S : List Blk} {d : Option Tmp} {op : Op} {t : TypeId} {p : String} {af : Array Edge} {v : Value}
theorem rg_appendL {so xo : Operand} {u : List Blk} {xs ys : List Int} {b off c : Nat} {gd : Option (Nat × Bool)}
    (hg : Region.wanted ⟨d, .call ⟨.builtin .append, #[so, xo], #[23, 23]⟩, t, p, af, gd⟩ (yielded ops a.tmps) = true)
    (hs : a.eval so = v) (hown : OwnI u v xs) (hx : a.eval xo = .slice (some ⟨b, off, none⟩) ys.length c)
    (hr : ∀ w, Kn B F S w → ∀ j, j < ys.length → w.cell? ⟨b, off + j, none⟩ = some (.int .i64 (ix ys j))) (hn : xs.length + ys.length ≤ 1000000)
    (hp : S.Perm (u ++ s)) (hzz : ∀ z ∈ s0, z.1.Sublist s) (h : ∀ u' v', OwnI u' v' (xs ++ ys) → Rg R Tryz.prog ops Q B F s0 l (a.put d v') (u' ++ s)) :
    Rg R Tryz.prog ops Q B F s0 ((⟨d, .call ⟨.builtin .append, #[so, xo], #[23, 23]⟩, t, p, af, gd⟩, 1) :: l) a S := by
  obtain ⟨i, hi, hz, hsz, hb⟩ := info_parts intInfo
  refine rg_append (u := u) (s := s) (i := i) (z := .int .i64 0) (size := 1) (bytes := 8) (n := xs.length) (m := ys.length) (c := c) (xs := ints xs) (news := ints ys) (ad := ⟨b, off, none⟩) hg
    UU23 hi hz hsz hb rfl (by decide) hs hown hx (by simp) ?_ (by intro x hx; simp only [List.mem_map] at hx; obtain ⟨y, _, rfl⟩ := hx; rfl) (by simp only [maxLen]; omega) Ox hp hzz ?_
  · intro w K j y hj
    have hlt : j < ys.length := by have := (List.getElem?_eq_some_iff.1 hj).1; simpa using this
    have hc := hr w K j hlt
    have e : (⟨b, off, none⟩ : Addr).add j = ⟨b, off + j, none⟩ := by unfold Addr.add; split <;> simp_all
    rw [e, hc, ix_get _ _ hlt, ← hj]
    simp [hlt]
  · intro u' v' hO _
    have hO' : OwnI u' v' (xs ++ ys) := by
      have e : ints (xs ++ ys) = ints xs ++ ints ys := by simp
      unfold OwnI
      rw [e, List.length_append]
      exact hO
    exact h u' v' hO'
end
theorem OwnI.open {u : List Blk} {v : Value} {xs : List Int} (h : OwnI u v xs) (hn : 0 < xs.length) : ∃ g cap rest, u = [(g, .cells (ints xs ++ rest).toArray 3)] ∧ v = .slice (some ⟨g, 0, none⟩) xs.length cap := by
 obtain ⟨hl, ⟨rfl, rfl, h0⟩ | ⟨g, cap, cur, rfl, rfl, hc, hm, hs, ht⟩⟩ := h
 ·omega
 refine ⟨g, cap, cur.toList.drop (xs.length * 1), ?_, rfl⟩
 rw [← ht, List.take_append_drop]
theorem row_cell {w : World} {g e : Nat} {zs : List Int} {rest : List Value} (h : Hd w g e (ints zs ++ rest).toArray) {i : Nat} (hi : i < zs.length) : w.cell? ⟨g, i, none⟩ = some (.int .i64 (ix zs i)) := by
 rw [h.cell, ix_get _ _ hi]
 simp [List.getElem?_append_left, hi]
theorem row_set {zs : List Int} {rest : List Value} (i : Nat) (x : Int) (hi : i < zs.length) : (ints zs ++ rest).set i (.int .i64 x) = ints (zs.set i x) ++ rest := by
 rw [List.set_append_left _ _ (by simpa using hi)]
 simp [List.map_set]
theorem clone_any (xs : List Int) (a : Option Addr) (c : Nat) (hl : xs.length ≤ 1000) (h0 : 0 < xs.length) (w : World) (hA : AS w a (ints xs)) : Calls Tryz.prog 107 #[slV a xs.length c] w fun e w' => RetI w (fun v => v) (fun zs => zs = xs) e w' := by
 obtain ⟨b, off, rfl, hlt, hcell⟩ := AS.open hA h0
 go_enter Tryz.func107, Tryz.ntmps107
 refine wk_start ?_
 refine wk_seq ?_
 refine Wm [0] ?_
 refine Zr ?_
 refine Wm [0, 0] ?_
 apply rg_softb
 case hy => (intro w hw; exact Gy)
 intro x h1
 obtain rfl : x = false := Kf h1
 clear h1
 simp only [qz]
 refine Zr ?_
 refine Wr [1, 0, 1, 0] ?_
 refine rg_newS (cs := ?_) (ty := ?_) (n := 0) (c := 0) Rx (fun w => ?_) Nz (fun g1 => ?_); rotate_left 2
 focus (go_simp; rfl)
 refine Zm ?_
 refine rg_appendL (u := [(g1, .cells (ints []).toArray 3)]) (s := []) Rx rfl (OwnI.whole' rfl (by decide)) rfl (fun w K j hj => (Kn.cellB K hlt (by simp) _).trans (hcell j hj)) (by simp; omega) (List.Perm.refl _) Nz (fun u1 v1 hO1 => ?_)
 refine Zm ?_
 refine Zr ?_
 refine Er fun w hw => ?_
 (try simp only [qz])
 exact ⟨_, _, _, rfl, hO1, rfl, hw.made (by simp)⟩
def Rounds (lp : Nat) (r : Loop) (C : List Nat → List Blk → Prop) : Prop :=
  r.params.size = 1 ∧ (∀ ys s, C ys s → (lp, Obj.loop r) ∈ s) ∧
  ∀ (R : Option Nat) (B : World) (F : List Nat) (ys : List Nat) (k : Nat) (s rest : List Blk) (w : World), k < 64 → ys.length ≤ 2016 → C ys s → Kn B F (s ++ rest) w →
    RoundIn (FR R) 0 Tryz.prog lp r.fn ((r.params.zip #[Value.int .i64 k]).foldl (fun tmps (t, a) => tmps.setIfInBounds t a) r.tmps) r.assign r.body w
      (fun e w' => ∃ s', e = .returned (.bool true) ∧ C (ys ++ [k]) s' ∧ Kn B F (s' ++ rest) w')
section
variable {R : Option Nat} {ops : Array Oper} {Q : Exit → Act → World → Prop} {B : World} {F : List Nat}
theorem rg_yieldC {C : List Nat → List Blk → Prop} {lp : Nat} {r : Loop} {ys : List Nat} {k : Nat} {b : Blk} {s rest : List Blk} {a : Act} {d : Option Tmp} {fo : Operand} {cargs : Array Operand} {at_ : Array TypeId} {t : TypeId} {p : String} {af : Array Edge} {gd : Option (Nat × Bool)} {lst : List (Oper × Nat)}
    (hR : Rounds lp r C) (hC : C ys s) (hk : k < 64) (hy : ys.length ≤ 2016) (hg : Region.wanted ⟨d, .call ⟨.value fo, cargs, at_⟩, t, p, af, gd⟩ (yielded ops a.tmps) = true)
    (hf : a.eval fo = .func (.yield lp) #[] #[]) (hargs : cargs.map a.eval = #[.int .i64 k])
    (h : ∀ s', C (ys ++ [k]) s' → Rg R Tryz.prog ops Q B F none lst (a.put d (.bool true)) (b :: (s' ++ rest))) :
    Rg R Tryz.prog ops Q B F none ((⟨d, .call ⟨.value fo, cargs, at_⟩, t, p, af, gd⟩, 1) :: lst) a (b :: (s ++ rest)) := by
  refine rg_yield (r := r) hg hf hargs hR.1.symm (List.mem_cons_of_mem _ (List.mem_append_left _ (hR.2.1 ys s hC))) fun w K => ?_
  refine (hR.2.2 R B F ys k s (b :: rest) w hk hy hC (K.perm List.perm_middle.symm)).mono fun e w' ⟨s', he, hC', hK⟩ => ⟨_, _, he, hK.perm List.perm_middle, h s' hC'⟩
end
theorem fold_zipS {γ : Type} (f : γ → Nat × Value → γ) (t : γ) (p : Nat) (v : Value) : Array.foldl f t (#[p].zip #[v]) = f t (p, v) := by
 have e : (#[p].zip #[v]) = #[(p, v)] := by rw [List.zip_toArray]; rfl
 rw [e]; simp
theorem row_cell2 {w : World} {g e : Nat} {zs : List Int} {rest : List Value} {j : Nat} {x : Int} (h : Hd w g e ((ints zs ++ rest).set j (.int .i64 x)).toArray) {i : Nat} (hi : i < zs.length) : w.cell? ⟨g, i, none⟩ = some (.int .i64 (if i = j then x else ix zs i)) := by
 rw [h.cell, ix_get _ _ hi]
 have hl : i < (ints zs ++ rest).length := by simp; omega
 rw [List.getElem?_toArray, List.getElem?_set]
 by_cases e : j = i
 ·subst e; rw [if_pos rfl, if_pos rfl, if_pos hl]
 rw [if_neg e, if_neg (fun h => e h.symm)]; simp [List.getElem?_append_left, hi]
theorem invs_le : ∀ (l : List Int), l.length ≤ 64 → invs l ≤ 2016
  | l, h => by
    have key : ∀ l : List Int, 2 * invs l ≤ l.length * (l.length - 1) := by
      intro l
      induction l with
      | nil => simp [invs]
      | cons x t ih =>
        have hc : cnt x t ≤ t.length := List.length_filter_le _ _
        simp only [invs, List.length_cons, Nat.add_sub_cancel]
        rcases Nat.eq_zero_or_pos t.length with h0 | h0
        · rw [h0] at ih hc ⊢; omega
        · obtain ⟨n, hn⟩ : ∃ n, t.length = n + 1 := ⟨t.length - 1, by omega⟩
          rw [hn] at ih hc ⊢; simp only [Nat.add_sub_cancel] at ih
          have e1 : (n + 1 + 1) * (n + 1) = (n + 1) * n + 2 * (n + 1) := by simp only [Nat.add_mul, Nat.mul_add]; omega
          omega
    have h1 := key l
    have h2 : l.length * (l.length - 1) ≤ 64 * 63 := Nat.mul_le_mul h Ox
    omega
theorem exch_any (xs : List Int) (a : Option Addr) (c : Nat) (hl : xs.length ≤ 1000) (hp : Perm xs) (lp gp : Nat) (r : Loop) (C : List Nat → List Blk → Prop) (hR : Rounds lp r C) (s0 : List Blk) (hC0 : C [] s0) (w : World) (F : List Nat) (K : Kn w F (s0 ++ [(gp, .cells #[slV a xs.length c] 23)]) w) (hA : AS w a (ints xs)) (hF : ∀ b off, a = some ⟨b, off, none⟩ → b ∉ F) : Calls Tryz.prog 106 #[.func (.yield lp) #[] #[], .pointer (some ⟨gp, 0, none⟩)] w fun e w' => e = .returned (.tuple #[]) ∧ ∃ ys l s u, Ex xs ys l ∧ (∀ j, j + 1 < l.length → ix l j < ix l (j + 1)) ∧ C ys s ∧ Kn w F (s ++ u) w' := by
 have h0 : 0 < xs.length := hp.1
 go_enter Tryz.func106, Tryz.ntmps106
 refine wk_startF K ?_
 refine wk_seq ?_
 refine Wr [0, 1, 0] ?_
 apply rg_soft
 case hy => (intro w hw; obtain ⟨hcgp, hfgp⟩ := (Kn.hd0 (Kn.tlU hw)).facts; exact Gy)
 simp only [qz]
 apply rg_retI Rx Kx
 case hargs => exact Ax
 case h => exact fun w hw => clone_any xs a c hl h0 w (hA.kn hw hF)
 case hz => exact Nz
 intro v1 u1 z1 hO1 hT1
 refine Zm ?_
 refine Zr ?_
 rw [hT1] at hO1
 clear hT1
 obtain ⟨g, cap, rest, rfl, rfl⟩ := hO1.open h0
 simp only [List.cons_append, List.nil_append]
 refine wk_loopS [4, 7, 8, 9, 10, 11, 12, 13, 14, 15, 16, 17, 18, 19, 20, 21, 22, 23, 24, 25, 26, 27, 28, 29, 30, 31, 32, 33, 34, 35, 36, 37, 38, 39, 40, 41, 42, 43, 44, 45, 46, 47, 48, 49, 50, 51, 52] (fun n vs s => ∃ (ys : List Nat) (l : List Int) (uC : List Blk) (j4 j7 j8 j9 j10 j11 j12 j13 j14 j15 j16 j17 j18 j19 j20 j21 j22 j23 j24 j25 j26 j27 j28 j29 j30 j31 j32 j33 j34 j35 j36 j37 j38 j39 j40 j41 j42 j43 j44 j45 j46 j47 j48 j49 j50 j51 j52 : Value), vs = [j4, j7, j8, j9, j10, j11, j12, j13, j14, j15, j16, j17, j18, j19, j20, j21, j22, j23, j24, j25, j26, j27, j28, j29, j30, j31, j32, j33, j34, j35, j36, j37, j38, j39, j40, j41, j42, j43, j44, j45, j46, j47, j48, j49, j50, j51, j52] ∧ s = ((g, .cells (ints l ++ rest).toArray 3) :: (uC ++ ((gp, .cells #[slV a xs.length c] 23) :: []))) ∧ n = invs l ∧ Ex xs ys l ∧ C ys uC) ((fun (ys : List Nat) (l : List Int) (uC : List Blk) => invs l) ([]) (xs) (s0)) ?_ Kx ?_
 ·dsimp only [Act.vals, List.map, Array.getD, List.size_toArray, List.length_cons, List.length_nil, Nat.reduceAdd, Nat.reduceLT, ↓reduceDIte, Array.getInternal, List.getElem_toArray, List.getElem_cons_zero, List.getElem_cons_succ]
  exact ⟨[], xs, s0, _, _, _, _, _, _, _, _, _, _, _, _, _, _, _, _, _, _, _, _, _, _, _, _, _, _, _, _, _, _, _, _, _, _, _, _, _, _, _, _, _, _, _, _, _, _, _, rfl, rfl, rfl, .start, hC0⟩
 rintro n vs s ⟨ys, l, uC, j4, j7, j8, j9, j10, j11, j12, j13, j14, j15, j16, j17, j18, j19, j20, j21, j22, j23, j24, j25, j26, j27, j28, j29, j30, j31, j32, j33, j34, j35, j36, j37, j38, j39, j40, j41, j42, j43, j44, j45, j46, j47, j48, j49, j50, j51, j52, rfl, rfl, hn, hc1, hc2⟩
 simp only [Act.puts, Act.vals, List.zip_cons_cons, List.zip_nil_right, List.foldl_cons, List.foldl_nil, List.map_cons, List.map_nil, Act.put, Act.eval, List.setIfInBounds_toArray, List.set_cons_zero, List.set_cons_succ, Array.getD_eq_getD_getElem?, List.getElem?_toArray, List.getElem?_cons_zero, List.getElem?_cons_succ, Option.getD_some]
 have hE := hc1
 have hCu := hc2
 clear hc1 hc2
 refine wk_block (wk_seq ?_)
 refine Wm [0] ?_
 refine Zr ?_
 refine wk_loopS [4, 7, 8, 9, 10, 11, 12, 13, 14, 15, 16, 17, 18, 19, 20, 21, 22, 23, 24, 25] (fun n vs s => ∃ (k : Nat) (j7 j8 j9 j10 j11 j12 j13 j14 j15 j16 j17 j18 j19 j20 j21 j22 j23 j24 j25 : Value), vs = [.int .i64 k, j7, j8, j9, j10, j11, j12, j13, j14, j15, j16, j17, j18, j19, j20, j21, j22, j23, j24, j25] ∧ s = ((g, .cells (ints l ++ rest).toArray 3) :: (uC ++ ((gp, .cells #[slV a xs.length c] 23) :: []))) ∧ n = xs.length - k ∧ k < xs.length ∧ Up l k) ((fun (k : Nat) => xs.length - k) (0)) ?_ Kx ?_
 ·dsimp only [Act.vals, List.map, Array.getD, List.size_toArray, List.length_cons, List.length_nil, Nat.reduceAdd, Nat.reduceLT, ↓reduceDIte, Array.getInternal, List.getElem_toArray, List.getElem_cons_zero, List.getElem_cons_succ]
  exact ⟨0, _, _, _, _, _, _, _, _, _, _, _, _, _, _, _, _, _, _, _, rfl, rfl, rfl, h0, fun j hj => by omega⟩
 rintro n vs s ⟨k, j7, j8, j9, j10, j11, j12, j13, j14, j15, j16, j17, j18, j19, j20, j21, j22, j23, j24, j25, rfl, rfl, hn, hd1, hd2⟩
 simp only [Act.puts, Act.vals, List.zip_cons_cons, List.zip_nil_right, List.foldl_cons, List.foldl_nil, List.map_cons, List.map_nil, Act.put, Act.eval, List.setIfInBounds_toArray, List.set_cons_zero, List.set_cons_succ, Array.getD_eq_getD_getElem?, List.getElem?_toArray, List.getElem?_cons_zero, List.getElem?_cons_succ, Option.getD_some]
 have hkl := hd1
 refine wk_seq (wk_seq ?_)
 refine wk_draws _ _ [(0, 0), (1, 0), (2, 0), (3, 0), (4, 0), (5, 0), (6, 0), (7, 0), (8, 0), (9, 0), (10, 0), (11, 0), (12, 0), (13, 0), (14, 0), (15, 0), (16, 0)] [] Kx Kx (fun c d v a w h => by cases d <;> exact h) ((List.Sublist.cons₂ _ (Sa (List.Sublist.cons₂ _ List.Sublist.slnil) _))) (fun e => by first | exact absurd e (by decide) | rfl) ?_
 simp only [List.map_cons, List.map_nil, List.getD_cons_zero, List.getD_cons_succ]
 refine Zm ?_
 refine Zk ?_
 refine Zk ?_
 apply rg_softb
 case hy => (intro w hw; exact Gy)
 rintro (_ | _) h1 <;> try simp only [qd, ne_eq] at h1
 ·simp only [qz]
  have hdone : ∀ j, j + 1 < l.length → ix l j < ix l (j + 1) := fun j hj => hd2 j (by (rw [hE.len] at hj; omega))
  refine Zm ?_; refine Zk ?_; refine Zr ?_; refine Wm [0, 0, 0, 0, 0, 0, 0, 0, 1, 0, 0] ?_; refine Zk ?_; refine Zk ?_; apply rg_softb
  case hy => (intro w hw; exact Gy)
  intro x h2
  obtain rfl : x = true := Kt h2
  clear h2; refine Zm ?_; refine rg_skip_h Rx Nz ?_; refine Zm ?_; refine Zk ?_; refine Zr ?_; refine ek_ret (fun w hw => ⟨rfl, _, res_0 rfl, ?_⟩); (try simp only [qz])
  exact ⟨(by first | rfl | trivial), ys, l, uC, _, hE, hdone, hCu, hw.perm List.perm_middle.symm⟩
 simp only [qz]
 have hck := (trivial : True)
 refine Zm ?_
 apply rg_soft_g
 case hg => rfl
 case hy => (intro w hw; exact Gy)
 simp only [qz]
 apply rg_soft_g
 case hg => rfl
 case hy => (intro w hw; exact Gy)
 simp only [qz]
 apply rg_soft_g
 case hg => rfl
 case hy => (intro w hw; exact Gy)
 simp only [qz]
 apply rg_soft_g
 case hg => rfl
 case hy => (intro w hw; (first | have hcg := fun i (hi : i < l.length) => row_cell (Kn.hd0 hw) hi | have hcg := fun i (hi : i < l.length) => row_cell2 (Kn.hd0 hw) hi); have hfg := (Kn.hd0 hw).free; have hlL := hE.len; (try have hcg0 := hcg k Ox); (try have hcg1 := hcg (k + 1) Ox); clear hcg hlL; exact Gy)
 simp only [qz]
 apply rg_soft_g
 case hg => rfl
 case hy => (intro w hw; exact Gy)
 simp only [qz]
 apply rg_soft_g
 case hg => rfl
 case hy => (intro w hw; exact Gy)
 simp only [qz]
 apply rg_soft_g
 case hg => rfl
 case hy => (intro w hw; exact Gy)
 simp only [qz]
 apply rg_soft_g
 case hg => rfl
 case hy => (intro w hw; exact Gy)
 simp only [qz]
 apply rg_soft_g
 case hg => rfl
 case hy => (intro w hw; (first | have hcg := fun i (hi : i < l.length) => row_cell (Kn.hd0 hw) hi | have hcg := fun i (hi : i < l.length) => row_cell2 (Kn.hd0 hw) hi); have hfg := (Kn.hd0 hw).free; have hlL := hE.len; (try have hcg0 := hcg k Ox); (try have hcg1 := hcg (k + 1) Ox); clear hcg hlL; exact Gy)
 simp only [qz]
 apply rg_softb_g
 case hg => rfl
 case hy => (intro w hw; exact Gy)
 rintro (_ | _) h3 <;> try simp only [qd, ne_eq] at h3
 ·simp only [qz]
  have hll := Lib.hid hE.len
  have hdesc := hE.ne hp (by (have := hll.out; omega)) (by omega : ¬ ix l k < ix l (k + 1))
  have hyl : ys.length ≤ 2016 := by (have h1 := hE.invs; have h2 := invs_le xs hp.2.1; omega)
  have hx64 : xs.length ≤ 64 := hp.2.1
  have hkk : k < xs.length := by omega
  have hk2 : k + 1 < xs.length := by omega
  have hk1 : k + 1 < l.length := by (have := hll.out; omega)
  refine Zk ?_; refine Zr ?_; refine Wm [0, 0, 0, 0, 0, 0, 0, 0, 1, 0, 0] ?_; refine Zk ?_; refine Zk ?_; apply rg_softb
  case hy => (intro w hw; exact Gy)
  intro x h4
  obtain rfl : x = false := Kf h4
  clear h4; refine Zm ?_; apply rg_soft_g
  case hg => rfl
  case hy => (intro w hw; exact Gy)
  simp only [qz]; apply rg_soft_g
  case hg => rfl
  case hy => (intro w hw; exact Gy)
  simp only [qz]; refine rg_yieldC (k := k) hR hCu Ox Ox Rx rfl (by simp only [qm, qs, Act.eval]) (fun uD hCD => ?_); simp only [qz]; apply rg_soft_g
  case hg => rfl
  case hy => (intro w hw; exact Gy)
  simp only [qz]; refine Zk ?_; refine Zr ?_; refine wk_draws_m (hz1 := (List.Sublist.cons _ (Sa (List.Sublist.cons₂ _ List.Sublist.slnil) _))) [(0, 0), (1, 0), (2, 3), (3, 3), (4, 3), (5, 0), (6, 0), (7, 0), (8, 0), (9, 0), (10, 3), (11, 3), (12, 3), (13, 0), (14, 0), (15, 2), (16, 0), (17, 1)] 15 Kx Kx (fun c d v a w h => by cases d <;> exact h) ?_; simp only [List.map_cons, List.map_nil, List.getD_cons_zero, List.getD_cons_succ]
  refine Zm ?_; refine rg_moveP ?_; simp only [qz]; refine rg_moveP ?_; simp only [qz]; apply rg_softP
  case hy => (intro w hw; exact Gy)
  refine Zm ?_; refine Zk ?_; refine Zk ?_; apply rg_soft
  case hy => (intro w hw; (first | have hcg := fun i (hi : i < l.length) => row_cell (Kn.hd0 hw) hi | have hcg := fun i (hi : i < l.length) => row_cell2 (Kn.hd0 hw) hi); have hfg := (Kn.hd0 hw).free; have hlL := hE.len; (try have hcg0 := hcg k Ox); (try have hcg1 := hcg (k + 1) Ox); clear hcg hlL; exact Gy)
  simp only [qz]; refine rg_moveP ?_; simp only [qz]; refine rg_moveP ?_; simp only [qz]; apply rg_softP
  case hy => (intro w hw; exact Gy)
  simp only [qz]; apply rg_soft
  case hy => (intro w hw; (first | have hcg := fun i (hi : i < l.length) => row_cell (Kn.hd0 hw) hi | have hcg := fun i (hi : i < l.length) => row_cell2 (Kn.hd0 hw) hi); have hfg := (Kn.hd0 hw).free; have hlL := hE.len; (try have hcg0 := hcg k Ox); (try have hcg1 := hcg (k + 1) Ox); clear hcg hlL; exact Gy)
  simp only [qz]; refine Zk ?_; apply rg_storeM
  case hr => (intro w hw; (first | have hcg := fun i (hi : i < l.length) => row_cell (Kn.hd0 hw) hi | have hcg := fun i (hi : i < l.length) => row_cell2 (Kn.hd0 hw) hi); have hfg := (Kn.hd0 hw).free; have hlL := hE.len; (try have hcg0 := hcg k Ox); (try have hcg1 := hcg (k + 1) Ox); clear hcg hlL; refine ⟨_, by (go_simp; (try go_bits); exact Dne.mk _), ?_⟩; repeat (first | with_reducible exact hw | with_reducible apply Kn.put (Upd.here _ _ _)))
  case hz => exact (List.Sublist.cons _ (Sa (List.Sublist.cons₂ _ List.Sublist.slnil) _))
  simp only [qz]; refine Zk ?_; apply rg_store
  case hr => (intro w hw; (first | have hcg := fun i (hi : i < l.length) => row_cell (Kn.hd0 hw) hi | have hcg := fun i (hi : i < l.length) => row_cell2 (Kn.hd0 hw) hi); have hfg := (Kn.hd0 hw).free; have hlL := hE.len; (try have hcg0 := hcg k Ox); (try have hcg1 := hcg (k + 1) Ox); clear hcg hlL; refine ⟨_, by (go_simp; (try go_bits); exact Dne.mk _), ?_⟩; repeat (first | with_reducible exact hw | with_reducible apply Kn.put (Upd.here _ _ _)))
  case hz => (intro z hz; cases hz; exact (List.Sublist.cons _ (Sa (List.Sublist.cons₂ _ List.Sublist.slnil) _)))
  simp only [qz]; refine rg_nil (ek_block ?_); refine ek_roundS (invs (swapAt l k)) (by (have := invs_swap l k hk1 hdesc; omega)) Kx ?_
  dsimp only [Act.vals, List.map, Array.getD, List.size_toArray, List.length_cons, List.length_nil, Nat.reduceAdd, Nat.reduceLT, ↓reduceDIte, Array.getInternal, List.getElem_toArray, List.getElem_cons_zero, List.getElem_cons_succ]
  exact ⟨ys ++ [k], swapAt l k, uD, _, _, _, _, _, _, _, _, _, _, _, _, _, _, _, _, _, _, _, _, _, _, _, _, _, _, _, _, _, _, _, _, _, _, _, _, _, _, _, _, _, _, _, _, _, _, _, by rfl, by (rw [← swapAt_set l k hk1, row_set _ _ Ox, row_set _ _ (by simp; omega)]), by rfl, .step hE hk1 hd2 hdesc, hCD⟩
 simp only [qz]
 refine Zk ?_
 refine Zr ?_
 refine Wm [0, 0, 0] ?_
 refine Zk ?_
 refine rg_nil (ek_block ?_)
 refine ek_roundS (xs.length - (k + 1)) Ox Kx ?_
 dsimp only [Act.vals, List.map, Array.getD, List.size_toArray, List.length_cons, List.length_nil, Nat.reduceAdd, Nat.reduceLT, ↓reduceDIte, Array.getInternal, List.getElem_toArray, List.getElem_cons_zero, List.getElem_cons_succ]
 exact ⟨k + 1, _, _, _, _, _, _, _, _, _, _, _, _, _, _, _, _, _, _, _, by rfl, by rfl, by rfl, by omega, fun j hj => if e : j = k then e ▸ h3 else hd2 j Ox⟩
theorem AS.fresh {B w : World} {s : List Blk} {a : Option Addr} {xs : List Value} (h : AS B a xs) (hn : xs ≠ []) (K : Kn B [] s w) {G : List Nat} (hG : ∀ g ∈ G, g ∈ s.map (·.1)) : ∀ b off, a = some ⟨b, off, none⟩ → b ∉ G := by
 intro b off e hb
 obtain ⟨b', off', e', hlt, _⟩ := h hn
 rw [e] at e'
 cases e'
 obtain ⟨x, hx, rfl⟩ := List.mem_map.1 (hG b hb)
 have := (K.new x hx).resolve_left (by simp)
 omega
theorem ex_loopS {B w : World} {F : List Nat} {s : List Blk} {l : Nat} {r : Loop} (K : Kn B F ((l, .loop r) :: s) w) : ∃ r', r' = r := ⟨_, rfl⟩
theorem ints_ne {xs : List Int} (h : 0 < xs.length) : ints xs ≠ [] := by intro e; simp only [List.map_eq_nil_iff] at e; subst e; simp at h
theorem exchanges_any (xs : List Int) (a : Option Addr) (c : Nat) (w : World) : Calls Tryz.prog 66 #[slV a xs.length c] w fun e w' => ∃ gp, e = .returned (.func (.func 106) #[] #[.pointer (some ⟨gp, 0, none⟩)]) ∧ Made w [(gp, .cells #[slV a xs.length c] 23)] w' := by
 go_enter Tryz.func66, Tryz.ntmps66
 refine wk_start ?_
 refine wk_seq ?_
 refine Wr [1, 0] ?_
 refine Rgn fun g1 => ?_
 refine Zm ?_
 refine Zr ?_
 refine Wr [0, 0] ?_
 refine Zk ?_
 refine Zr ?_
 refine Er fun w hw => ?_
 (try simp only [qz])
 exact ⟨g1, (by first | rfl | trivial), hw.made (List.Sublist.refl _)⟩
theorem inversions_yes (xs : List Int) (a : Option Addr) (c : Nat) (hl : xs.length ≤ 1000) (hp : Perm xs) (w : World) (hA : AS w a (ints xs)) : Calls Tryz.prog 24 #[slV a xs.length c] w fun e w' => e = .returned (.tuple #[.int .i64 (invs xs : Int), .int .i64 0]) ∧ Below w.heap.size w w' := by
 refine calls_marks Tryz.func24 rfl ?_
 simp only [Tryz.ntmps24, List.size_toArray, List.length_cons, List.length_nil, Nat.reduceAdd, Nat.reduceSub, Array.replicate_succ, Array.replicate_zero, List.push_toArray, List.append_toArray, List.nil_append, List.cons_append]
 refine wk_seq ?_
 refine Wm [0, 0] ?_
 refine Zr ?_
 refine Wm [0, 1, 0] ?_
 apply rg_pure Rx Kx
 case hargs => exact Ax
 case h => exact fun w hw => valid_yes xs a c hl hp w (hA.kn0 hw)
 case hz => exact Nz
 simp only [qz]
 refine Zk ?_
 refine Zr ?_
 refine Wr [1, 1] ?_
 refine Rgn fun g1 => ?_
 simp only [qz]
 apply rg_store
 case hr => (intro w hw; obtain ⟨hcg1, hfg1⟩ := (Kn.hd0 hw).facts; refine ⟨_, by (go_simp; (try go_bits); exact Dne.mk _), ?_⟩; repeat (first | with_reducible exact hw | with_reducible apply Kn.put (Upd.here _ _ _)))
 case hz => (intro z hz; cases hz)
 simp only [qz]
 refine Zr ?_
 refine Wm [0, 1] ?_
 apply rg_made (T := fun v u => ∃ gp, v = .func (.func 106) #[] #[.pointer (some ⟨gp, 0, none⟩)] ∧ u = [(gp, .cells #[slV a xs.length c] 23)]) Rx Kx
 case hargs => exact Ax
 case h => exact fun w hw => (exchanges_any xs a c w).mono (fun e w' ⟨gp, he, hm⟩ => ⟨_, _, he, ⟨gp, rfl, rfl⟩, hm⟩)
 case hz => exact Nz
 rintro v1 u1 ⟨gp, rfl, rfl⟩
 simp only [List.cons_append, List.nil_append]
 simp only [qz]
 refine rg_nil (ek_next (wk_block ?_))
 refine wk_rangeFunc (f := 106) (caps := #[.pointer (some ⟨gp, 0, none⟩)]) rfl Kx ?_
 intro fn dd lp w1 K1
 obtain ⟨r, hr⟩ := ex_loopS K1
 rw [← hr] at K1
 have K2 := K1.perm (s' := [_, _, _, _]) (List.Perm.cons _ ((List.perm_append_comm (l₁ := [_]) (l₂ := [_, _])).trans (List.Perm.swap _ _ _)))
 have K3 := Kn.self (v := [_, _, _]) (rest := [_]) K2
 have hR : Rounds lp r (fun ys s => s = [(lp, .loop r), (g1, .cells #[.int .i64 (ys.length : Int)] 3)]) := by
  subst hr
  refine ⟨rfl, fun ys s e => by subst e; simp, ?_⟩; intro R B F ys k s rest w hk hy hs K
  subst hs
  simp only [List.cons_append, List.nil_append] at K; refine roundIn_kn (Rep.here _) rfl ?_ K; refine wk_skip ?_; refine ek_asg ?_; refine wk_block ?_; refine Wr [0, 0, 1] ?_; apply rg_soft
  case hy => (intro w hw; obtain ⟨hcg1, hfg1⟩ := (Kn.hd0 (Kn.tl hw)).facts; exact Gy)
  simp only [qz]; refine Zk ?_; apply rg_store
  case hr => (intro w hw; obtain ⟨hcg1, hfg1⟩ := (Kn.hd0 (Kn.tl hw)).facts; refine ⟨_, by (go_simp; (try go_bits); exact Dne.mk _), ?_⟩; repeat (first | with_reducible exact hw | with_reducible apply Kn.put (Upd.there _ (Upd.here _ _ _))))
  case hz => (intro z hz; cases hz)
  simp only [qz]; refine rg_nil (ek_block ?_); refine ek_roundEnd (Rep.here _) (fun w hw => ⟨_, rfl, rfl, ?_⟩); simp only [List.length_append, List.length_cons, List.length_nil]
  exact hw
 have hpend : r.pending = none := by subst hr; rfl
 have hst : r.state ≠ .busy := by (subst hr; simp)
 clear hr
 refine (exch_any xs a c hl hp lp gp r _ hR [_, _] rfl w1 _ K3 (hA.kn0 K1) (hA.fresh (ints_ne hp.1) K1 (by simp))).mono ?_
 rintro e w2 ⟨rfl, ys, l, _, u, hE, hdone, rfl, hK⟩
 have K4 := Kn.effApp (v := [_, _, _]) (rest := [_]) K2 hK
 refine ⟨_, _, r, _, rfl, K4, Rep.here _, hst, ?_⟩
 rw [hpend]
 simp only [List.cons_append, List.nil_append]
 have hcount : invs xs = ys.length := by (have h1 := hE.invs; have h2 := up_invs l hdone; omega)
 refine ek_block (ek_next (wk_seq ?_))
 refine Wr [0, 0, 0] ?_
 apply rg_soft
 case hy => (intro w hw; obtain ⟨hcg1, hfg1⟩ := (Kn.hd0 (Kn.tl hw)).facts; exact Gy)
 refine Zm ?_
 refine Zr ?_
 refine ek_retM1 (Rep.there _ (Rep.there _ (Rep.app _ (Rep.here _)))) (fun w hw => ⟨_, res_tt _ _ rfl, ?_⟩)
 (try simp only [qz])
 exact ⟨by rw [hcount], hw.below⟩
structure It where
  kind : Int
  at_ : Int
  n : Int
  name : ByteArray
deriving Inhabited
abbrev itC (i : It) : List Value := [.int .i64 i.kind, .int .i64 i.at_, .int .i64 i.n, .string i.name]
abbrev its (l : List It) : List Value := l.flatMap itC
theorem its_len (l : List It) : (its l).length = l.length * 4 := by
 induction l with
 | nil => rfl
 | cons x l ih => simp only [its, List.flatMap_cons, List.length_append, List.length_cons, List.length_nil] at ih ⊢; omega
theorem itInfo : (Tryz.prog.info? 72).map (fun i => (i.zero, i.size, i.bytes)) = some (some (.agg #[.int .i64 0, .int .i64 0, .int .i64 0, .string ⟨#[]⟩]), 4, 40) := by kernel_rfl
theorem perm_two {α : Type} {b c : α} {u r : List α} : (u ++ b :: c :: r).Perm ((b :: c :: u) ++ r) :=
  List.perm_middle.trans (List.Perm.cons _ List.perm_middle)
def OwnT (u : List Blk) (v : Value) (xs : List It) : Prop := Own 72 4 u v xs.length (its xs)
theorem OwnT.nil : OwnT [] (.slice none 0 0) [] := Own.nil _ _
def cross (k : Nat) : It := ⟨3, k + 1, 0, ⟨#[]⟩⟩
def RetTI (w : World) (f : Value → Value) (T : List It → Prop) (e : Ending) (w' : World) : Prop := ∃ v u zs, e = .returned (f v) ∧ OwnT u v zs ∧ T zs ∧ Made w u w'
section
variable {R : Option Nat} {ops : Array Oper} {Q : Exit → Act → World → Prop} {B : World} {F : List Nat} {s0 : Option (List Blk × List Blk)}
variable {l : List (Oper × Nat)} {a : Act} {s S : List Blk} {d : Option Tmp} {op : Op} {t : TypeId} {p : String} {af : Array Edge} {v : Value}
theorem rg_appendT {so xo : Operand} {u : List Blk} {xs : List It} {g1 : Nat} {x : It} {gd : Option (Nat × Bool)} (hg : Region.wanted ⟨d, .call ⟨.builtin .append, #[so, xo], #[22, 22]⟩, t, p, af, gd⟩ (yielded ops a.tmps) = true)
    (hs : a.eval so = v) (hown : OwnT u v xs) (hx : a.eval xo = .slice (some ⟨g1, 0, none⟩) 1 1) (hn : xs.length ≤ 1000000) (hp : S.Perm (u ++ s)) (hm : ∀ w, Kn B F S w → Hd w g1 72 (itC x).toArray)
    (hzz : ∀ z ∈ s0, z.1.Sublist s) (h : ∀ u' v', OwnT u' v' (xs ++ [x]) → Rg R Tryz.prog ops Q B F s0 l (a.put d v') (u' ++ s)) :
    Rg R Tryz.prog ops Q B F s0 ((⟨d, .call ⟨.builtin .append, #[so, xo], #[22, 22]⟩, t, p, af, gd⟩, 1) :: l) a S := by
  obtain ⟨i, hi, hz, hsz, hb⟩ := info_parts itInfo
  refine rg_append (u := u) (s := s) (i := i) (z := .agg #[.int .i64 0, .int .i64 0, .int .i64 0, .string ⟨#[]⟩]) (size := 4) (bytes := 40) (n := xs.length) (m := 1) (c := 1) (xs := its xs) (news := itC x) (ad := ⟨g1, 0, none⟩) hg
    UU22 hi hz hsz hb rfl (by decide) hs hown hx Rx ?_ (by simp [Value.oneCell']) (by simp only [maxLen]; omega) Ox hp hzz ?_
  · intro w K j y hj
    have hd := (hm w K).cell j
    have e : (⟨g1, 0, none⟩ : Addr).add j = ⟨g1, j, none⟩ := by unfold Addr.add; split <;> simp_all
    rw [e, hd, ← hj]
    simp
  · intro u' v' hO _
    have hO' : OwnT u' v' (xs ++ [x]) := by
      have e : its (xs ++ [x]) = its xs ++ itC x := by simp [its]
      unfold OwnT
      rw [e, List.length_append]
      exact hO
    exact h u' v' hO'
theorem rg_appendT3 {so xo : Operand} {u : List Blk} {xs : List It} {g1 : Nat} {b1 b2 : Blk} (x : It) {gd : Option (Nat × Bool)} (hg : Region.wanted ⟨d, .call ⟨.builtin .append, #[so, xo], #[22, 22]⟩, t, p, af, gd⟩ (yielded ops a.tmps) = true)
    (hs : a.eval so = v) (hown : OwnT u v xs) (hx : a.eval xo = .slice (some ⟨g1, 0, none⟩) 1 1) (hn : xs.length ≤ 1000000)
    (h : ∀ u' v', OwnT u' v' (xs ++ [x]) → Rg R Tryz.prog ops Q B F none l (a.put d v') (u' ++ (b1 :: b2 :: s))) :
    Rg R Tryz.prog ops Q B F none ((⟨d, .call ⟨.builtin .append, #[so, xo], #[22, 22]⟩, t, p, af, gd⟩, 1) :: l) a ((g1, .cells (itC x).toArray 72) :: b1 :: b2 :: (u ++ s)) := by
  refine rg_appendT (u := u) (s := (g1, .cells (itC x).toArray 72) :: b1 :: b2 :: s) hg hs hown hx hn ?_ (fun w K => Kn.hd0 K) Nz fun u' v' hO => ?_
  · have h1 : (b2 :: (u ++ s)).Perm (u ++ b2 :: s) := List.perm_middle.symm
    have h2 : (b1 :: (u ++ b2 :: s)).Perm (u ++ b1 :: b2 :: s) := List.perm_middle.symm
    have h3 : ((g1, Obj.cells (itC x).toArray 72) :: (u ++ b1 :: b2 :: s)).Perm (u ++ (g1, Obj.cells (itC x).toArray 72) :: b1 :: b2 :: s) := List.perm_middle.symm
    exact ((((h1.cons b1).trans h2).cons _).trans h3)
  · exact rg_sub (Sa (List.Sublist.cons _ (List.Sublist.refl _)) _) Nz (h u' v' hO)
end
theorem ek_assoc3 {B : World} {F : List Nat} {Q : Exit → Act → World → Prop} {x : Exit} {a : Act} {b c : Blk} {u v t : List Blk} (h : Ek B F Q x a (b :: c :: (u ++ (v ++ t)))) : Ek B F Q x a (b :: c :: (u ++ v ++ t)) := by
 rw [List.append_assoc]; exact h
theorem crossings_yes (xs : List Int) (a : Option Addr) (c : Nat) (hl : xs.length ≤ 1000) (hl6 : xs.length ≤ 6) (hp : Perm xs) (w : World) (hA : AS w a (ints xs)) : Calls Tryz.prog 25 #[slV a xs.length c] w fun e w' => RetTI w (fun v => .tuple #[v, .int .i64 0]) (fun zs => ∃ ys l, Ex xs ys l ∧ (∀ j, j + 1 < l.length → ix l j < ix l (j + 1)) ∧ zs = ys.map cross) e w' := by
 refine calls_marks Tryz.func25 rfl ?_
 simp only [Tryz.ntmps25, List.size_toArray, List.length_cons, List.length_nil, Nat.reduceAdd, Nat.reduceSub, Array.replicate_succ, Array.replicate_zero, List.push_toArray, List.append_toArray, List.nil_append, List.cons_append]
 refine wk_seq ?_
 refine Wm [0, 0] ?_
 refine Zr ?_
 refine Wm [0, 1, 0, 0] ?_
 apply rg_pure Rx Kx
 case hargs => exact Ax
 case h => exact fun w hw => valid_yes xs a c hl hp w (hA.kn0 hw)
 case hz => exact Nz
 simp only [qz]
 refine Zk ?_
 refine Zr ?_
 refine Wm [0, 0, 0, 0] ?_
 refine Zk ?_
 apply rg_softb
 case hy => (intro w hw; exact Gy)
 rintro (_ | _) h1 <;> try simp only [qd, ne_eq] at h1
 ·refine Zm ?_
  refine Zr ?_; refine Wr [1] ?_
  refine Rgn fun g1 => ?_
  simp only [qz]; refine Zr ?_; refine Wm [0, 1] ?_; apply rg_made (T := fun v u => ∃ gp, v = .func (.func 106) #[] #[.pointer (some ⟨gp, 0, none⟩)] ∧ u = [(gp, .cells #[slV a xs.length c] 23)]) Rx Kx
  case hargs => exact Ax
  case h => exact fun w hw => (exchanges_any xs a c w).mono (fun e w' ⟨gp, he, hm⟩ => ⟨_, _, he, ⟨gp, rfl, rfl⟩, hm⟩)
  case hz => exact Nz
  rintro v1 u1 ⟨gp, rfl, rfl⟩
  simp only [List.cons_append, List.nil_append]; simp only [qz]; refine rg_nil (ek_next (wk_block ?_)); refine wk_rangeFunc (f := 106) (caps := #[.pointer (some ⟨gp, 0, none⟩)]) rfl Kx ?_; intro fn dd lp w1 K1
  obtain ⟨r, hr⟩ := ex_loopS K1
  rw [← hr] at K1
  have K2 := K1.perm (s' := [_, _, _, _]) (List.Perm.cons _ ((List.perm_append_comm (l₁ := [_]) (l₂ := [_, _])).trans (List.Perm.swap _ _ _)))
  have K3 := Kn.self (v := [_, _, _]) (rest := [_]) K2
  have hR : Rounds lp r (fun ys s => ∃ u v, s = (lp, .loop r) :: (g1, .cells #[v] 22) :: u ∧ OwnT u v (ys.map cross)) := by
   subst hr
   refine ⟨rfl, fun ys s ⟨u, v, e, _⟩ => by subst e; simp, ?_⟩; intro R B F ys k s rest w hk hy ⟨uT, vT, hs, hO⟩ K
   subst hs
   simp only [List.cons_append, List.nil_append] at K
   obtain ⟨an, cn, rfl, hcn⟩ := Own.val hO
   simp only [List.length_map] at hO K; refine roundIn_kn (Rep.here _) rfl ?_ K; simp only [fold_zipS]; simp only [qz]; refine Wm [0] ?_; refine rg_nil ?_; refine ek_asg ?_; refine wk_block ?_; refine Wr [0, 0, 0, 0, 1, 1, 1] ?_; apply rg_soft
   case hy => (intro w hw; obtain ⟨hcg1, hfg1⟩ := (Kn.hd0 (Kn.tl hw)).facts; exact Gy)
   refine Zm ?_; refine Zk ?_; refine Zk ?_
   refine rg_newS (cs := ?_) (ty := ?_) (n := 1) (c := 1) Rx (fun w => ?_) Nz (fun g2 => ?_); rotate_left 2
   focus (go_simp; rfl)
   simp only [qz]; refine rg_appendT3 (cross k) Rx rfl hO rfl (by simp; omega) (fun u2 v2 hO2 => ?_)
   obtain ⟨a2, c2, rfl, hc2⟩ := Own.val hO2
   simp only [List.length_append, List.length_map, List.length_cons, List.length_nil, Nat.zero_add] at hO2 ⊢; simp only [qz]; apply rg_store
   case hr => (intro w hw; obtain ⟨hcg1, hfg1⟩ := (Kn.hd0 (Kn.tl (Kn.tlU hw))).facts; refine ⟨_, by (go_simp; (try go_bits); exact Dne.mk _), ?_⟩; repeat (first | with_reducible exact hw | with_reducible apply Kn.put (Upd.app _ (Upd.there _ (Upd.here _ _ _)))))
   case hz => (intro z hz; cases hz)
   simp only [qz]; refine rg_nil (ek_block ?_); refine ek_roundEnd (Rep.app _ (Rep.here _)) (fun w hw => ⟨_, rfl, ⟨u2, _, rfl, by rw [List.map_append]; exact hO2⟩, ?_⟩)
   exact hw.perm perm_two
  have hpend : r.pending = none := by subst hr; rfl
  have hst : r.state ≠ .busy := by (subst hr; simp)
  clear hr; refine (exch_any xs a c hl hp lp gp r _ hR [_, _] ⟨[], _, rfl, OwnT.nil⟩ w1 _ K3 (hA.kn0 K1) (hA.fresh (ints_ne hp.1) K1 (by simp))).mono ?_
  rintro e w2 ⟨rfl, ys, l, _, u, hE, hdone, ⟨u1, v1, rfl, hO1⟩, hK⟩
  have K4 := Kn.effApp (v := [_, _, _]) (rest := [_]) K2 hK
  refine ⟨_, _, r, _, rfl, K4, Rep.here _, hst, ?_⟩; rw [hpend]; simp only [List.cons_append, List.nil_append]; refine ek_assoc3 ?_; refine ek_block (ek_next (wk_seq ?_)); refine Wr [0, 0, 0] ?_; apply rg_soft
  case hy => (intro w hw; obtain ⟨hcg1, hfg1⟩ := (Kn.hd0 (Kn.tl hw)).facts; exact Gy)
  refine Zm ?_; refine Zr ?_; refine ek_retM1 (Rep.there _ (Rep.there _ (Rep.app _ (Rep.app _ (Rep.here _))))) (fun w hw => ⟨_, res_tt _ _ rfl, ?_⟩); (try simp only [qz])
  exact ⟨v1, u1, ys.map cross, rfl, hO1, ⟨ys, l, hE, hdone, rfl⟩, hw.made (List.Sublist.cons _ (List.Sublist.cons _ (List.sublist_append_left _ _)))⟩
 simp only [qz]
 exfalso; omega
theorem Ex.same {xs : List Int} {ys : List Nat} {l : List Int} (h : Ex xs ys l) : ∀ {zs : List Nat} {m : List Int}, Ex xs zs m → ys.length = zs.length → ys = zs ∧ l = m := by
 induction h with
 | start =>
  intro zs m h2 hl
  cases h2 with
  | start => exact ⟨rfl, rfl⟩
  | step _ _ _ _ => simp at hl
 | step h hk hu hd ih =>
  intro zs m h2 hl
  cases h2 with
  | start => simp at hl
  | step h2 hk2 hu2 hd2 =>
   obtain ⟨e1, e2⟩ := ih h2 (by simpa using hl)
   subst e1 e2
   rename_i l0 k k2
   have : k = k2 := by
    rcases Nat.lt_trichotomy k k2 with h3 | h3 | h3
    ·have := hu2 k h3; omega
    ·exact h3
    ·have := hu k2 h3; omega
   subst this
   exact ⟨rfl, rfl⟩
theorem perm201 : Perm [2, 0, 1] := ⟨by decide, by decide, by
  intro i hi
  match i, hi with
  | 0, _ => exact ⟨by decide, fun j hj => by omega⟩
  | 1, _ => exact ⟨by decide, fun j hj => by obtain rfl : j = 0 := by omega
                                             decide⟩
  | 2, _ => exact ⟨by decide, fun j hj => by have : j = 0 ∨ j = 1 := by omega
                                             rcases this with rfl | rfl <;> decide⟩⟩
theorem ex201 : Ex [2, 0, 1] [0, 1] [0, 1, 2] := by
  have h1 : Ex [2, 0, 1] [0] [0, 2, 1] := .step (ys := []) (l := [2, 0, 1]) (k := 0) .start (by decide) (fun j hj => by omega) (by decide)
  exact .step (ys := [0]) (l := [0, 2, 1]) (k := 1) h1 (by decide) (fun j hj => by obtain rfl : j = 0 := by omega
                                                                                   decide) (by decide)
theorem OwnT.open {u : List Blk} {v : Value} {xs : List It} (h : OwnT u v xs) (hn : 0 < xs.length) : ∃ g cap rest, u = [(g, .cells (its xs ++ rest).toArray 72)] ∧ v = .slice (some ⟨g, 0, none⟩) xs.length cap := by
 obtain ⟨hl, ⟨rfl, rfl, h0⟩ | ⟨g, cap, cur, rfl, rfl, hc, hm, hs, ht⟩⟩ := h
 ·omega
 refine ⟨g, cap, cur.toList.drop (xs.length * 4), ?_, rfl⟩
 rw [← ht, List.take_append_drop]
theorem as201 {w : World} {g : Nat} (h : Hd w g 3 #[.int .i64 2, .int .i64 0, .int .i64 1]) : AS w (some ⟨g, 0, none⟩) (ints [2, 0, 1]) := fun _ => ⟨g, 0, rfl, h.lt, fun j hj => by
  rw [h.cell]
  simp⟩
theorem sane_any  (w : World) : Calls Tryz.prog 18 #[] w fun e w' => e = .returned (.bool true) ∧ Below w.heap.size w w' := by
 go_enter Tryz.func18, Tryz.ntmps18
 refine wk_start ?_
 refine wk_seq ?_
 refine Wm [0] ?_
 refine Zr ?_
 refine Wr [1, 1, 0, 0, 0, 0, 0] ?_
 refine rg_newS (cs := ?_) (ty := ?_) (n := 3) (c := 3) Rx (fun w => ?_) Nz (fun g1 => ?_); rotate_left 2
 focus (go_simp; rfl)
 simp only [qz]
 apply rg_pure Rx Kx
 case hargs => exact Ax
 case h => exact fun w hw => inversions_yes [2, 0, 1] _ _ (by decide) perm201 w (as201 (Kn.hd0 hw))
 case hz => exact Nz
 simp only [qz]
 simp only [show ((invs [2, 0, 1] : Nat) : Int) = 2 from rfl]
 refine Zm ?_
 refine Zk ?_
 refine Zk ?_
 refine Zr ?_
 refine Wr [1, 1, 0, 0, 0, 0, 0] ?_
 refine rg_newS (cs := ?_) (ty := ?_) (n := 3) (c := 3) Rx (fun w => ?_) Nz (fun g2 => ?_); rotate_left 2
 focus (go_simp; rfl)
 simp only [qz]
 apply rg_made (T := fun v u => ∃ v0 zs, v = .tuple #[v0, .int .i64 0] ∧ OwnT u v0 zs ∧ ∃ ys l, Ex [2, 0, 1] ys l ∧ (∀ j, j + 1 < l.length → ix l j < ix l (j + 1)) ∧ zs = ys.map cross) Rx Kx
 case hargs => exact Ax
 case h => exact fun w hw => (crossings_yes [2, 0, 1] _ _ (by decide) (by decide) perm201 w (as201 (Kn.hd0 hw))).mono (fun e w' ⟨v, u, zs, he, hO, hT, hm⟩ => ⟨_, u, he, ⟨v, zs, rfl, hO, hT⟩, hm⟩)
 case hz => exact Nz
 rintro _ u1 ⟨v1, _, rfl, hO1, ys, l, hE, hdone, rfl⟩
 have hy2 : ys.length = 2 := by (have h1 := hE.invs; have h2 := up_invs l hdone; have h3 : invs [2, 0, 1] = 2 := rfl; omega)
 obtain ⟨e1, -⟩ := hE.same ex201 hy2
 subst e1
 obtain ⟨g, cap, rest, rfl, rfl⟩ := hO1.open (by decide)
 clear hO1 hE hdone hy2
 refine Zm ?_
 refine Zk ?_
 refine Zk ?_
 refine Zr ?_
 refine Wm [0, 0, 0, 0, 0, 0, 0, 0, 0, 0, 0, 0, 0, 0, 0, 0, 0, 0, 0, 0, 0, 0, 0, 0, 0, 0, 0, 0, 0, 0] ?_
 apply rg_softb
 case hy => (intro w hw; exact Gy)
 intro x h1
 obtain rfl : x = true := Kt h1
 clear h1
 refine Zm ?_
 apply rg_soft_g
 case hg => rfl
 case hy => (intro w hw; exact Gy)
 simp only [qz]
 apply rg_softb_g
 case hg => rfl
 case hy => (intro w hw; exact Gy)
 intro x h2
 obtain rfl : x = true := Kt h2
 clear h2
 simp only [qz]
 refine Zk ?_
 apply rg_soft_g
 case hg => rfl
 case hy => (intro w hw; exact Gy)
 simp only [qz]
 apply rg_softb_g
 case hg => rfl
 case hy => (intro w hw; exact Gy)
 intro x h3
 obtain rfl : x = true := Kt h3
 clear h3
 simp only [qz]
 refine Zk ?_
 apply rg_soft_g
 case hg => rfl
 case hy => (intro w hw; exact Gy)
 simp only [qz]
 apply rg_soft_g
 case hg => rfl
 case hy => (intro w hw; exact Gy)
 simp only [qz]
 apply rg_softb_g
 case hg => rfl
 case hy => (intro w hw; exact Gy)
 intro x h4
 obtain rfl : x = true := Kt h4
 clear h4
 simp only [qz]
 refine Zk ?_
 apply rg_soft_g
 case hg => rfl
 case hy => (intro w hw; exact Gy)
 simp only [qz]
 apply rg_soft_g
 case hg => rfl
 case hy => (intro w hw; exact Gy)
 simp only [qz]
 apply rg_soft_g
 case hg => rfl
 case hy => (intro w hw; exact Gy)
 simp only [qz]
 apply rg_soft_g
 case hg => rfl
 case hy => (intro w hw; have hc1 : w.cell? ⟨g, 1, none⟩ = some (.int .i64 1) := (Kn.hd0 hw).cell 1; have hc5 : w.cell? ⟨g, 5, none⟩ = some (.int .i64 2) := (Kn.hd0 hw).cell 5; obtain ⟨hcg2, hfg2⟩ := (Kn.hd0 (Kn.tl hw)).facts; obtain ⟨hcg1, hfg1⟩ := (Kn.hd0 (Kn.tl (Kn.tl hw))).facts; exact Gy)
 simp only [qz]
 apply rg_softb_g
 case hg => rfl
 case hy => (intro w hw; exact Gy)
 intro x h5
 obtain rfl : x = true := Kt h5
 clear h5
 simp only [qz]
 refine Zk ?_
 apply rg_soft_g
 case hg => rfl
 case hy => (intro w hw; exact Gy)
 simp only [qz]
 apply rg_soft_g
 case hg => rfl
 case hy => (intro w hw; exact Gy)
 simp only [qz]
 apply rg_soft_g
 case hg => rfl
 case hy => (intro w hw; exact Gy)
 simp only [qz]
 apply rg_soft_g
 case hg => rfl
 case hy => (intro w hw; have hc1 : w.cell? ⟨g, 1, none⟩ = some (.int .i64 1) := (Kn.hd0 hw).cell 1; have hc5 : w.cell? ⟨g, 5, none⟩ = some (.int .i64 2) := (Kn.hd0 hw).cell 5; obtain ⟨hcg2, hfg2⟩ := (Kn.hd0 (Kn.tl hw)).facts; obtain ⟨hcg1, hfg1⟩ := (Kn.hd0 (Kn.tl (Kn.tl hw))).facts; exact Gy)
 simp only [qz]
 apply rg_softb_g
 case hg => rfl
 case hy => (intro w hw; exact Gy)
 intro x h6
 obtain rfl : x = true := Kt h6
 clear h6
 simp only [qz]
 refine Zk ?_
 refine Zr ?_
 refine Er fun w hw => ?_
 (try simp only [qz])
 first | exact ⟨rfl, hw.below⟩ | exact ⟨trivial, hw.below⟩ | exact hw.below
abbrev itV (i : It) : Value := .agg #[.int .i64 i.kind, .int .i64 i.at_, .int .i64 i.n, .string i.name]
def it (l : List It) (k : Nat) : It := l.getD k default
theorem its_get : ∀ (l : List It) (k r : Nat), k < l.length → r < 4 → (its l)[k * 4 + r]? = (itC (it l k))[r]?
  | [], k, r, hk, _ => by simp at hk
  | x :: l, 0, r, _, hr => by
    have e : its (x :: l) = itC x ++ its l := by simp [its]
    rw [e, Nat.zero_mul, Nat.zero_add, List.getElem?_append_left (by simpa using hr)]
    simp [it]
  | x :: l, k + 1, r, hk, hr => by
    have e : its (x :: l) = itC x ++ its l := by simp [its]
    rw [e, List.getElem?_append_right (by simp; omega)]
    have e2 : (k + 1) * 4 + r - (itC x).length = k * 4 + r := by simp only [List.length_cons, List.length_nil]; omega
    rw [e2, its_get l k r (by simpa using hk) hr]
    simp [it]
structure ItAt (w : World) (b off : Nat) (i : It) : Prop where
  c0 : w.cell? ⟨b, off, none⟩ = some (.int .i64 i.kind)
  c1 : w.cell? ⟨b, off + 1, none⟩ = some (.int .i64 i.at_)
  c2 : w.cell? ⟨b, off + 2, none⟩ = some (.int .i64 i.n)
  c3 : w.cell? ⟨b, off + 3, none⟩ = some (.string i.name)
theorem AS.openT {w : World} {a : Option Addr} {xs : List It} (h : AS w a (its xs)) (hn : 0 < xs.length) :
    ∃ b off, a = some ⟨b, off, none⟩ ∧ b < w.heap.size ∧ ∀ j, j < xs.length → ItAt w b (off + j * 4) (it xs j) := by
  have hne : its xs ≠ [] := by intro e; have := its_len xs; rw [e] at this; simp at this; omega
  obtain ⟨b, off, rfl, hlt, hc⟩ := h hne
  refine ⟨b, off, rfl, hlt, fun j hj => ?_⟩
  have hl := its_len xs
  have key : ∀ r, r < 4 → w.cell? ⟨b, off + (j * 4 + r), none⟩ = (itC (it xs j))[r]? := fun r hr => (hc (j * 4 + r) Ox).trans (its_get xs j r hj hr)
  exact ⟨key 0 Ox, by rw [Nat.add_assoc]; exact key 1 Ox, by rw [Nat.add_assoc]; exact key 2 Ox, by rw [Nat.add_assoc]; exact key 3 Ox⟩
theorem ItAt.kn {B w : World} {F : List Nat} {s : List Blk} {b off : Nat} {i : It} (h : ItAt B b off i) (K : Kn B F s w) (hb : b < B.heap.size) (hF : b ∉ F) : ItAt w b off i :=
  ⟨(K.cellB hb hF _).trans h.c0, (K.cellB hb hF _).trans h.c1, (K.cellB hb hF _).trans h.c2, (K.cellB hb hF _).trans h.c3⟩
theorem it_mem {xs : List It} {k : Nat} (h : k < xs.length) : it xs k ∈ xs := by
 unfold it; rw [List.getD_eq_getElem?_getD, List.getElem?_eq_getElem h]; exact List.getElem_mem h
section
variable {R : Option Nat} {P : Program} {ops : Array Oper} {Q : Exit → Act → World → Prop} {B : World} {F : List Nat} {s0 : Option (List Blk × List Blk)}
variable {l : List (Oper × Nat)} {a : Act} {s : List Blk} {d : Option Tmp} {t : TypeId} {p : String} {af : Array Edge}
theorem rg_callVI {fo : Operand} {f : Nat} {cargs : Array Operand} {at_ : Array TypeId} {caps vs : Array Value} {v : Value} {gd : Option (Nat × Bool)} (hg : Region.wanted ⟨d, .call ⟨.value fo, cargs, at_⟩, t, p, af, gd⟩ (yielded ops a.tmps) = true)
    (hf : a.eval fo = .func (.func f) #[] caps) (hgo : isGo P f = true) (hargs : cargs.map a.eval = vs)
    (h : ∀ w, Kn B F s w → Calls P f (vs ++ caps) w (fun e w' => e = .returned v ∧ Below w.heap.size w w'))
    (hz : ∀ z ∈ s0, z.1.Sublist s) (k : Rg R P ops Q B F s0 l (a.put d v) s) :
    Rg R P ops Q B F s0 ((⟨d, .call ⟨.value fo, cargs, at_⟩, t, p, af, gd⟩, 1) :: l) a s := by
  refine .inl fun w K => ?_
  unfold hop
  rw [if_pos hg]
  unfold Oper.wp
  have hr : (execOp a.eval ⟨d, .call ⟨.value fo, cargs, at_⟩, t, p, af, gd⟩).run P w = .ok (.enter f (vs ++ caps)) w := by
    have hx : execOp a.eval ⟨d, .call ⟨.value fo, cargs, at_⟩, t, p, af, gd⟩ = (do let d ← resolve a.eval ⟨.value fo, cargs, at_⟩ t; invoke d.target d.args) := rfl
    have hv : (resolve a.eval ⟨.value fo, cargs, at_⟩ t) = pure { target := .fn (.func f) caps, args := #[] ++ vs } := by
      simp only [resolve, hf, hargs, Deferred.ofValue]
    rw [hx, hv]
    have : (#[] ++ vs : Array Value) = vs := by simp
    rw [this]
    exact run_callFunc_go hgo _ w
  rw [hr]
  refine (h w K).mono fun e w' ⟨he, hb⟩ => ?_
  subst he
  exact ⟨s, K.call hb, hz, k⟩
theorem rg_callVbI {fo : Operand} {f : Nat} {cargs : Array Operand} {at_ : Array TypeId} {caps vs : Array Value} {b : Bool} {gd : Option (Nat × Bool)} (hg : Region.wanted ⟨d, .call ⟨.value fo, cargs, at_⟩, t, p, af, gd⟩ (yielded ops a.tmps) = true)
    (hf : a.eval fo = .func (.func f) #[] caps) (hgo : isGo P f = true) (hargs : cargs.map a.eval = vs)
    (h : ∀ w, Kn B F s w → Calls P f (vs ++ caps) w (fun e w' => e = .returned (.bool b) ∧ Below w.heap.size w w'))
    (hz : ∀ z ∈ s0, z.1.Sublist s) (k : ∀ x, b = x → Rg R P ops Q B F s0 l (a.put d (.bool x)) s) :
    Rg R P ops Q B F s0 ((⟨d, .call ⟨.value fo, cargs, at_⟩, t, p, af, gd⟩, 1) :: l) a s := rg_callVI hg hf hgo hargs h hz (k b rfl)
end
def idxF (p : It → Bool) : List It → Int → Int
  | [], _ => -1
  | x :: t, k => if p x then k else idxF p t (k + 1)
theorem idxF_at (p : It → Bool) : ∀ (l : List It) (b : Int) (k : Nat), k < l.length → (∀ j, j < k → p (it l j) = false) → p (it l k) = true → idxF p l b = b + k
  | [], _, k, hk, _, _ => by simp at hk
  | x :: l, b, 0, _, _, h => by have : p x = true := h; simp [idxF, this]
  | x :: l, b, k + 1, hk, hj, h => by
    have : p x = false := hj 0 Ox
    rw [idxF, if_neg (by rw [this]; decide), idxF_at p l (b + 1) k (by simpa using hk) (fun j hjk => hj (j + 1) Ox) h]
    omega
theorem idxF_no (p : It → Bool) : ∀ (l : List It) (b : Int), (∀ j, j < l.length → p (it l j) = false) → idxF p l b = -1
  | [], _, _ => rfl
  | x :: l, b, h => by
    have : p x = false := h 0 (by simp)
    rw [idxF, if_neg (by rw [this]; decide)]
    exact idxF_no p l (b + 1) fun j hj => h (j + 1) (by simpa using hj)
theorem idxF_any (p : It → Bool) : ∀ (l : List It) (b : Int), 0 ≤ b → decide (idxF p l b ≥ 0) = l.any p
  | [], _, _ => rfl
  | x :: l, b, hb => by
    rw [idxF, List.any_cons]
    by_cases h : p x = true
    · rw [if_pos h, h]; simpa using hb
    · rw [if_neg h, idxF_any p l (b + 1) Ox]
      have : p x = false := by simpa using h
      rw [this]; rfl
theorem index_any (xs : List It) (a : Option Addr) (c : Nat) (p : It → Bool) (f : Nat) (caps : Array Value) (hl : xs.length ≤ 100000) (hgo : isGo Tryz.prog f = true) (w : World) (hA : AS w a (its xs)) (hf : ∀ w', Below w.heap.size w w' → ∀ i ∈ xs, Calls Tryz.prog f (#[itV i] ++ caps) w' fun e w'' => e = .returned (.bool (p i)) ∧ Below w'.heap.size w' w'') : Calls Tryz.prog 153 #[slV a xs.length c, .func (.func f) #[] caps] w fun e w' => e = .returned (.int .i64 (idxF p xs 0)) ∧ Below w.heap.size w w' := by
 go_enter Tryz.func153, Tryz.ntmps153
 refine wk_start ?_
 refine wk_seq ?_
 refine Wm [0] ?_
 refine Zr ?_
 refine Wm [0, 0, 0] ?_
 refine Zk ?_
 refine Zr ?_
 refine wk_loopS [4, 5, 8, 9, 10, 11, 12, 13, 14, 15, 16, 17, 18] (fun n vs s => ∃ (k : Nat) (j5 j9 j10 j11 j12 j13 j14 j15 j16 j17 j18 : Value), vs = [.int .i64 0, j5, .int .i64 k, j9, j10, j11, j12, j13, j14, j15, j16, j17, j18] ∧ s = [] ∧ n = xs.length - k ∧ k ≤ xs.length ∧ ∀ j, j < k → p (it xs j) = false) ((fun (k : Nat) => xs.length - k) (0)) ?_ Kx ?_
 ·dsimp only [Act.vals, List.map, Array.getD, List.size_toArray, List.length_cons, List.length_nil, Nat.reduceAdd, Nat.reduceLT, ↓reduceDIte, Array.getInternal, List.getElem_toArray, List.getElem_cons_zero, List.getElem_cons_succ]
  exact ⟨0, _, _, _, _, _, _, _, _, _, _, _, rfl, rfl, rfl, by omega, fun i hi => by omega⟩
 rintro n vs s ⟨k, j5, j9, j10, j11, j12, j13, j14, j15, j16, j17, j18, rfl, rfl, hn, hc1, hc2⟩
 simp only [Act.puts, Act.vals, List.zip_cons_cons, List.zip_nil_right, List.foldl_cons, List.foldl_nil, List.map_cons, List.map_nil, Act.put, Act.eval, List.setIfInBounds_toArray, List.set_cons_zero, List.set_cons_succ, Array.getD_eq_getD_getElem?, List.getElem?_toArray, List.getElem?_cons_zero, List.getElem?_cons_succ, Option.getD_some]
 refine wk_seq ?_
 refine Wr [0] ?_
 apply rg_softb
 case hy => (intro w hw; exact Gy)
 rintro (_ | _) h1 <;> try simp only [qd, ne_eq] at h1
 ·simp only [qz]
  refine Zr ?_; refine Wm [0] ?_; refine Zr ?_
  refine Er fun w hw => ?_
  (try simp only [qz])
  exact ⟨by rw [show idxF p xs 0 = -1 from idxF_no p xs 0 (fun j hj => hc2 j Ox)], hw.below⟩
 simp only [qz]
 obtain ⟨b, off, rfl, hlt, hcell⟩ := AS.openT hA Ox
 have hck := hcell k Ox
 refine Zr ?_
 refine Wm [0, 0] ?_
 refine Zr ?_
 refine Wm [0, 0, 0, 0, 0, 1] ?_
 refine Zk ?_
 apply rg_soft
 case hy => (intro w hw; obtain ⟨hi0, hi1, hi2, hi3⟩ := hck.kn hw hlt (by simp); exact Gy)
 simp only [qz]
 apply rg_callVbI Rx rfl hgo
 case hargs => exact Ax
 case h => exact fun w hw => hf w hw.below (it xs k) (it_mem Ox)
 case hz => exact Nz
 rintro (_ | _) h2 <;> try simp only [qd, ne_eq] at h2
 ·simp only [qz]
  refine Zr ?_; refine Wr [0, 0] ?_; refine Zk ?_; refine rg_nil ?_; refine ek_roundS (xs.length - (k + 1)) Ox Kx ?_
  dsimp only [Act.vals, List.map, Array.getD, List.size_toArray, List.length_cons, List.length_nil, Nat.reduceAdd, Nat.reduceLT, ↓reduceDIte, Array.getInternal, List.getElem_toArray, List.getElem_cons_zero, List.getElem_cons_succ]
  exact ⟨k + 1, _, _, _, _, _, _, _, _, _, _, _, by rfl, by rfl, by rfl, by omega, fun j hj => if e : j = k then e ▸ h2 else hc2 j Ox⟩
 simp only [qz]
 refine Zr ?_
 refine Wm [0, 0] ?_
 refine Zr ?_
 refine Er fun w hw => ?_
 (try simp only [qz])
 exact ⟨by rw [show idxF p xs 0 = (k : Int) by rw [idxF_at p xs 0 k Ox hc2 h2]; omega], hw.below⟩
theorem contains_any (xs : List It) (a : Option Addr) (c : Nat) (p : It → Bool) (f : Nat) (caps : Array Value) (hl : xs.length ≤ 100000) (hgo : isGo Tryz.prog f = true) (w : World) (hA : AS w a (its xs)) (hf : ∀ w', Below w.heap.size w w' → ∀ i ∈ xs, Calls Tryz.prog f (#[itV i] ++ caps) w' fun e w'' => e = .returned (.bool (p i)) ∧ Below w'.heap.size w' w'') : Calls Tryz.prog 138 #[slV a xs.length c, .func (.func f) #[] caps] w fun e w' => e = .returned (.bool (xs.any p)) ∧ Below w.heap.size w w' := by
 go_enter Tryz.func138, Tryz.ntmps138
 refine wk_start ?_
 refine wk_seq ?_
 refine Wm [0] ?_
 refine Zr ?_
 refine Wm [0, 0, 1, 0, 0] ?_
 apply rg_pure Rx Kx
 case hargs => exact Ax
 case h => exact fun w hw => index_any xs a c p f caps hl hgo w (hA.kn0 hw) (fun w' hb => hf w' (hw.call hb).below)
 case hz => exact Nz
 simp only [qz]
 refine Zk ?_
 refine Zr ?_
 refine Er fun w hw => ?_
 (try simp only [qz])
 exact ⟨by rw [← idxF_any p xs 0 Ox], hw.below⟩
section
variable {n : Nat}
theorem unC_dag {a : Nat → Nat → Q4} (ha : UnC n a) : UnC n fun i k => Q4.conj (a k i) := by
 intro k l hk hl
 have h := unR_of_unC ha k l hk hl
 rw [← h]
 exact sumQ_congr fun i _ => by rw [Q4.conj_conj]
theorem mul_assocT (a b c : Nat → Nat → Q4) (i k : Nat) : sumQ n (fun j => (sumQ n fun l => a i l * b l j) * c j k) = sumQ n fun l => a i l * sumQ n fun j => b l j * c j k := by
 have e1 : sumQ n (fun j => (sumQ n fun l => a i l * b l j) * c j k) = sumQ n fun j => sumQ n fun l => a i l * (b l j * c j k) :=
  sumQ_congr fun j _ => by
   rw [← sumQ_mulr]
   exact sumQ_congr fun l _ => Q4.mul_assoc _ _ _
 rw [e1, sumQ_swap]
 exact sumQ_congr fun l _ => sumQ_mul n (a i l) _
end
def prodsR (x y : Nat → Nm) : Nat → NR
  | 0 => .ok Nm.zero
  | k + 1 => match prodsR x y k with
    | .error c => .error c
    | .ok s => match (x k).mul (y k) with
      | .error c => .error c
      | .ok p => s.add p
theorem prodsR_err {x y : Nat → Nm} {k : Nat} {c : Int} (h : prodsR x y k = .error c) : ∀ m, k ≤ m → prodsR x y m = .error c := by
  intro m hm
  induction m with
  | zero => obtain rfl : k = 0 := by omega
            exact h
  | succ m ih =>
    rcases (by omega : k = m + 1 ∨ k ≤ m) with rfl | hm
    · exact h
    · simp only [prodsR, ih hm]
theorem prodsR_val {x y : Nat → Nm} (hx : ∀ k, (x k).Ok) (hy : ∀ k, (y k).Ok) : ∀ {n : Nat} {z : Nm}, prodsR x y n = .ok z → z.Ok ∧ z.val = sumQ n fun k => (x k).val * (y k).val
  | 0, z, h => by
    cases h
    exact ⟨zero_ok, val_zero⟩
  | n + 1, z, h => by
    simp only [prodsR] at h
    split at h
    · cases h
    · next s hs =>
      split at h
      · cases h
      · next p hp =>
        obtain ⟨so, sv⟩ := prodsR_val hx hy hs
        obtain ⟨po, -, pe⟩ := mk_ok (mulR_k (hx n).k0 (hy n).k0) hp
        obtain ⟨zo, -, ze⟩ := mk_ok (addR_k so.k0) h
        refine ⟨zo, ?_⟩
        show _ = sumQ n _ + _
        rw [val_eqv zo.k0 (addR_k so.k0) ze, val_addR so.k0 po.k0, sv, val_eqv po.k0 (mulR_k (hx n).k0 (hy n).k0) pe, val_mulR (hx n).k0 (hy n).k0]
theorem prodsR_code {x y : Nat → Nm} : ∀ {n : Nat} {c : Int}, prodsR x y n = .error c → c = 4
  | 0, c, h => by cases h
  | n + 1, c, h => by
    simp only [prodsR] at h
    split at h
    · next c' hc => cases h; exact prodsR_code hc
    · split at h
      · next c' hc => cases h; exact mk_err hc
      · exact mk_err h
theorem products_any (n : Nat) (hn6 : n ≤ 6) (x y : Nat → Nm) (fv : Value) (hx : ∀ k, k < n → (x k).Ok) (hy : ∀ k, k < n → (y k).Ok) (w : World) (hF : FnV w fv (D1 n fun k => .tuple #[nmV (x k), nmV (y k)])) : Calls Tryz.prog 96 #[.int .i64 n, fv] w fun e w' => e = .returned (numV (prodsR x y n)) ∧ Below w.heap.size w w' := by
 go_enter Tryz.func96, Tryz.ntmps96
 refine wk_start ?_
 refine wk_seq ?_
 refine Wr [1, 0] ?_
 refine Rgn fun g1 => ?_
 refine Zx ?_
 refine Zr ?_
 refine Wr [1] ?_
 refine Rgn fun g2 => ?_
 simp only [qz]
 refine Zr ?_
 refine Wx [0, 0] ?_
 refine Zr ?_
 refine wk_loopF [5, 7, 8, 9, 10, 11, 13, 14, 15, 16, 17, 18, 19, 20, 21, 22, 23, 24, 25, 26, 27, 28, 29, 30, 31, 32, 33, 34, 35, 36, 37, 38, 39, 40, 41, 42] (fun mz f s => ∃ (k : Nat) (ac : Nm), f 13 = .int .i64 k ∧ s = ((g2, .cells #[.int .i64 ac.a, .int .i64 ac.b, .int .i64 ac.c, .int .i64 ac.d, .int .i64 ac.k] 44) :: ((g1, .cells #[.int .i64 0, .int .i64 0, .int .i64 0, .int .i64 0, .int .i64 0] 44) :: [])) ∧ mz = n - k ∧ k ≤ n ∧ Hid (prodsR x y k = .ok ac) ∧ ac.Ok) ((fun (k : Nat) (ac : Nm) => n - k) (0) (Nm.zero)) ?_ Kx ?_
 ·exact ⟨0, Nm.zero, rfl, rfl, rfl, by omega, (Lib.hid rfl), zero_ok⟩
 rintro mz f1 s ⟨k, ac, hs1_13, rfl, hn, hd1, hd2, hd3⟩
 simp only [Act.putF, List.foldl_cons, List.foldl_nil, hs1_13, Act.put, Act.eval, qW, Nat.reduceAdd, Bool.not_true, Bool.not_false]
 clear hs1_13
 refine wk_seq ?_
 refine Wr [0] ?_
 refine rfb_lss rfl rfl rfl rfl ?_
 rintro (_ | _) h1 <;> try simp only [qd, ne_eq] at h1
 ·simp only [qz]
  refine Zr ?_; refine Wr [0, 1, 0] ?_; refine rf_loadR (n := 5) rfl rfl rfl UU44 rfl Kx (fun w hw => Kn.hd0 hw) rfl rfl (Nq ?_); refine rf_storeR (n := 5) rfl rfl Kx rfl rfl (UpdR.there _ (UpdR.here _ _ _ Nl)) Nz (Nw ?_); refine Zx ?_; refine Zr ?_; refine ek_ret (fun w hw => ⟨rfl, _, run_results2 rfl rfl (Kn.hd0 (Kn.tl hw)) UU44 rfl Kx, ?_⟩); (try simp only [qz])
  obtain rfl : n = k := by omega
  exact ⟨by rw [hd2.out]; rfl, hw.below⟩
 simp only [qz]
 refine Zr ?_
 refine Wx [0, 0] ?_
 refine Zr ?_
 refine Wx [0, 0, 1, 0, 0, 0, 1, 1, 1, 1] ?_
 have hxk := hx k Ox
 have hyk := hy k Ox
 refine rg_fnv (.tuple #[nmV (x k), nmV (y k)]) Rx hF rfl (by simp only [qm, qs, Act.eval] <;> rfl) ⟨k, by omega, rfl, rfl⟩ Nz ?_
 refine Zx ?_
 refine Rgn fun g3 => ?_
 simp only [qz]
 refine Rgn fun g4 => ?_
 simp only [qz]
 refine rf_storeR (n := 5) rfl rfl Kx rfl rfl (UpdR.there _ (UpdR.here _ _ _ Nl)) Nz (Nw ?_)
 refine rf_storeR (n := 5) rfl rfl Kx rfl rfl (UpdR.here _ _ _ Nl) Nz (Nw ?_)
 refine Zr ?_
 refine Wr [0, 0, 1, 0, 0, 0, 1, 1, 0] ?_
 refine rf_loadR (n := 5) rfl rfl rfl UU44 rfl Kx (fun w hw => Kn.hd0 (Kn.tl hw)) rfl rfl (Nq ?_)
 refine rf_loadR (n := 5) rfl rfl rfl UU44 rfl Kx (fun w hw => Kn.hd0 hw) rfl rfl (Nq ?_)
 apply rg_num Rx Kx
 case hargs => exact Ax
 case h => exact fun w hw => amMul_ok (x k) (y k) hxk hyk w
 case hz => exact Nz
 case hc => exact (fun c h => mk_err h)
 ·intro hr2
  refine Zx ?_
  refine Rgn fun g5 => ?_
  simp only [qz]; refine rf_storeR (n := 5) rfl rfl Kx rfl rfl (UpdR.here _ _ _ Nl) Nz (Nw ?_); refine Zx ?_; refine Zr ?_; refine Wx [0, 0] ?_; refine rf_neq (b := true) rfl rfl rfl rfl (by decide) (Nq ?_); refine Zr ?_; refine Wr [0, 0, 1, 0] ?_; refine rf_build (cs := fun a => #[.int .i64 0, .int .i64 0, .int .i64 0, .int .i64 0, .int .i64 0]) rfl rfl Kx (Zx ?_); refine rf_storeR (n := 5) rfl rfl Kx rfl rfl (UpdR.there _ (UpdR.there _ (UpdR.there _ (UpdR.there _ (UpdR.here _ _ _ Nl))))) Nz (Nw ?_)
  refine Zx ?_; refine Zr ?_; refine ek_ret (fun w hw => ⟨rfl, _, run_results2 rfl rfl (Kn.hd0 (Kn.tl (Kn.tl (Kn.tl (Kn.tl hw))))) UU44 rfl Kx, ?_⟩); (try simp only [qz])
  exact ⟨by rw [prodsR_err (k := k + 1) (c := 4) (by simp only [prodsR, hd2.out, hr2]) n Ox]; rfl, hw.below⟩
 intro z2 hr2
 refine Zx ?_
 refine Rgn fun g6 => ?_
 simp only [qz]
 refine rf_storeR (n := 5) rfl rfl Kx rfl rfl (UpdR.here _ _ _ Nl) Nz (Nw ?_)
 refine Zx ?_
 refine Zr ?_
 refine Wx [0, 0] ?_
 refine rf_neq (b := false) rfl rfl rfl rfl (by decide) (Nq ?_)
 refine Zr ?_
 refine Wr [0, 0, 1, 0, 0, 0, 1, 0] ?_
 refine rf_loadR (n := 5) rfl rfl rfl UU44 rfl Kx (fun w hw => Kn.hd0 (Kn.tl (Kn.tl (Kn.tl hw)))) rfl rfl (Nq ?_)
 refine rf_loadR (n := 5) rfl rfl rfl UU44 rfl Kx (fun w hw => Kn.hd0 hw) rfl rfl (Nq ?_)
 have hpk := (mk_ok (mulR_k hxk.k0 hyk.k0) hr2).1
 apply rg_num Rx Kx
 case hargs => exact Ax
 case h => exact fun w hw => amAdd_ok ac z2 hd3 hpk w
 case hz => exact Nz
 case hc => exact (fun c h => mk_err h)
 ·intro hr3
  refine Zx ?_; refine rf_storeR (n := 5) rfl rfl Kx rfl rfl (UpdR.there _ (UpdR.there _ (UpdR.there _ (UpdR.here _ _ _ Nl)))) Nz (Nw ?_); refine Zx ?_; refine Zr ?_; refine Wx [0, 0] ?_; refine rf_neq (b := true) rfl rfl rfl rfl (by decide) (Nq ?_); refine Zr ?_; refine Wr [0, 0, 1, 0] ?_; refine rf_build (cs := fun a => #[.int .i64 0, .int .i64 0, .int .i64 0, .int .i64 0, .int .i64 0]) rfl rfl Kx (Zx ?_); refine rf_storeR (n := 5) rfl rfl Kx rfl rfl (UpdR.there _ (UpdR.there _ (UpdR.there _ (UpdR.there _ (UpdR.here _ _ _ Nl))))) Nz (Nw ?_)
  refine Zx ?_; refine Zr ?_; refine ek_ret (fun w hw => ⟨rfl, _, run_results2 rfl rfl (Kn.hd0 (Kn.tl (Kn.tl (Kn.tl (Kn.tl hw))))) UU44 rfl Kx, ?_⟩); (try simp only [qz])
  exact ⟨by rw [prodsR_err (k := k + 1) (c := 4) (by simp only [prodsR, hd2.out, hr2, hr3]) n Ox]; rfl, hw.below⟩
 intro z3 hr3
 refine Zx ?_
 refine rf_storeR (n := 5) rfl rfl Kx rfl rfl (UpdR.there _ (UpdR.there _ (UpdR.there _ (UpdR.here _ _ _ Nl)))) Nz (Nw ?_)
 refine Zx ?_
 refine Zr ?_
 refine Wx [0, 0] ?_
 refine rf_neq (b := false) rfl rfl rfl rfl (by decide) (Nq ?_)
 refine Zr ?_
 refine Wr [0, 0] ?_
 refine rf_add rfl rfl rfl rfl (wrap_ok Ox Ox) (Zx ?_)
 refine rg_nil ?_
 refine ek_sub (sk _ (sk _ (sk _ (sc _ (sc _ sn))))) ?_
 refine ek_roundF (n - (k + 1)) Ox Kx ?_
 exact ⟨k + 1, z3, rfl, by rfl, by rfl, Ox, (Lib.hid (by simp only [prodsR, hd2.out, hr2, hr3])), (mk_ok (addR_k hd3.k0) hr3).1⟩
theorem mul11_any (xs ys : List Nm) (a a' : Option Addr) (c c' : Nat) (N : Nat) (hN : N ≤ 6) (hlx : Hid (xs.length = N * N)) (hly : Hid (ys.length = N * N)) (i j k gx gi gy gk : Nat) (hi : i < N) (hj : j < N) (hk : k < N) (w : World) (hA : AS w a (nms xs)) (hB : AS w a' (nms ys)) (hX : Hd w gx 79 #[.int .i64 N, .slice a xs.length c]) (hY : Hd w gy 79 #[.int .i64 N, .slice a' ys.length c']) (hI : Hd w gi 3 #[.int .i64 i]) (hK : Hd w gk 3 #[.int .i64 k]) : Calls Tryz.prog 121 #[.int .i64 (j : Int), .pointer (some ⟨gx, 0, none⟩), .pointer (some ⟨gi, 0, none⟩), .pointer (some ⟨gy, 0, none⟩), .pointer (some ⟨gk, 0, none⟩)] w fun e w' => e = .returned (.tuple #[nmV (nm xs (i * N + j)), nmV (nm ys (j * N + k))]) ∧ Below w.heap.size w w' := by
 go_enter Tryz.func121, Tryz.ntmps121
 refine wk_start ?_
 refine wk_seq ?_
 refine Wr [1, 1] ?_
 refine Rgn fun g1 => ?_
 simp only [qz]
 refine Rgn fun g2 => ?_
 simp only [qz]
 refine Zr ?_
 refine wk_draws_m (hz1 := (sk _ (sk _ sn))) [(0, 0), (1, 0), (2, 0), (4, 3), (5, 3), (6, 3), (3, 1), (7, 1), (8, 2), (9, 1)] 8 Kx Kx (fun c d v a w h => by cases d <;> exact h) ?_
 simp only [List.map_cons, List.map_nil, List.getD_cons_zero, List.getD_cons_succ]
 refine rf_loadC (n := 2) (vs := [.int .i64 N, .slice a xs.length c]) rfl rfl rfl UU79 rfl Kx rfl (fun w hw => cells_range (Kn.hdB hw hX (by simp)) 0 2) (Nq ?_)
 refine rf_load (v := .int .i64 i) rfl rfl rfl UU3 rfl (fun w hw => (Kn.hdB hw hI (by simp)).at (i := 0) rfl) (Zx ?_)
 refine rf_loadC (n := 2) (vs := [.int .i64 N, .slice a' ys.length c']) rfl rfl rfl UU79 rfl Kx rfl (fun w hw => cells_range (Kn.hdB hw hY (by simp)) 0 2) (Nq ?_)
 refine rg_moveP ?_
 simp only [qz]
 refine rf_load (v := .int .i64 k) rfl rfl rfl UU3 rfl (fun w hw => (Kn.hdB hw hK (by simp)).at (i := 0) rfl) (Nq ?_)
 apply rg_pure Rx Kx
 case hargs => exact Ax
 case h => exact fun w hw => at_any N i j xs a c hlx.out hN hi hj w (hA.kn0 hw)
 case hz => exact (fun _ h => by cases h; exact (sc _ (sc _ sn)))
 simp only [qz]
 apply rg_pure Rx Kx
 case hargs => exact Ax
 case h => exact fun w hw => at_any N j k ys a' c' hly.out hN hj hk w (hB.kn0 hw)
 case hz => exact (fun _ h => by cases h; exact (sc _ (sc _ sn)))
 simp only [qz]
 refine rf_storeRM (n := 5) rfl rfl Kx rfl rfl (UpdR.there _ (UpdR.here _ _ _ Nl)) (sk _ (sk _ sn)) (Nw ?_)
 refine rf_storeR (n := 5) rfl rfl Kx rfl rfl (UpdR.here _ _ _ Nl) (fun _ h => by cases h; exact (sk _ (sk _ sn))) (Nw ?_)
 refine Zr ?_
 refine ek_ret (fun w hw => ⟨rfl, _, run_results_c2 rfl rfl (Kn.hd0 (Kn.tl hw)) UU44 rfl Kx rfl (Kn.hd0 hw) UU44 rfl Kx, ?_⟩)
 exact ⟨rfl, hw.below⟩
def mulF (N : Nat) (xs ys : List Nm) (i k : Nat) : NR := prodsR (fun j => nm xs (i * N + j)) (fun j => nm ys (j * N + k)) N
theorem mul1_any (xs ys : List Nm) (a a' : Option Addr) (c c' : Nat) (N : Nat) (hN : N ≤ 6) (hlx : Hid (xs.length = N * N)) (hly : Hid (ys.length = N * N)) (hox : allOk xs = true) (hoy : allOk ys = true) (i k gm gx gy : Nat) (hi : i < N) (hk : k < N) (w : World) (hA : AS w a (nms xs)) (hB : AS w a' (nms ys)) (hM : Hd w gm 28 #[.int .i64 N, .slice a xs.length c]) (hX : Hd w gx 79 #[.int .i64 N, .slice a xs.length c]) (hY : Hd w gy 79 #[.int .i64 N, .slice a' ys.length c']) : Calls Tryz.prog 120 #[.int .i64 (i : Int), .int .i64 (k : Int), .pointer (some ⟨gm, 0, none⟩), .pointer (some ⟨gx, 0, none⟩), .pointer (some ⟨gy, 0, none⟩)] w fun e w' => e = .returned (numV (mulF N xs ys i k)) ∧ Below w.heap.size w w' := by
 go_enter Tryz.func120, Tryz.ntmps120
 refine wk_start ?_
 refine wk_seq ?_
 refine Wr [1, 1, 1, 0] ?_
 refine Rgn fun g1 => ?_
 simp only [qz]
 refine Rgn fun g2 => ?_
 simp only [qz]
 refine Rgn fun g3 => ?_
 refine Zx ?_
 refine Zr ?_
 refine Wr [0, 0, 0, 1, 0, 0, 1, 0] ?_
 refine Zk ?_
 refine rf_load (v := .int .i64 N) rfl rfl rfl UU3 rfl (fun w hw => (Kn.hdB hw hM (by simp)).at (i := 0) rfl) (Nq ?_)
 refine Zk ?_
 apply rg_pure Rx Kx
 case hargs => exact Ax
 case h => exact fun w hw => products_any N hN (fun j => nm xs (i * N + j)) (fun j => nm ys (j * N + k)) _ (fun j hj => elemOk hox hlx.out hi hj) (fun j hj => elemOk hoy hly.out hj hk) w ⟨_, _, _, rfl, by kernel_rfl, fun w' hb vs r ⟨j, hj, hv, hr⟩ => by
   subst hv hr
   have h := mul11_any xs ys a a' c c' N hN hlx hly i j k gx g1 gy g2 hi hj hk w' ((hA.kn0 hw).below hb) ((hB.kn0 hw).below hb) ((Kn.hdB hw hX (by simp)).belowS hb) ((Kn.hdB hw hY (by simp)).belowS hb) ((Kn.hd0 (Kn.tl (Kn.tl hw))).belowS hb) ((Kn.hd0 (Kn.tl hw)).belowS hb)
   simpa using h⟩
 case hz => exact Nz
 simp only [qz]
 obtain ⟨v, e, hve⟩ := numV_ve2 (prodsR (fun j => nm xs (i * N + j)) (fun j => nm ys (j * N + k)) N)
 rw [hve]
 replace hve := Lib.hid hve
 refine Zx ?_
 refine rf_storeR (n := 5) rfl rfl Kx rfl rfl (UpdR.here _ _ _ Nl) Nz (Nw ?_)
 refine Zx ?_
 refine Zr ?_
 refine ek_ret (fun w hw => ⟨rfl, _, run_results2 rfl rfl (Kn.hd0 hw) UU44 rfl Kx, ?_⟩)
 (try simp only [qz])
 exact ⟨(congrArg Ending.returned hve.out).symm, hw.below⟩
def mulM (n m : Int) (xs ys : List Nm) : LR := if validB n xs && validB m ys then (if n = m then madeR n.toNat (mulF n.toNat xs ys) else .error 21) else .error 20
theorem mul_any (n m : Int) (xs ys : List Nm) (a a' : Option Addr) (c c' : Nat) (hl : xs.length ≤ 1000000) (hl' : ys.length ≤ 1000000) (w : World) (hA : AS w a (nms xs)) (hB : AS w a' (nms ys)) : Calls Tryz.prog 78 #[.agg #[.int .i64 n, .slice a xs.length c], .agg #[.int .i64 m, .slice a' ys.length c']] w fun e w' => RetM w (rN n.toNat (mulM n m xs ys)) (rL (mulM n m xs ys)) (rC (mulM n m xs ys)) e w' := by
 go_enter Tryz.func78, Tryz.ntmps78
 refine wk_start ?_
 refine wk_seq ?_
 refine Wr [1, 1, 1, 0] ?_
 refine Rgn fun g1 => ?_
 simp only [qz]
 refine Rgn fun g2 => ?_
 simp only [qz]
 refine Rgn fun g3 => ?_
 refine Zx ?_
 refine Zr ?_
 refine Wr [0, 1, 0, 0, 0, 1, 0, 0, 0] ?_
 refine rf_loadR (n := 2) rfl rfl rfl UU28 rfl Kx (fun w hw => Kn.hd0 (Kn.tl (Kn.tl hw))) rfl rfl (Nq ?_)
 apply rg_pureb Rx Kx
 case hargs => exact Ax
 case h => exact fun w hw => mvalid_any n xs a c hl w (hA.kn0 hw)
 case hz => exact Nz
 rintro (_ | _) h1 <;> try simp only [qd, ne_eq] at h1
 ·refine Zx ?_
  refine rg_skip_h Rx Nz ?_; refine Zx ?_; refine Zr ?_; refine Wr [0, 1, 0] ?_; refine rf_build (cs := fun a => #[.int .i64 0, .slice none 0 0]) rfl rfl Kx (Nq ?_); refine rf_storeR (n := 2) rfl rfl Kx rfl rfl (UpdR.here _ _ _ Nl) Nz (Nw ?_); refine Zx ?_; refine Zr ?_; refine ek_ret (fun w hw => ⟨rfl, _, run_results2 rfl rfl (Kn.hd0 hw) UU28 rfl Kx, ?_⟩); (try simp only [qz])
  exact retM_err (c := 20) (by unfold mulM; rw [h1]; rfl) hw.below
 simp only [qz]
 have hv := h1
 obtain ⟨N, rfl, hN1, hN, hlx, hlx36, hox⟩ := validB_N' hv
 replace hlx := Lib.hid hlx
 refine Zx ?_
 refine rf_loadR (n := 2) rfl rfl rfl UU28 rfl Kx (fun w hw => Kn.hd0 (Kn.tl hw)) rfl rfl (Nq ?_)
 apply rg_pureb Rx Kx
 case hargs => exact Ax
 case h => exact fun w hw => mvalid_any m ys a' c' hl' w (hB.kn0 hw)
 case hz => exact Nz
 rintro (_ | _) h2 <;> try simp only [qd, ne_eq] at h2
 ·refine Zx ?_
  refine Zr ?_; refine Wr [0, 1, 0] ?_; refine rf_build (cs := fun a => #[.int .i64 0, .slice none 0 0]) rfl rfl Kx (Nq ?_); refine rf_storeR (n := 2) rfl rfl Kx rfl rfl (UpdR.here _ _ _ Nl) Nz (Nw ?_); refine Zx ?_; refine Zr ?_; refine ek_ret (fun w hw => ⟨rfl, _, run_results2 rfl rfl (Kn.hd0 hw) UU28 rfl Kx, ?_⟩); (try simp only [qz])
  exact retM_err (c := 20) (by unfold mulM; rw [h2, Bool.and_false]; rfl) hw.below
 simp only [qz]
 have hv2 := h2
 obtain ⟨M, rfl, hM1, hM, hly, hly36, hoy⟩ := validB_N' hv2
 replace hly := Lib.hid hly
 refine Zx ?_
 refine Zr ?_
 refine Wr [0, 0, 0, 0, 0, 0] ?_
 refine Fd 0 0 UU28 ?_
 refine rf_load rfl rfl rfl UU3 rfl (fun w hw => (Kn.hd0 (Kn.tl (Kn.tl hw))).at rfl) (Nq ?_)
 refine Fd 0 0 UU28 ?_
 refine rf_load rfl rfl rfl UU3 rfl (fun w hw => (Kn.hd0 (Kn.tl hw)).at rfl) (Nq ?_)
 refine rfb_neq rfl rfl rfl rfl ?_
 rintro (_ | _) h3 <;> try simp only [qd, ne_eq] at h3
 ·simp only [qz]
  obtain rfl : N = M := by omega
  have hcp : mulM (N : Int) (N : Int) xs ys = madeR N (mulF N xs ys) := by (unfold mulM; rw [hv, hv2, Bool.and_self, if_pos rfl, if_pos rfl, Int.toNat_natCast])
  replace hcp := Lib.hid hcp
  refine Zx ?_; refine rg_nil (ek_next (wk_cond_f rfl (wk_skip (ek_block (ek_next ?_))))); refine wk_cutF [6, 7, 25, 26, 27, 28] (fun f s => ∃ (gx gy : Nat), f 6 = .pointer (some ⟨gx, 0, none⟩) ∧ f 7 = .pointer (some ⟨gy, 0, none⟩) ∧ s = ((gx, .cells #[.int .i64 N, .slice a xs.length c] 79) :: ((gy, .cells #[.int .i64 N, .slice a' ys.length c'] 79) :: ((g3, .cells #[.int .i64 0, .slice none 0 0] 28) :: ((g2, .cells #[.int .i64 N, .slice a' ys.length c'] 28) :: ((g1, .cells #[.int .i64 N, .slice a xs.length c] 28) :: [])))))) ?_ ?_
  ·refine wk_rt _ Kx (sc _ (sc _ (sc _ sn))) ?_
   refine rt_soft (i := 0) rfl Kx (fun c d v a w h => by cases d <;> exact h) (sc _ (sc _ (sc _ sn))) ?_; refine rf_loadR (n := 2) rfl rfl rfl UU28 rfl Kx (fun w hw => Kn.hd0 (Kn.tl (Kn.tl hw))) rfl rfl (Nq ?_); refine rg_nil ?_; refine ek_rt (sc _ (sc _ (sc _ sn))) ?_; refine rt_soft (i := 1) rfl Kx (fun c d v a w h => by cases d <;> exact h) (sc _ (sc _ (sc _ sn))) ?_; refine rf_build (cs := fun a => #[cellAt (a.eval (.tmp 25)) 0, cellAt (a.eval (.tmp 25)) 1]) rfl rfl Kx (Nq ?_)
   refine rg_nil ?_; refine ek_rt (sc _ (sc _ (sc _ sn))) ?_; refine rt_soft (i := 2) rfl Kx (fun c d v a w h => by cases d <;> exact h) (sc _ (sc _ (sc _ sn))) ?_; refine rf_loadR (n := 2) rfl rfl rfl UU28 rfl Kx (fun w hw => Kn.hd0 (Kn.tl hw)) rfl rfl (Nq ?_); refine rg_nil ?_; refine ek_rt (sc _ (sc _ (sc _ sn))) ?_; refine rt_soft (i := 3) rfl Kx (fun c d v a w h => by cases d <;> exact h) (sc _ (sc _ (sc _ sn))) ?_
   refine rf_build (cs := fun a => #[cellAt (a.eval (.tmp 27)) 0, cellAt (a.eval (.tmp 27)) 1]) rfl rfl Kx (Nq ?_); refine rg_nil ?_; refine ek_rt (sc _ (sc _ (sc _ sn))) ?_; refine rt_hard2 (i := 4) (j := 5) Kx rfl rfl ?_ ?_
   ·refine rg_new (cs := ?_) (ty := ?_) Rx (fun w => ?_) (fun _ h => by cases h; exact (sc _ (sc _ (sc _ sn)))) (fun g4 => ?_); rotate_left 2
    focus (go_simp; rfl)
    simp only [qz]; refine rg_nil ?_; refine ek_rt (sk _ (sc _ (sc _ (sc _ sn)))) ?_; refine rt_hard1 (i := 5) Kx rfl ?_
    refine rg_new (cs := ?_) (ty := ?_) Rx (fun w => ?_) (fun _ h => by cases h; exact (sk _ (sc _ (sc _ (sc _ sn))))) (fun g5 => ?_); rotate_left 2
    focus (go_simp; rfl)
    simp only [qz]; refine rg_nil ?_; refine ek_rt (sk _ (sk _ (sc _ (sc _ (sc _ sn))))) ?_; refine rt_hard1 (i := 6) Kx rfl ?_; refine rf_storeR (n := 2) rfl rfl Kx rfl rfl (UpdR.there _ (UpdR.here _ _ _ Nl)) (fun _ h => by cases h; exact (sk _ (sk _ (sc _ (sc _ (sc _ sn)))))) (Nw ?_); refine rg_nil ?_; refine ek_rt (sk _ (sk _ (sc _ (sc _ (sc _ sn))))) ?_; refine rt_hard1 (i := 7) Kx rfl ?_; refine rf_storeR (n := 2) rfl rfl Kx rfl rfl (UpdR.here _ _ _ Nl) (fun _ h => by cases h; exact (sk _ (sk _ (sc _ (sc _ (sc _ sn)))))) (Nw ?_)
    refine rg_nil ?_; refine ek_rt (sk _ (sk _ (sc _ (sc _ (sc _ sn))))) ?_; refine rt_nil Kx ?_; refine ek_perm (perm_at (l := [_]) (List.Perm.refl _)) ?_; refine ek_midF Kx ?_
    exact ⟨g4, g5, rfl, rfl, by rfl⟩
   refine rg_new (cs := ?_) (ty := ?_) Rx (fun w => ?_) (fun _ h => by cases h; exact (sc _ (sc _ (sc _ sn)))) (fun g6 => ?_); rotate_left 2
   focus (go_simp; rfl)
   simp only [qz]; refine rg_nil ?_; refine ek_rt (sk _ (sc _ (sc _ (sc _ sn)))) ?_; refine rt_hard1 (i := 4) Kx rfl ?_
   refine rg_new (cs := ?_) (ty := ?_) Rx (fun w => ?_) (fun _ h => by cases h; exact (sk _ (sc _ (sc _ (sc _ sn))))) (fun g7 => ?_); rotate_left 2
   focus (go_simp; rfl)
   simp only [qz]; refine rg_nil ?_; refine ek_rt (sk _ (sk _ (sc _ (sc _ (sc _ sn))))) ?_; refine rt_hard1 (i := 6) Kx rfl ?_; refine rf_storeR (n := 2) rfl rfl Kx rfl rfl (UpdR.here _ _ _ Nl) (fun _ h => by cases h; exact (sk _ (sk _ (sc _ (sc _ (sc _ sn)))))) (Nw ?_); refine rg_nil ?_; refine ek_rt (sk _ (sk _ (sc _ (sc _ (sc _ sn))))) ?_; refine rt_hard1 (i := 7) Kx rfl ?_; refine rf_storeR (n := 2) rfl rfl Kx rfl rfl (UpdR.there _ (UpdR.here _ _ _ Nl)) (fun _ h => by cases h; exact (sk _ (sk _ (sc _ (sc _ (sc _ sn)))))) (Nw ?_)
   refine rg_nil ?_; refine ek_rt (sk _ (sk _ (sc _ (sc _ (sc _ sn))))) ?_; refine rt_nil Kx ?_; refine ek_midF Kx ?_
   exact ⟨g7, g6, rfl, rfl, by rfl⟩
  rintro f1 s ⟨gx, gy, hs1_6, hs1_7, rfl⟩
  simp only [Act.putF, List.foldl_cons, List.foldl_nil, hs1_6, hs1_7, Act.put, Act.eval, qW, Nat.reduceAdd, Bool.not_true, Bool.not_false]; clear hs1_6 hs1_7; refine wk_seq ?_; refine Wr [0, 0, 0, 1, 0, 0, 1, 0] ?_; refine Fd 0 0 UU28 ?_; refine rf_load rfl rfl rfl UU3 rfl (fun w hw => (Kn.hd0 (Kn.tl (Kn.tl (Kn.tl (Kn.tl hw))))).at rfl) (Nq ?_); refine Zk ?_; apply rg_retM Rx Kx
  case hargs => exact Ax
  case h => exact fun w hw => made_any N hN (mulF N xs ys) _ (fun i k c hi hk h => by have := prodsR_code h; omega) w ⟨_, _, _, rfl, by kernel_rfl, fun w' hb vs r ⟨i, k, hi, hk, hv, hr⟩ => by
    subst hv hr
    have h := mul1_any xs ys a a' c c' N hN hlx hly hox hoy i k g1 gx gy hi hk w' ((hA.kn0 hw).below hb) ((hB.kn0 hw).below hb) ((Kn.hd0 (Kn.tl (Kn.tl (Kn.tl (Kn.tl hw))))).belowS hb) ((Kn.hd0 hw).belowS hb) ((Kn.hd0 (Kn.tl hw)).belowS hb)
    simpa using h⟩
  case hz => exact Nz
  intro va9 vc9 u9 hO9; refine Zx ?_; refine rf_storeR (n := 2) rfl rfl Kx rfl rfl (UpdR.app _ (UpdR.there _ (UpdR.there _ (UpdR.here _ _ _ Nl)))) Nz (Nw ?_); refine Zx ?_; refine Zr ?_; refine ek_ret (fun w hw => ⟨rfl, _, run_results2 rfl rfl (Kn.hd0 (Kn.tl (Kn.tl (Kn.tlU hw)))) UU28 rfl Kx, ?_⟩); (try simp only [qz])
  exact ⟨.slice va9 _ vc9, u9, by rw [hcp.out]; rfl, by rw [hcp.out]; exact hO9, hw.made (List.sublist_append_left _ _)⟩
 refine Zx ?_
 refine Zr ?_
 refine Wr [0, 1, 0] ?_
 refine rf_build (cs := fun a => #[.int .i64 0, .slice none 0 0]) rfl rfl Kx (Nq ?_)
 refine rf_storeR (n := 2) rfl rfl Kx rfl rfl (UpdR.here _ _ _ Nl) Nz (Nw ?_)
 refine Zx ?_
 refine Zr ?_
 refine ek_ret (fun w hw => ⟨rfl, _, run_results2 rfl rfl (Kn.hd0 hw) UU28 rfl Kx, ?_⟩)
 (try simp only [qz])
 exact retM_err (c := 21) (by unfold mulM; rw [hv, hv2, Bool.and_self, if_pos rfl, if_neg Ox]) hw.below
end Go.Proofs.YthjjkajjpejcdaaGreat
