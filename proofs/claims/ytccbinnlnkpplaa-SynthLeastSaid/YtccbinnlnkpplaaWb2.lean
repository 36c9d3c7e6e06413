/- Exact amplitudes of any size: conjugates, sums. -/
import Derived.Test.YtccbinnlnkpplaaWb1
namespace Go.Proofs.Ytccbinnlnkpplaa
set_option linter.all false
open Go.RowKit

set_option maxRecDepth 100000 in
set_option maxHeartbeats 1000000 in
theorem wconj_any (z : Nm) (s0 s1 s2 s3 : Value) (hz : z.Fit 9850501549098619803069760025035903451269934817616361666987073351061430442874302652853566563721228910201656997576704) (w : World) (hs : SA4 w z s0 s1 s2 s3) : Calls Try.prog 116 #[wdV z s0 s1 s2 s3] w fun e w' => e = .returned (wdV z.conj s0 s3 s2 s1) ∧ Below w.heap.size w w' := by
  obtain ⟨⟨a0, c0, rfl⟩, ⟨a1, c1, rfl⟩, ⟨a2, c2, rfl⟩, ⟨a3, c3, rfl⟩⟩ := (⟨hs.a.form, hs.b.form, hs.c.form, hs.d.form⟩ : _ ∧ _ ∧ _ ∧ _)
  obtain ⟨ha, hb, hc, hd⟩ := hs
  obtain ⟨la, lb, lc, ld⟩ := fit_big hz
  go_enter Try.func116, Try.ntmps116
  refine wk_start ?_
  refine wk_seq ?_
  refine wk_region [1, 1] rfl (by kernel_rfl) ?_
  simp only [List.zip_cons_cons, List.zip_nil_right]
  refine rg_new (cs := ?_) (ty := ?_) (by rfl) (fun w => ?_) (fun _ h => by cases h) (fun g1 => ?_); rotate_left 2
  focus (go_simp; rfl)
  simp only [Act.put, Act.eval, qn, qv, Nat.reduceAdd]
  refine rg_new (cs := ?_) (ty := ?_) (by rfl) (fun w => ?_) (fun _ h => by cases h) (fun g2 => ?_); rotate_left 2
  focus (go_simp; rfl)
  simp only [Act.put, Act.eval, qn, qv, Nat.reduceAdd]
  refine rg_nil ?_
  refine ek_next ?_
  refine wk_seq ?_
  refine wk_draws_m (hz1 := (sk _ (sc _ sn))) [(0, 0), (1, 0), (2, 0), (3, 0), (4, 0), (5, 0), (7, 0), (8, 0), (9, 0), (11, 0), (12, 0), (13, 0), (16, 0), (17, 0), (6, 1), (10, 1), (14, 1), (15, 0), (18, 0), (19, 2)] 19 (by kernel_rfl) (by kernel_rfl) (fun c d v a w h => by cases d <;> exact h) ?_
  simp only [List.map_cons, List.map_nil, List.getD_cons_zero, List.getD_cons_succ]
  refine rf_field (n := 7) (j := 0) rfl rfl rfl Try.underlying70 rfl (by kernel_rfl) rfl ?_
  simp only [Act.put, Act.eval, qn, qv, Nat.reduceAdd]
  refine rf_indexA (n := 0) (sz := 2) (j := 0) rfl rfl rfl rfl Try.underlying68 (by kernel_rfl) (by decide) rfl ?_
  simp only [Act.put, Act.eval, qn, qv, Nat.reduceAdd]
  refine rf_loadR (n := 2) rfl rfl rfl Try.underlying67 rfl (by kernel_rfl) (fun w hw => Kn.hd0 (Kn.tl hw)) rfl rfl ?_
  simp only [Act.put, Act.eval, qn, qv, Nat.reduceAdd]
  refine rf_field (n := 7) (j := 0) rfl rfl rfl Try.underlying70 rfl (by kernel_rfl) rfl ?_
  simp only [Act.put, Act.eval, qn, qv, Nat.reduceAdd]
  refine rf_indexA (n := 3) (sz := 2) (j := 6) rfl rfl rfl rfl Try.underlying68 (by kernel_rfl) (by decide) rfl ?_
  simp only [Act.put, Act.eval, qn, qv, Nat.reduceAdd]
  refine rf_loadR (n := 2) rfl rfl rfl Try.underlying67 rfl (by kernel_rfl) (fun w hw => Kn.hd0 (Kn.tl hw)) rfl rfl ?_
  simp only [Act.put, Act.eval, qn, qv, Nat.reduceAdd]
  refine rf_field (n := 7) (j := 0) rfl rfl rfl Try.underlying70 rfl (by kernel_rfl) rfl ?_
  simp only [Act.put, Act.eval, qn, qv, Nat.reduceAdd]
  refine rf_indexA (n := 2) (sz := 2) (j := 4) rfl rfl rfl rfl Try.underlying68 (by kernel_rfl) (by decide) rfl ?_
  simp only [Act.put, Act.eval, qn, qv, Nat.reduceAdd]
  refine rf_loadR (n := 2) rfl rfl rfl Try.underlying67 rfl (by kernel_rfl) (fun w hw => Kn.hd0 (Kn.tl hw)) rfl rfl ?_
  simp only [Act.put, Act.eval, qn, qv, Nat.reduceAdd]
  refine rf_field (n := 7) (j := 0) rfl rfl rfl Try.underlying70 rfl (by kernel_rfl) rfl ?_
  simp only [Act.put, Act.eval, qn, qv, Nat.reduceAdd]
  refine rf_indexA (n := 1) (sz := 2) (j := 2) rfl rfl rfl rfl Try.underlying68 (by kernel_rfl) (by decide) rfl ?_
  simp only [Act.put, Act.eval, qn, qv, Nat.reduceAdd]
  refine rf_loadR (n := 2) rfl rfl rfl Try.underlying67 rfl (by kernel_rfl) (fun w hw => Kn.hd0 (Kn.tl hw)) rfl rfl ?_
  simp only [Act.put, Act.eval, qn, qv, Nat.reduceAdd]
  refine rf_field (n := 0) (j := 8) rfl rfl rfl Try.underlying70 rfl (by kernel_rfl) rfl ?_
  simp only [Act.put, Act.eval, qn, qv, Nat.reduceAdd]
  refine rf_load rfl rfl rfl Try.underlying3 rfl (fun w hw => (Kn.hd0 (Kn.tl hw)).at rfl) ?_
  simp only [Act.put, Act.eval, qn, qv, Nat.reduceAdd]
  apply rg_pure (by rfl) (by kernel_rfl)
  case hargs => (simp only [qm, qs, Act.eval]; exact rfl)
  case h => exact fun w hw => bneg_any z.d _ ld w (hd.kn hw)
  case hz => exact (fun _ h => by cases h; exact (sc _ (sc _ sn)))
  simp only [Act.put, Act.eval, qn, qv, Nat.reduceAdd]
  apply rg_pure (by rfl) (by kernel_rfl)
  case hargs => (simp only [qm, qs, Act.eval]; exact rfl)
  case h => exact fun w hw => bneg_any z.c _ lc w (hc.kn hw)
  case hz => exact (fun _ h => by cases h; exact (sc _ (sc _ sn)))
  simp only [Act.put, Act.eval, qn, qv, Nat.reduceAdd]
  apply rg_pure (by rfl) (by kernel_rfl)
  case hargs => (simp only [qm, qs, Act.eval]; exact rfl)
  case h => exact fun w hw => bneg_any z.b _ lb w (hb.kn hw)
  case hz => exact (fun _ h => by cases h; exact (sc _ (sc _ sn)))
  simp only [Act.put, Act.eval, qn, qv, Nat.reduceAdd]
  refine rf_build (cs := fun a => #[cellAt (a.eval (.tmp 5)) 0, cellAt (a.eval (.tmp 5)) 1, cellAt (a.eval (.tmp 9)) 0, cellAt (a.eval (.tmp 9)) 1, cellAt (a.eval (.tmp 13)) 0, cellAt (a.eval (.tmp 13)) 1, cellAt (a.eval (.tmp 17)) 0, cellAt (a.eval (.tmp 17)) 1]) rfl rfl (by kernel_rfl) ?_
  simp only [Act.put, Act.eval, qn, qv, Nat.reduceAdd]
  refine rf_build (cs := fun a => #[cellAt (a.eval (.tmp 18)) 0, cellAt (a.eval (.tmp 18)) 1, cellAt (a.eval (.tmp 18)) 2, cellAt (a.eval (.tmp 18)) 3, cellAt (a.eval (.tmp 18)) 4, cellAt (a.eval (.tmp 18)) 5, cellAt (a.eval (.tmp 18)) 6, cellAt (a.eval (.tmp 18)) 7, a.eval (.tmp 20)]) rfl rfl (by kernel_rfl) ?_
  simp only [Act.put, Act.eval, qn, qv, Nat.reduceAdd]
  refine rf_storeRM (n := 9) rfl rfl (by kernel_rfl) rfl rfl (UpdR.here _ _ _ (Nat.le_of_ble_eq_true rfl)) (sk _ (sc _ sn)) ?_
  simp only [Act.put, Act.eval, qn, qv, Nat.reduceAdd]
  refine rg_nil ?_
  refine ek_next ?_
  refine wk_ret ?_
  refine ek_ret (fun w hw => ⟨rfl, _, run_results1 rfl rfl (Kn.hd0 hw) Try.underlying70 rfl (by kernel_rfl), ?_⟩)
  (try simp only [Act.put, Act.eval, qn, qv, Nat.reduceAdd])
  first | exact ⟨rfl, hw.below⟩ | exact ⟨trivial, hw.below⟩ | exact hw.below

theorem up_fit_of {z : Nm} {m j : Nat} {M : Int} (h : (Nm.up m z).Fit M) (hj : j ≤ m) : (Nm.up j z).Fit M := by
  induction m with
  | zero => obtain rfl : j = 0 := (by omega); exact h
  | succ m ih =>
    by_cases e : j = m + 1
    · subst e; exact h
    · refine ih ?_ (by omega)
      rw [Nm.up_succ1] at h
      have := Nm.step_fit h
      rwa [Nm.step_tr] at this
theorem addR_up {x y z v : Nm} {i j : Nat} (hx : Nm.up j x = z) (hy : Nm.up i y = v) (hk : z.k = v.k) (h1 : z.k = x.k + j) (h2 : j = 0 ∨ i = 0) : x.addR y = ⟨z.a + v.a, z.b + v.b, z.c + v.c, z.d + v.d, z.k⟩ := by
  have h3 : v.k = y.k + i := by rw [← hy, Nm.up_k]
  have hm : max x.k y.k = z.k := by omega
  have e1 : x.to (max x.k y.k) = z := by unfold Nm.to; rw [← hx]; congr 1; omega
  have e2 : y.to (max x.k y.k) = v := by unfold Nm.to; rw [← hy]; congr 1; omega
  unfold Nm.addR
  dsimp only
  rw [e1, e2, hm]
set_option maxRecDepth 100000 in
set_option maxHeartbeats 4000000 in
theorem wplus_any (x y : Nm) (s0 s1 s2 s3 : Value) (p0 p1 p2 p3 : Value) (hx : (x.to (max x.k y.k)).Fit 9850501549098619803069760025035903451269934817616361666987073351061430442874302652853566563721228910201656997576704) (hy : (y.to (max x.k y.k)).Fit 9850501549098619803069760025035903451269934817616361666987073351061430442874302652853566563721228910201656997576704) (hk : 0 ≤ x.k) (hk1 : x.k ≤ 10000) (hk2 : 0 ≤ y.k) (hk3 : y.k ≤ 10000) (w : World) (hs : SA4 w x s0 s1 s2 s3) (hs2 : SA4 w y p0 p1 p2 p3) : Calls Try.prog 52 #[wdV x s0 s1 s2 s3, wdV y p0 p1 p2 p3] w fun e w' => RetW w (x.addR y) e w' := by
  obtain ⟨⟨a0, c0, rfl⟩, ⟨a1, c1, rfl⟩, ⟨a2, c2, rfl⟩, ⟨a3, c3, rfl⟩⟩ := (⟨hs.a.form, hs.b.form, hs.c.form, hs.d.form⟩ : _ ∧ _ ∧ _ ∧ _)
  obtain ⟨⟨b0, d0, rfl⟩, ⟨b1, d1, rfl⟩, ⟨b2, d2, rfl⟩, ⟨b3, d3, rfl⟩⟩ := (⟨hs2.a.form, hs2.b.form, hs2.c.form, hs2.d.form⟩ : _ ∧ _ ∧ _ ∧ _)
  go_enter Try.func52, Try.ntmps52
  refine wk_start ?_
  refine wk_seq ?_
  refine wk_region [1, 1, 1] rfl (by kernel_rfl) ?_
  simp only [List.zip_cons_cons, List.zip_nil_right]
  refine rg_new (cs := ?_) (ty := ?_) (by rfl) (fun w => ?_) (fun _ h => by cases h) (fun g1 => ?_); rotate_left 2
  focus (go_simp; rfl)
  simp only [Act.put, Act.eval, qn, qv, Nat.reduceAdd]
  refine rg_new (cs := ?_) (ty := ?_) (by rfl) (fun w => ?_) (fun _ h => by cases h) (fun g2 => ?_); rotate_left 2
  focus (go_simp; rfl)
  simp only [Act.put, Act.eval, qn, qv, Nat.reduceAdd]
  refine rg_new (cs := ?_) (ty := ?_) (by rfl) (fun w => ?_) (fun _ h => by cases h) (fun g3 => ?_); rotate_left 2
  focus (go_simp; rfl)
  simp only [Act.put, Act.eval, qn, qv, Nat.reduceAdd]
  refine rg_nil ?_
  refine ek_next ?_
  refine wk_seq ?_
  refine wk_block ?_
  refine wk_loopF [6, 7, 8, 9, 10, 11, 12, 13, 14, 15, 16, 17, 18] (fun mz f s => ∃ (j : Nat) (z : Nm) (ta0 ta1 ta2 ta3 : Option Addr) (tc0 tc1 tc2 tc3 : Nat) (u : List Blk), s = (u ++ ((g3, .cells #[.bool false, .slice none 0 0, .bool false, .slice none 0 0, .bool false, .slice none 0 0, .bool false, .slice none 0 0, .int .i64 0] 70) :: ((g2, .cells #[.bool (decide (y.a < 0)), .slice b0 (digs y.a.natAbs).length d0, .bool (decide (y.b < 0)), .slice b1 (digs y.b.natAbs).length d1, .bool (decide (y.c < 0)), .slice b2 (digs y.c.natAbs).length d2, .bool (decide (y.d < 0)), .slice b3 (digs y.d.natAbs).length d3, .int .i64 y.k] 70) :: ((g1, .cells #[.bool (decide (z.a < 0)), .slice ta0 (digs z.a.natAbs).length tc0, .bool (decide (z.b < 0)), .slice ta1 (digs z.b.natAbs).length tc1, .bool (decide (z.c < 0)), .slice ta2 (digs z.c.natAbs).length tc2, .bool (decide (z.d < 0)), .slice ta3 (digs z.d.natAbs).length tc3, .int .i64 z.k] 70) :: [])))) ∧ mz = 20000 - j ∧ Nm.up j x = z ∧ SK4 w u z (.slice ta0 (digs z.a.natAbs).length tc0) (.slice ta1 (digs z.b.natAbs).length tc1) (.slice ta2 (digs z.c.natAbs).length tc2) (.slice ta3 (digs z.d.natAbs).length tc3) ∧ z.Fit 9850501549098619803069760025035903451269934817616361666987073351061430442874302652853566563721228910201656997576704 ∧ z.k ≤ x.k + j ∧ x.k + j ≤ z.k ∧ (j = 0 ∨ z.k ≤ y.k)) ((fun (j : Nat) (z : Nm) (ta0 ta1 ta2 ta3 : Option Addr) (tc0 tc1 tc2 tc3 : Nat) (u : List Blk) => 20000 - j) (0) (x) (a0) (a1) (a2) (a3) (c0) (c1) (c2) (c3) ([])) ?_ (by kernel_rfl) ?_
  · exact ⟨0, x, a0, a1, a2, a3, c0, c1, c2, c3, [], rfl, rfl, rfl, SK4.arg hs, up_fit_of (j := 0) hx (by omega), by omega, by omega, .inl rfl⟩
  rintro mz f1 s ⟨j, z, ta0, ta1, ta2, ta3, tc0, tc1, tc2, tc3, u, rfl, hn, hc1, hc2, hc3, hc4, hc5, hc6⟩
  simp only [Act.putF, List.foldl_cons, List.foldl_nil, Act.put, Act.eval, q1, q2, q3, q4, q5, q6, q7, q8, q9, q10, q11, q12, q13, q14, q15, q16, q17, q18, Nat.reduceAdd, Bool.not_true, Bool.not_false]
  have hz0 := Lib.hid hc1
  clear hc1
  have hsk0 := hc2
  have hfit0 := hc3
  refine wk_seq ?_
  refine wk_seq ?_
  refine wk_region [0, 0, 0, 0, 0] rfl (by kernel_rfl) ?_
  simp only [List.zip_cons_cons, List.zip_nil_right]
  refine rf_field (n := 0) (j := 8) rfl rfl rfl Try.underlying70 rfl (by kernel_rfl) rfl ?_
  simp only [Act.put, Act.eval, qn, qv, Nat.reduceAdd]
  refine rf_load rfl rfl rfl Try.underlying3 rfl (fun w hw => (Kn.hd0 (Kn.tl (Kn.tl (Kn.tlU hw)))).at rfl) ?_
  simp only [Act.put, Act.eval, qn, qv, Nat.reduceAdd]
  refine rf_field (n := 0) (j := 8) rfl rfl rfl Try.underlying70 rfl (by kernel_rfl) rfl ?_
  simp only [Act.put, Act.eval, qn, qv, Nat.reduceAdd]
  refine rf_load rfl rfl rfl Try.underlying3 rfl (fun w hw => (Kn.hd0 (Kn.tl (Kn.tlU hw))).at rfl) ?_
  simp only [Act.put, Act.eval, qn, qv, Nat.reduceAdd]
  refine rfb_lss rfl rfl rfl rfl ?_
  intro x h1
  cases x
  · (try simp only [decide_eq_true_eq, decide_eq_false_iff_not, Int.not_lt, Int.not_le, beq_iff_eq, beq_eq_false_iff_ne, bne_iff_ne, bne_eq_false_iff_eq, ne_eq, Bool.not_eq_true', Bool.not_eq_false'] at h1)
    simp only [Act.put, Act.eval, qn, qv, Nat.reduceAdd]
    refine rg_nil ?_
    refine ek_next ?_
    refine wk_cond_f rfl ?_
    refine wk_exit ?_
    refine ek_then_exit ?_
    refine ek_then_exit ?_
    refine ek_block_exit ?_
    refine ek_next ?_
    refine wk_seq ?_
    refine wk_block ?_
    refine wk_loopF [19, 20, 21, 22, 23, 24, 25, 26, 27, 28, 29, 30, 31] (fun mz f s => ∃ (i : Nat) (z2 : Nm) (pa0 pa1 pa2 pa3 : Option Addr) (pc0 pc1 pc2 pc3 : Nat) (u2 : List Blk), s = (u2 ++ (u ++ ((g3, .cells #[.bool false, .slice none 0 0, .bool false, .slice none 0 0, .bool false, .slice none 0 0, .bool false, .slice none 0 0, .int .i64 0] 70) :: ((g2, .cells #[.bool (decide (z2.a < 0)), .slice pa0 (digs z2.a.natAbs).length pc0, .bool (decide (z2.b < 0)), .slice pa1 (digs z2.b.natAbs).length pc1, .bool (decide (z2.c < 0)), .slice pa2 (digs z2.c.natAbs).length pc2, .bool (decide (z2.d < 0)), .slice pa3 (digs z2.d.natAbs).length pc3, .int .i64 z2.k] 70) :: ((g1, .cells #[.bool (decide (z.a < 0)), .slice ta0 (digs z.a.natAbs).length tc0, .bool (decide (z.b < 0)), .slice ta1 (digs z.b.natAbs).length tc1, .bool (decide (z.c < 0)), .slice ta2 (digs z.c.natAbs).length tc2, .bool (decide (z.d < 0)), .slice ta3 (digs z.d.natAbs).length tc3, .int .i64 z.k] 70) :: []))))) ∧ mz = 20000 - i ∧ Nm.up i y = z2 ∧ SK4 w u2 z2 (.slice pa0 (digs z2.a.natAbs).length pc0) (.slice pa1 (digs z2.b.natAbs).length pc1) (.slice pa2 (digs z2.c.natAbs).length pc2) (.slice pa3 (digs z2.d.natAbs).length pc3) ∧ z2.Fit 9850501549098619803069760025035903451269934817616361666987073351061430442874302652853566563721228910201656997576704 ∧ z2.k ≤ y.k + i ∧ y.k + i ≤ z2.k ∧ (i = 0 ∨ z2.k ≤ z.k)) ((fun (i : Nat) (z2 : Nm) (pa0 pa1 pa2 pa3 : Option Addr) (pc0 pc1 pc2 pc3 : Nat) (u2 : List Blk) => 20000 - i) (0) (y) (b0) (b1) (b2) (b3) (d0) (d1) (d2) (d3) ([])) ?_ (by kernel_rfl) ?_
    · exact ⟨0, y, b0, b1, b2, b3, d0, d1, d2, d3, [], rfl, rfl, rfl, SK4.arg hs2, up_fit_of (j := 0) hy (by omega), by omega, by omega, .inl rfl⟩
    rintro mz f2 s ⟨i, z2, pa0, pa1, pa2, pa3, pc0, pc1, pc2, pc3, u2, rfl, hn, hd1, hd2, hd3, hd4, hd5, hd6⟩
    simp only [Act.putF, List.foldl_cons, List.foldl_nil, Act.put, Act.eval, q1, q2, q3, q4, q5, q6, q7, q8, q9, q10, q11, q12, q13, q14, q15, q16, q17, q18, Nat.reduceAdd, Bool.not_true, Bool.not_false]
    have hz1 := Lib.hid hd1
    clear hd1
    have hsk1 := hd2
    have hfit1 := hd3
    refine wk_seq ?_
    refine wk_seq ?_
    refine wk_region [0, 0, 0, 0, 0] rfl (by kernel_rfl) ?_
    simp only [List.zip_cons_cons, List.zip_nil_right]
    refine rf_field (n := 0) (j := 8) rfl rfl rfl Try.underlying70 rfl (by kernel_rfl) rfl ?_
    simp only [Act.put, Act.eval, qn, qv, Nat.reduceAdd]
    refine rf_load rfl rfl rfl Try.underlying3 rfl (fun w hw => (Kn.hd0 (Kn.tl (Kn.tlU (Kn.tlU hw)))).at rfl) ?_
    simp only [Act.put, Act.eval, qn, qv, Nat.reduceAdd]
    refine rf_field (n := 0) (j := 8) rfl rfl rfl Try.underlying70 rfl (by kernel_rfl) rfl ?_
    simp only [Act.put, Act.eval, qn, qv, Nat.reduceAdd]
    refine rf_load rfl rfl rfl Try.underlying3 rfl (fun w hw => (Kn.hd0 (Kn.tl (Kn.tl (Kn.tlU (Kn.tlU hw))))).at rfl) ?_
    simp only [Act.put, Act.eval, qn, qv, Nat.reduceAdd]
    refine rfb_lss rfl rfl rfl rfl ?_
    intro x h2
    cases x
    · (try simp only [decide_eq_true_eq, decide_eq_false_iff_not, Int.not_lt, Int.not_le, beq_iff_eq, beq_eq_false_iff_ne, bne_iff_ne, bne_eq_false_iff_eq, ne_eq, Bool.not_eq_true', Bool.not_eq_false'] at h2)
      simp only [Act.put, Act.eval, qn, qv, Nat.reduceAdd]
      refine rg_nil ?_
      refine ek_next ?_
      refine wk_cond_f rfl ?_
      refine wk_exit ?_
      refine ek_then_exit ?_
      refine ek_then_exit ?_
      refine ek_block_exit ?_
      refine ek_next ?_
      refine wk_seq ?_
      refine wk_seq ?_
      refine wk_region [0] rfl (by kernel_rfl) ?_
      simp only [List.zip_cons_cons, List.zip_nil_right]
      refine rg_assign ?_
      simp only [Act.put, Act.eval, qn, qv, Nat.reduceAdd]
      refine rg_nil ?_
      refine ek_next ?_
      refine wk_block ?_
      refine wk_unroll 4 ?_
      refine wk_seq ?_
      refine wk_seq ?_
      refine wk_region [0, 0] rfl (by kernel_rfl) ?_
      simp only [List.zip_cons_cons, List.zip_nil_right]
      refine rg_move ?_
      simp only [Act.put, Act.eval, qn, qv, Nat.reduceAdd]
      refine rf_lss (b := true) rfl rfl rfl rfl (by decide) ?_
      simp only [Act.put, Act.eval, qn, qv, Nat.reduceAdd]
      refine rg_nil ?_
      refine ek_next ?_
      refine wk_cond_t rfl ?_
      refine wk_skip ?_
      refine ek_next ?_
      refine wk_seq ?_
      refine wk_block ?_
      refine wk_draws_m (hz1 := (List.Sublist.append_left (List.Sublist.append_left (sc _ (sc _ (sk _ sn))) _) _)) [(0, 0), (1, 0), (2, 0), (3, 0), (4, 0), (5, 0), (6, 0), (7, 0), (8, 0), (10, 3), (9, 1), (11, 0), (12, 2)] 12 (by kernel_rfl) (by kernel_rfl) (fun c d v a w h => by cases d <;> exact h) ?_
      simp only [List.map_cons, List.map_nil, List.getD_cons_zero, List.getD_cons_succ]
      refine rg_move ?_
      simp only [Act.put, Act.eval, qn, qv, Nat.reduceAdd]
      refine rg_move ?_
      simp only [Act.put, Act.eval, qn, qv, Nat.reduceAdd]
      refine rf_field (n := 7) (j := 0) rfl rfl rfl Try.underlying70 rfl (by kernel_rfl) rfl ?_
      simp only [Act.put, Act.eval, qn, qv, Nat.reduceAdd]
      refine rf_indexA (n := 0) (sz := 2) (j := 0) rfl rfl rfl rfl Try.underlying68 (by kernel_rfl) (by decide) rfl ?_
      simp only [Act.put, Act.eval, qn, qv, Nat.reduceAdd]
      refine rf_loadR (n := 2) rfl rfl rfl Try.underlying67 rfl (by kernel_rfl) (fun w hw => Kn.hd0 (Kn.tl (Kn.tl (Kn.tlU (Kn.tlU hw))))) rfl rfl ?_
      simp only [Act.put, Act.eval, qn, qv, Nat.reduceAdd]
      refine rg_move ?_
      simp only [Act.put, Act.eval, qn, qv, Nat.reduceAdd]
      refine rf_field (n := 7) (j := 0) rfl rfl rfl Try.underlying70 rfl (by kernel_rfl) rfl ?_
      simp only [Act.put, Act.eval, qn, qv, Nat.reduceAdd]
      refine rf_indexA (n := 0) (sz := 2) (j := 0) rfl rfl rfl rfl Try.underlying68 (by kernel_rfl) (by decide) rfl ?_
      simp only [Act.put, Act.eval, qn, qv, Nat.reduceAdd]
      refine rf_loadR (n := 2) rfl rfl rfl Try.underlying67 rfl (by kernel_rfl) (fun w hw => Kn.hd0 (Kn.tl (Kn.tlU (Kn.tlU hw)))) rfl rfl ?_
      simp only [Act.put, Act.eval, qn, qv, Nat.reduceAdd]
      refine rf_field (n := 7) (j := 0) rfl rfl rfl Try.underlying70 rfl (by kernel_rfl) rfl ?_
      simp only [Act.put, Act.eval, qn, qv, Nat.reduceAdd]
      obtain ⟨la, lb, lc, ld⟩ := fit_big hfit0
      obtain ⟨ma, mb, mc, md⟩ := fit_big hfit1
      apply (rg_made (T := fun v u => ∃ s, v = bgV (z.a + z2.a) s ∧ SU u s (z.a + z2.a).natAbs)) (by rfl) (by kernel_rfl)
      case hargs => (simp only [qm, qs, Act.eval]; exact rfl)
      case h => exact fun w hw => badd_any z.a z2.a _ _ la ma w (hsk0.a.at hw ((List.sublist_append_left _ _).trans (List.sublist_append_right _ _))) (hsk1.a.at hw (List.sublist_append_left _ _))
      case hz => exact (fun _ h => by cases h; exact (List.Sublist.append_left (List.Sublist.append_left (sc _ (sc _ (sc _ sn))) _) _))
      rintro _ u4 ⟨s4, rfl, hS4⟩
      obtain ⟨⟨sa4, sc4, rfl⟩, -⟩ := id hS4
      simp only [Act.put, Act.eval, qn, qv, Nat.reduceAdd]
      refine rf_indexA (n := 0) (sz := 2) (j := 0) rfl rfl rfl rfl Try.underlying68 (by kernel_rfl) (by decide) rfl ?_
      simp only [Act.put, Act.eval, qn, qv, Nat.reduceAdd]
      refine rf_storeRM (n := 2) rfl rfl (by kernel_rfl) rfl rfl (UpdR.app _ (UpdR.app _ (UpdR.app _ (UpdR.there _ (UpdR.there _ (UpdR.here _ _ _ (Nat.le_of_ble_eq_true rfl))))))) ((List.Sublist.append_left (List.Sublist.append_left (sc _ (sc _ (sk _ sn))) _) _).trans (List.sublist_append_right _ _)) ?_
      simp only [Act.put, Act.eval, qn, qv, Nat.reduceAdd]
      refine rg_nil ?_
      refine ek_block ?_
      refine ek_next ?_
      refine wk_region [0, 0, 0] rfl (by kernel_rfl) ?_
      simp only [List.zip_cons_cons, List.zip_nil_right]
      refine rg_move ?_
      simp only [Act.put, Act.eval, qn, qv, Nat.reduceAdd]
      refine rf_add (r := 1) rfl rfl rfl rfl (by decide) ?_
      simp only [Act.put, Act.eval, qn, qv, Nat.reduceAdd]
      refine rg_assign ?_
      simp only [Act.put, Act.eval, qn, qv, Nat.reduceAdd]
      refine rg_nil ?_
      refine ek_again ?_
      refine wk_seq ?_
      refine wk_seq ?_
      refine wk_region [0, 0] rfl (by kernel_rfl) ?_
      simp only [List.zip_cons_cons, List.zip_nil_right]
      refine rg_move ?_
      simp only [Act.put, Act.eval, qn, qv, Nat.reduceAdd]
      refine rf_lss (b := true) rfl rfl rfl rfl (by decide) ?_
      simp only [Act.put, Act.eval, qn, qv, Nat.reduceAdd]
      refine rg_nil ?_
      refine ek_next ?_
      refine wk_cond_t rfl ?_
      refine wk_skip ?_
      refine ek_next ?_
      refine wk_seq ?_
      refine wk_block ?_
      refine wk_draws_m (hz1 := (List.Sublist.append_left (List.Sublist.append_left (List.Sublist.append_left (sc _ (sc _ (sk _ sn))) _) _) _)) [(0, 0), (1, 0), (2, 0), (3, 0), (4, 0), (5, 0), (6, 0), (7, 0), (8, 0), (10, 3), (9, 1), (11, 0), (12, 2)] 12 (by kernel_rfl) (by kernel_rfl) (fun c d v a w h => by cases d <;> exact h) ?_
      simp only [List.map_cons, List.map_nil, List.getD_cons_zero, List.getD_cons_succ]
      refine rg_move ?_
      simp only [Act.put, Act.eval, qn, qv, Nat.reduceAdd]
      refine rg_move ?_
      simp only [Act.put, Act.eval, qn, qv, Nat.reduceAdd]
      refine rf_field (n := 7) (j := 0) rfl rfl rfl Try.underlying70 rfl (by kernel_rfl) rfl ?_
      simp only [Act.put, Act.eval, qn, qv, Nat.reduceAdd]
      refine rf_indexA (n := 1) (sz := 2) (j := 2) rfl rfl rfl rfl Try.underlying68 (by kernel_rfl) (by decide) rfl ?_
      simp only [Act.put, Act.eval, qn, qv, Nat.reduceAdd]
      refine rf_loadR (n := 2) rfl rfl rfl Try.underlying67 rfl (by kernel_rfl) (fun w hw => Kn.hd0 (Kn.tl (Kn.tl (Kn.tlU (Kn.tlU (Kn.tlU hw)))))) rfl rfl ?_
      simp only [Act.put, Act.eval, qn, qv, Nat.reduceAdd]
      refine rg_move ?_
      simp only [Act.put, Act.eval, qn, qv, Nat.reduceAdd]
      refine rf_field (n := 7) (j := 0) rfl rfl rfl Try.underlying70 rfl (by kernel_rfl) rfl ?_
      simp only [Act.put, Act.eval, qn, qv, Nat.reduceAdd]
      refine rf_indexA (n := 1) (sz := 2) (j := 2) rfl rfl rfl rfl Try.underlying68 (by kernel_rfl) (by decide) rfl ?_
      simp only [Act.put, Act.eval, qn, qv, Nat.reduceAdd]
      refine rf_loadR (n := 2) rfl rfl rfl Try.underlying67 rfl (by kernel_rfl) (fun w hw => Kn.hd0 (Kn.tl (Kn.tlU (Kn.tlU (Kn.tlU hw))))) rfl rfl ?_
      simp only [Act.put, Act.eval, qn, qv, Nat.reduceAdd]
      refine rf_field (n := 7) (j := 0) rfl rfl rfl Try.underlying70 rfl (by kernel_rfl) rfl ?_
      simp only [Act.put, Act.eval, qn, qv, Nat.reduceAdd]
      apply (rg_made (T := fun v u => ∃ s, v = bgV (z.b + z2.b) s ∧ SU u s (z.b + z2.b).natAbs)) (by rfl) (by kernel_rfl)
      case hargs => (simp only [qm, qs, Act.eval]; exact rfl)
      case h => exact fun w hw => badd_any z.b z2.b _ _ lb mb w (hsk0.b.at hw (((List.sublist_append_left _ _).trans (List.sublist_append_right _ _)).trans (List.sublist_append_right _ _))) (hsk1.b.at hw ((List.sublist_append_left _ _).trans (List.sublist_append_right _ _)))
      case hz => exact (fun _ h => by cases h; exact (List.Sublist.append_left (List.Sublist.append_left (List.Sublist.append_left (sc _ (sc _ (sc _ sn))) _) _) _))
      rintro _ u5 ⟨s5, rfl, hS5⟩
      obtain ⟨⟨sa5, sc5, rfl⟩, -⟩ := id hS5
      simp only [Act.put, Act.eval, qn, qv, Nat.reduceAdd]
      refine rf_indexA (n := 1) (sz := 2) (j := 2) rfl rfl rfl rfl Try.underlying68 (by kernel_rfl) (by decide) rfl ?_
      simp only [Act.put, Act.eval, qn, qv, Nat.reduceAdd]
      refine rf_storeRM (n := 2) rfl rfl (by kernel_rfl) rfl rfl (UpdR.app _ (UpdR.app _ (UpdR.app _ (UpdR.app _ (UpdR.there _ (UpdR.there _ (UpdR.here _ _ _ (Nat.le_of_ble_eq_true rfl)))))))) ((List.Sublist.append_left (List.Sublist.append_left (List.Sublist.append_left (sc _ (sc _ (sk _ sn))) _) _) _).trans (List.sublist_append_right _ _)) ?_
      simp only [Act.put, Act.eval, qn, qv, Nat.reduceAdd]
      refine rg_nil ?_
      refine ek_block ?_
      refine ek_next ?_
      refine wk_region [0, 0, 0] rfl (by kernel_rfl) ?_
      simp only [List.zip_cons_cons, List.zip_nil_right]
      refine rg_move ?_
      simp only [Act.put, Act.eval, qn, qv, Nat.reduceAdd]
      refine rf_add (r := 2) rfl rfl rfl rfl (by decide) ?_
      simp only [Act.put, Act.eval, qn, qv, Nat.reduceAdd]
      refine rg_assign ?_
      simp only [Act.put, Act.eval, qn, qv, Nat.reduceAdd]
      refine rg_nil ?_
      refine ek_again ?_
      refine wk_seq ?_
      refine wk_seq ?_
      refine wk_region [0, 0] rfl (by kernel_rfl) ?_
      simp only [List.zip_cons_cons, List.zip_nil_right]
      refine rg_move ?_
      simp only [Act.put, Act.eval, qn, qv, Nat.reduceAdd]
      refine rf_lss (b := true) rfl rfl rfl rfl (by decide) ?_
      simp only [Act.put, Act.eval, qn, qv, Nat.reduceAdd]
      refine rg_nil ?_
      refine ek_next ?_
      refine wk_cond_t rfl ?_
      refine wk_skip ?_
      refine ek_next ?_
      refine wk_seq ?_
      refine wk_block ?_
      refine wk_draws_m (hz1 := (List.Sublist.append_left (List.Sublist.append_left (List.Sublist.append_left (List.Sublist.append_left (sc _ (sc _ (sk _ sn))) _) _) _) _)) [(0, 0), (1, 0), (2, 0), (3, 0), (4, 0), (5, 0), (6, 0), (7, 0), (8, 0), (10, 3), (9, 1), (11, 0), (12, 2)] 12 (by kernel_rfl) (by kernel_rfl) (fun c d v a w h => by cases d <;> exact h) ?_
      simp only [List.map_cons, List.map_nil, List.getD_cons_zero, List.getD_cons_succ]
      refine rg_move ?_
      simp only [Act.put, Act.eval, qn, qv, Nat.reduceAdd]
      refine rg_move ?_
      simp only [Act.put, Act.eval, qn, qv, Nat.reduceAdd]
      refine rf_field (n := 7) (j := 0) rfl rfl rfl Try.underlying70 rfl (by kernel_rfl) rfl ?_
      simp only [Act.put, Act.eval, qn, qv, Nat.reduceAdd]
      refine rf_indexA (n := 2) (sz := 2) (j := 4) rfl rfl rfl rfl Try.underlying68 (by kernel_rfl) (by decide) rfl ?_
      simp only [Act.put, Act.eval, qn, qv, Nat.reduceAdd]
      refine rf_loadR (n := 2) rfl rfl rfl Try.underlying67 rfl (by kernel_rfl) (fun w hw => Kn.hd0 (Kn.tl (Kn.tl (Kn.tlU (Kn.tlU (Kn.tlU (Kn.tlU hw))))))) rfl rfl ?_
      simp only [Act.put, Act.eval, qn, qv, Nat.reduceAdd]
      refine rg_move ?_
      simp only [Act.put, Act.eval, qn, qv, Nat.reduceAdd]
      refine rf_field (n := 7) (j := 0) rfl rfl rfl Try.underlying70 rfl (by kernel_rfl) rfl ?_
      simp only [Act.put, Act.eval, qn, qv, Nat.reduceAdd]
      refine rf_indexA (n := 2) (sz := 2) (j := 4) rfl rfl rfl rfl Try.underlying68 (by kernel_rfl) (by decide) rfl ?_
      simp only [Act.put, Act.eval, qn, qv, Nat.reduceAdd]
      refine rf_loadR (n := 2) rfl rfl rfl Try.underlying67 rfl (by kernel_rfl) (fun w hw => Kn.hd0 (Kn.tl (Kn.tlU (Kn.tlU (Kn.tlU (Kn.tlU hw)))))) rfl rfl ?_
      simp only [Act.put, Act.eval, qn, qv, Nat.reduceAdd]
      refine rf_field (n := 7) (j := 0) rfl rfl rfl Try.underlying70 rfl (by kernel_rfl) rfl ?_
      simp only [Act.put, Act.eval, qn, qv, Nat.reduceAdd]
      apply (rg_made (T := fun v u => ∃ s, v = bgV (z.c + z2.c) s ∧ SU u s (z.c + z2.c).natAbs)) (by rfl) (by kernel_rfl)
      case hargs => (simp only [qm, qs, Act.eval]; exact rfl)
      case h => exact fun w hw => badd_any z.c z2.c _ _ lc mc w (hsk0.c.at hw ((((List.sublist_append_left _ _).trans (List.sublist_append_right _ _)).trans (List.sublist_append_right _ _)).trans (List.sublist_append_right _ _))) (hsk1.c.at hw (((List.sublist_append_left _ _).trans (List.sublist_append_right _ _)).trans (List.sublist_append_right _ _)))
      case hz => exact (fun _ h => by cases h; exact (List.Sublist.append_left (List.Sublist.append_left (List.Sublist.append_left (List.Sublist.append_left (sc _ (sc _ (sc _ sn))) _) _) _) _))
      rintro _ u6 ⟨s6, rfl, hS6⟩
      obtain ⟨⟨sa6, sc6, rfl⟩, -⟩ := id hS6
      simp only [Act.put, Act.eval, qn, qv, Nat.reduceAdd]
      refine rf_indexA (n := 2) (sz := 2) (j := 4) rfl rfl rfl rfl Try.underlying68 (by kernel_rfl) (by decide) rfl ?_
      simp only [Act.put, Act.eval, qn, qv, Nat.reduceAdd]
      refine rf_storeRM (n := 2) rfl rfl (by kernel_rfl) rfl rfl (UpdR.app _ (UpdR.app _ (UpdR.app _ (UpdR.app _ (UpdR.app _ (UpdR.there _ (UpdR.there _ (UpdR.here _ _ _ (Nat.le_of_ble_eq_true rfl))))))))) ((List.Sublist.append_left (List.Sublist.append_left (List.Sublist.append_left (List.Sublist.append_left (sc _ (sc _ (sk _ sn))) _) _) _) _).trans (List.sublist_append_right _ _)) ?_
      simp only [Act.put, Act.eval, qn, qv, Nat.reduceAdd]
      refine rg_nil ?_
      refine ek_block ?_
      refine ek_next ?_
      refine wk_region [0, 0, 0] rfl (by kernel_rfl) ?_
      simp only [List.zip_cons_cons, List.zip_nil_right]
      refine rg_move ?_
      simp only [Act.put, Act.eval, qn, qv, Nat.reduceAdd]
      refine rf_add (r := 3) rfl rfl rfl rfl (by decide) ?_
      simp only [Act.put, Act.eval, qn, qv, Nat.reduceAdd]
      refine rg_assign ?_
      simp only [Act.put, Act.eval, qn, qv, Nat.reduceAdd]
      refine rg_nil ?_
      refine ek_again ?_
      refine wk_seq ?_
      refine wk_seq ?_
      refine wk_region [0, 0] rfl (by kernel_rfl) ?_
      simp only [List.zip_cons_cons, List.zip_nil_right]
      refine rg_move ?_
      simp only [Act.put, Act.eval, qn, qv, Nat.reduceAdd]
      refine rf_lss (b := true) rfl rfl rfl rfl (by decide) ?_
      simp only [Act.put, Act.eval, qn, qv, Nat.reduceAdd]
      refine rg_nil ?_
      refine ek_next ?_
      refine wk_cond_t rfl ?_
      refine wk_skip ?_
      refine ek_next ?_
      refine wk_seq ?_
      refine wk_block ?_
      refine wk_draws_m (hz1 := (List.Sublist.append_left (List.Sublist.append_left (List.Sublist.append_left (List.Sublist.append_left (List.Sublist.append_left (sc _ (sc _ (sk _ sn))) _) _) _) _) _)) [(0, 0), (1, 0), (2, 0), (3, 0), (4, 0), (5, 0), (6, 0), (7, 0), (8, 0), (10, 3), (9, 1), (11, 0), (12, 2)] 12 (by kernel_rfl) (by kernel_rfl) (fun c d v a w h => by cases d <;> exact h) ?_
      simp only [List.map_cons, List.map_nil, List.getD_cons_zero, List.getD_cons_succ]
      refine rg_move ?_
      simp only [Act.put, Act.eval, qn, qv, Nat.reduceAdd]
      refine rg_move ?_
      simp only [Act.put, Act.eval, qn, qv, Nat.reduceAdd]
      refine rf_field (n := 7) (j := 0) rfl rfl rfl Try.underlying70 rfl (by kernel_rfl) rfl ?_
      simp only [Act.put, Act.eval, qn, qv, Nat.reduceAdd]
      refine rf_indexA (n := 3) (sz := 2) (j := 6) rfl rfl rfl rfl Try.underlying68 (by kernel_rfl) (by decide) rfl ?_
      simp only [Act.put, Act.eval, qn, qv, Nat.reduceAdd]
      refine rf_loadR (n := 2) rfl rfl rfl Try.underlying67 rfl (by kernel_rfl) (fun w hw => Kn.hd0 (Kn.tl (Kn.tl (Kn.tlU (Kn.tlU (Kn.tlU (Kn.tlU (Kn.tlU hw)))))))) rfl rfl ?_
      simp only [Act.put, Act.eval, qn, qv, Nat.reduceAdd]
      refine rg_move ?_
      simp only [Act.put, Act.eval, qn, qv, Nat.reduceAdd]
      refine rf_field (n := 7) (j := 0) rfl rfl rfl Try.underlying70 rfl (by kernel_rfl) rfl ?_
      simp only [Act.put, Act.eval, qn, qv, Nat.reduceAdd]
      refine rf_indexA (n := 3) (sz := 2) (j := 6) rfl rfl rfl rfl Try.underlying68 (by kernel_rfl) (by decide) rfl ?_
      simp only [Act.put, Act.eval, qn, qv, Nat.reduceAdd]
      refine rf_loadR (n := 2) rfl rfl rfl Try.underlying67 rfl (by kernel_rfl) (fun w hw => Kn.hd0 (Kn.tl (Kn.tlU (Kn.tlU (Kn.tlU (Kn.tlU (Kn.tlU hw))))))) rfl rfl ?_
      simp only [Act.put, Act.eval, qn, qv, Nat.reduceAdd]
      refine rf_field (n := 7) (j := 0) rfl rfl rfl Try.underlying70 rfl (by kernel_rfl) rfl ?_
      simp only [Act.put, Act.eval, qn, qv, Nat.reduceAdd]
      apply (rg_made (T := fun v u => ∃ s, v = bgV (z.d + z2.d) s ∧ SU u s (z.d + z2.d).natAbs)) (by rfl) (by kernel_rfl)
      case hargs => (simp only [qm, qs, Act.eval]; exact rfl)
      case h => exact fun w hw => badd_any z.d z2.d _ _ ld md w (hsk0.d.at hw (((((List.sublist_append_left _ _).trans (List.sublist_append_right _ _)).trans (List.sublist_append_right _ _)).trans (List.sublist_append_right _ _)).trans (List.sublist_append_right _ _))) (hsk1.d.at hw ((((List.sublist_append_left _ _).trans (List.sublist_append_right _ _)).trans (List.sublist_append_right _ _)).trans (List.sublist_append_right _ _)))
      case hz => exact (fun _ h => by cases h; exact (List.Sublist.append_left (List.Sublist.append_left (List.Sublist.append_left (List.Sublist.append_left (List.Sublist.append_left (sc _ (sc _ (sc _ sn))) _) _) _) _) _))
      rintro _ u7 ⟨s7, rfl, hS7⟩
      obtain ⟨⟨sa7, sc7, rfl⟩, -⟩ := id hS7
      simp only [Act.put, Act.eval, qn, qv, Nat.reduceAdd]
      refine rf_indexA (n := 3) (sz := 2) (j := 6) rfl rfl rfl rfl Try.underlying68 (by kernel_rfl) (by decide) rfl ?_
      simp only [Act.put, Act.eval, qn, qv, Nat.reduceAdd]
      refine rf_storeRM (n := 2) rfl rfl (by kernel_rfl) rfl rfl (UpdR.app _ (UpdR.app _ (UpdR.app _ (UpdR.app _ (UpdR.app _ (UpdR.app _ (UpdR.there _ (UpdR.there _ (UpdR.here _ _ _ (Nat.le_of_ble_eq_true rfl)))))))))) ((List.Sublist.append_left (List.Sublist.append_left (List.Sublist.append_left (List.Sublist.append_left (List.Sublist.append_left (sc _ (sc _ (sk _ sn))) _) _) _) _) _).trans (List.sublist_append_right _ _)) ?_
      simp only [Act.put, Act.eval, qn, qv, Nat.reduceAdd]
      refine rg_nil ?_
      refine ek_block ?_
      refine ek_next ?_
      refine wk_region [0, 0, 0] rfl (by kernel_rfl) ?_
      simp only [List.zip_cons_cons, List.zip_nil_right]
      refine rg_move ?_
      simp only [Act.put, Act.eval, qn, qv, Nat.reduceAdd]
      refine rf_add (r := 4) rfl rfl rfl rfl (by decide) ?_
      simp only [Act.put, Act.eval, qn, qv, Nat.reduceAdd]
      refine rg_assign ?_
      simp only [Act.put, Act.eval, qn, qv, Nat.reduceAdd]
      refine rg_nil ?_
      refine ek_again ?_
      refine wk_seq ?_
      refine wk_seq ?_
      refine wk_region [0, 0] rfl (by kernel_rfl) ?_
      simp only [List.zip_cons_cons, List.zip_nil_right]
      refine rg_move ?_
      simp only [Act.put, Act.eval, qn, qv, Nat.reduceAdd]
      refine rf_lss (b := false) rfl rfl rfl rfl (by decide) ?_
      simp only [Act.put, Act.eval, qn, qv, Nat.reduceAdd]
      refine rg_nil ?_
      refine ek_next ?_
      refine wk_cond_f rfl ?_
      refine wk_exit ?_
      refine ek_then_exit ?_
      refine ek_then_exit ?_
      refine ek_block_exit ?_
      refine ek_next ?_
      refine wk_seq ?_
      refine wk_region [0, 1] rfl (by kernel_rfl) ?_
      simp only [List.zip_cons_cons, List.zip_nil_right]
      refine rf_loadR (n := 9) rfl rfl rfl Try.underlying70 rfl (by kernel_rfl) (fun w hw => Kn.hd0 (Kn.tl (Kn.tl (Kn.tlU (Kn.tlU (Kn.tlU (Kn.tlU (Kn.tlU (Kn.tlU hw))))))))) rfl rfl ?_
      simp only [Act.put, Act.eval, qn, qv, Nat.reduceAdd]
      refine rf_storeR (n := 9) rfl rfl (by kernel_rfl) rfl rfl (UpdR.app _ (UpdR.app _ (UpdR.app _ (UpdR.app _ (UpdR.app _ (UpdR.app _ (UpdR.here _ _ _ (Nat.le_of_ble_eq_true rfl)))))))) (fun _ h => by cases h) ?_
      simp only [Act.put, Act.eval, qn, qv, Nat.reduceAdd]
      refine rg_nil ?_
      refine ek_next ?_
      refine wk_ret ?_
      refine ek_ret (fun w hw => ⟨rfl, _, run_results1 rfl rfl (Kn.hd0 (Kn.tlU (Kn.tlU (Kn.tlU (Kn.tlU (Kn.tlU (Kn.tlU hw))))))) Try.underlying70 rfl (by kernel_rfl), ?_⟩)
      (try simp only [Act.put, Act.eval, qn, qv, Nat.reduceAdd])
      have e : x.addR y = ⟨z.a + z2.a, z.b + z2.b, z.c + z2.c, z.d + z2.d, z.k⟩ := addR_up hz0.out hz1.out (by omega) (by omega) (by omega)
      show RetW _ (x.addR y) _ _
      rw [e]
      exact ⟨_, (u7 ++ (u6 ++ (u5 ++ u4))), rfl, ⟨_, _, _, _, rfl, ⟨(hS4.mono ((((List.Sublist.refl _).trans (List.sublist_append_right _ _)).trans (List.sublist_append_right _ _)).trans (List.sublist_append_right _ _))), (hS5.mono (((List.sublist_append_left _ _).trans (List.sublist_append_right _ _)).trans (List.sublist_append_right _ _))), (hS6.mono ((List.sublist_append_left _ _).trans (List.sublist_append_right _ _))), (hS7.mono (List.sublist_append_left _ _))⟩⟩, hw.made (List.Sublist.append_left (List.Sublist.append_left (List.Sublist.append_left (List.sublist_append_left _ _) _) _) _)⟩
    · (try simp only [decide_eq_true_eq, decide_eq_false_iff_not, Int.not_lt, Int.not_le, beq_iff_eq, beq_eq_false_iff_ne, bne_iff_ne, bne_eq_false_iff_eq, ne_eq, Bool.not_eq_true', Bool.not_eq_false'] at h2)
      simp only [Act.put, Act.eval, qn, qv, Nat.reduceAdd]
      refine rg_nil ?_
      refine ek_next ?_
      refine wk_cond_t rfl ?_
      refine wk_skip ?_
      refine ek_next ?_
      refine wk_block ?_
      refine wk_draws_m (hz1 := (List.Sublist.append_left (List.Sublist.append_left (sc _ (sk _ (sc _ sn))) _) _)) [(0, 0), (1, 0), (3, 0), (4, 0), (5, 3), (2, 1), (6, 0), (7, 2), (8, 0), (9, 1)] 7 (by kernel_rfl) (by kernel_rfl) (fun c d v a w h => by cases d <;> exact h) ?_
      simp only [List.map_cons, List.map_nil, List.getD_cons_zero, List.getD_cons_succ]
      refine rf_field (n := 7) (j := 0) rfl rfl rfl Try.underlying70 rfl (by kernel_rfl) rfl ?_
      simp only [Act.put, Act.eval, qn, qv, Nat.reduceAdd]
      refine rf_loadR (n := 8) rfl rfl rfl Try.underlying68 rfl (by kernel_rfl) (fun w hw => Kn.hd0 (Kn.tl (Kn.tlU (Kn.tlU hw)))) rfl rfl ?_
      simp only [Act.put, Act.eval, qn, qv, Nat.reduceAdd]
      refine rf_field (n := 0) (j := 8) rfl rfl rfl Try.underlying70 rfl (by kernel_rfl) rfl ?_
      simp only [Act.put, Act.eval, qn, qv, Nat.reduceAdd]
      refine rf_load rfl rfl rfl Try.underlying3 rfl (fun w hw => (Kn.hd0 (Kn.tl (Kn.tlU (Kn.tlU hw)))).at rfl) ?_
      simp only [Act.put, Act.eval, qn, qv, Nat.reduceAdd]
      refine rf_add rfl rfl rfl rfl (wrap_ok (by omega) (by omega)) ?_
      simp only [Act.put, Act.eval, qn, qv, Nat.reduceAdd]
      apply (rg_made (T := fun v u => ∃ s0 s1 s2 s3, v = arV (z2.tr) s0 s1 s2 s3 ∧ SU4 u (z2.tr) s0 s1 s2 s3)) (by rfl) (by kernel_rfl)
      case hargs => (simp only [qm, qs, Act.eval]; exact rfl)
      case h => exact fun w hw => timesR_any z2 _ _ _ _ hfit1 w (hsk1.at hw (List.sublist_append_left _ _))
      case hz => exact (fun _ h => by cases h; exact (List.Sublist.append_left (List.Sublist.append_left (sc _ (sc _ (sc _ sn))) _) _))
      rintro _ u8 ⟨t0, t1, t2, t3, rfl, hS8⟩
      obtain ⟨⟨ta8_0, tc8_0, rfl⟩, -⟩ := id hS8.a
      obtain ⟨⟨ta8_1, tc8_1, rfl⟩, -⟩ := id hS8.b
      obtain ⟨⟨ta8_2, tc8_2, rfl⟩, -⟩ := id hS8.c
      obtain ⟨⟨ta8_3, tc8_3, rfl⟩, -⟩ := id hS8.d
      simp only [Act.put, Act.eval, qn, qv, Nat.reduceAdd]
      refine rf_field (n := 7) (j := 0) rfl rfl rfl Try.underlying70 rfl (by kernel_rfl) rfl ?_
      simp only [Act.put, Act.eval, qn, qv, Nat.reduceAdd]
      refine rf_storeRM (n := 8) rfl rfl (by kernel_rfl) rfl rfl (UpdR.app _ (UpdR.app _ (UpdR.app _ (UpdR.there _ (UpdR.here _ _ _ (Nat.le_of_ble_eq_true rfl)))))) ((List.Sublist.append_left (List.Sublist.append_left (sc _ (sk _ (sc _ sn))) _) _).trans (List.sublist_append_right _ _)) ?_
      simp only [Act.put, Act.eval, qn, qv, Nat.reduceAdd]
      refine rf_field (n := 0) (j := 8) rfl rfl rfl Try.underlying70 rfl (by kernel_rfl) rfl ?_
      simp only [Act.put, Act.eval, qn, qv, Nat.reduceAdd]
      refine rf_store rfl rfl (by kernel_rfl) rfl rfl (UpdR.app _ (UpdR.app _ (UpdR.app _ (UpdR.there _ (UpdR.here _ _ _ (Nat.le_of_ble_eq_true rfl)))))) (fun _ h => by cases h; exact ((List.Sublist.append_left (List.Sublist.append_left (sc _ (sk _ (sc _ sn))) _) _).trans (List.sublist_append_right _ _))) ?_
      simp only [Act.put, Act.eval, qn, qv, Nat.reduceAdd]
      refine rg_nil ?_
      refine ek_block ?_
      have hup : Nm.up (i + 1) y = z2.tr := by rw [Nm.up_succ1, hz1.out]
      have hfn : z2.tr.Fit 9850501549098619803069760025035903451269934817616361666987073351061430442874302652853566563721228910201656997576704 := by rw [← hup]; exact up_fit_of hy (by omega)
      have hkt : z2.tr.k = z2.k + 1 := rfl
      refine ek_sub (List.Sublist.append_left ((List.Sublist.append_left (sc _ (sc _ (sc _ sn))) _).trans (List.sublist_append_right _ _)) _) ?_
      refine ek_roundF (20000 - (i + 1)) (by omega) (by kernel_rfl) ?_
      exact ⟨i + 1, z2.tr, ta8_0, ta8_1, ta8_2, ta8_3, tc8_0, tc8_1, tc8_2, tc8_3, u8, by rfl, by rfl, hup, SK4.own hS8, hfn, (by omega), (by omega), (by omega)⟩
  · (try simp only [decide_eq_true_eq, decide_eq_false_iff_not, Int.not_lt, Int.not_le, beq_iff_eq, beq_eq_false_iff_ne, bne_iff_ne, bne_eq_false_iff_eq, ne_eq, Bool.not_eq_true', Bool.not_eq_false'] at h1)
    simp only [Act.put, Act.eval, qn, qv, Nat.reduceAdd]
    refine rg_nil ?_
    refine ek_next ?_
    refine wk_cond_t rfl ?_
    refine wk_skip ?_
    refine ek_next ?_
    refine wk_block ?_
    refine wk_draws_m (hz1 := (List.Sublist.append_left (sc _ (sc _ (sk _ sn))) _)) [(0, 0), (1, 0), (3, 0), (4, 0), (5, 3), (2, 1), (6, 0), (7, 2), (8, 0), (9, 1)] 7 (by kernel_rfl) (by kernel_rfl) (fun c d v a w h => by cases d <;> exact h) ?_
    simp only [List.map_cons, List.map_nil, List.getD_cons_zero, List.getD_cons_succ]
    refine rf_field (n := 7) (j := 0) rfl rfl rfl Try.underlying70 rfl (by kernel_rfl) rfl ?_
    simp only [Act.put, Act.eval, qn, qv, Nat.reduceAdd]
    refine rf_loadR (n := 8) rfl rfl rfl Try.underlying68 rfl (by kernel_rfl) (fun w hw => Kn.hd0 (Kn.tl (Kn.tl (Kn.tlU hw)))) rfl rfl ?_
    simp only [Act.put, Act.eval, qn, qv, Nat.reduceAdd]
    refine rf_field (n := 0) (j := 8) rfl rfl rfl Try.underlying70 rfl (by kernel_rfl) rfl ?_
    simp only [Act.put, Act.eval, qn, qv, Nat.reduceAdd]
    refine rf_load rfl rfl rfl Try.underlying3 rfl (fun w hw => (Kn.hd0 (Kn.tl (Kn.tl (Kn.tlU hw)))).at rfl) ?_
    simp only [Act.put, Act.eval, qn, qv, Nat.reduceAdd]
    refine rf_add rfl rfl rfl rfl (wrap_ok (by omega) (by omega)) ?_
    simp only [Act.put, Act.eval, qn, qv, Nat.reduceAdd]
    apply (rg_made (T := fun v u => ∃ s0 s1 s2 s3, v = arV (z.tr) s0 s1 s2 s3 ∧ SU4 u (z.tr) s0 s1 s2 s3)) (by rfl) (by kernel_rfl)
    case hargs => (simp only [qm, qs, Act.eval]; exact rfl)
    case h => exact fun w hw => timesR_any z _ _ _ _ hfit0 w (hsk0.at hw (List.sublist_append_left _ _))
    case hz => exact (fun _ h => by cases h; exact (List.Sublist.append_left (sc _ (sc _ (sc _ sn))) _))
    rintro _ u9 ⟨t0, t1, t2, t3, rfl, hS9⟩
    obtain ⟨⟨ta9_0, tc9_0, rfl⟩, -⟩ := id hS9.a
    obtain ⟨⟨ta9_1, tc9_1, rfl⟩, -⟩ := id hS9.b
    obtain ⟨⟨ta9_2, tc9_2, rfl⟩, -⟩ := id hS9.c
    obtain ⟨⟨ta9_3, tc9_3, rfl⟩, -⟩ := id hS9.d
    simp only [Act.put, Act.eval, qn, qv, Nat.reduceAdd]
    refine rf_field (n := 7) (j := 0) rfl rfl rfl Try.underlying70 rfl (by kernel_rfl) rfl ?_
    simp only [Act.put, Act.eval, qn, qv, Nat.reduceAdd]
    refine rf_storeRM (n := 8) rfl rfl (by kernel_rfl) rfl rfl (UpdR.app _ (UpdR.app _ (UpdR.there _ (UpdR.there _ (UpdR.here _ _ _ (Nat.le_of_ble_eq_true rfl)))))) ((List.Sublist.append_left (sc _ (sc _ (sk _ sn))) _).trans (List.sublist_append_right _ _)) ?_
    simp only [Act.put, Act.eval, qn, qv, Nat.reduceAdd]
    refine rf_field (n := 0) (j := 8) rfl rfl rfl Try.underlying70 rfl (by kernel_rfl) rfl ?_
    simp only [Act.put, Act.eval, qn, qv, Nat.reduceAdd]
    refine rf_store rfl rfl (by kernel_rfl) rfl rfl (UpdR.app _ (UpdR.app _ (UpdR.there _ (UpdR.there _ (UpdR.here _ _ _ (Nat.le_of_ble_eq_true rfl)))))) (fun _ h => by cases h; exact ((List.Sublist.append_left (sc _ (sc _ (sk _ sn))) _).trans (List.sublist_append_right _ _))) ?_
    simp only [Act.put, Act.eval, qn, qv, Nat.reduceAdd]
    refine rg_nil ?_
    refine ek_block ?_
    have hup : Nm.up (j + 1) x = z.tr := by rw [Nm.up_succ1, hz0.out]
    have hfn : z.tr.Fit 9850501549098619803069760025035903451269934817616361666987073351061430442874302652853566563721228910201656997576704 := by rw [← hup]; exact up_fit_of hx (by omega)
    have hkt : z.tr.k = z.k + 1 := rfl
    refine ek_sub (List.Sublist.append_left ((sc _ (sc _ (sc _ sn))).trans (List.sublist_append_right _ _)) _) ?_
    refine ek_roundF (20000 - (j + 1)) (by omega) (by kernel_rfl) ?_
    exact ⟨j + 1, z.tr, ta9_0, ta9_1, ta9_2, ta9_3, tc9_0, tc9_1, tc9_2, tc9_3, u9, by rfl, by rfl, hup, SK4.own hS9, hfn, (by omega), (by omega), (by omega)⟩

end Go.Proofs.Ytccbinnlnkpplaa
