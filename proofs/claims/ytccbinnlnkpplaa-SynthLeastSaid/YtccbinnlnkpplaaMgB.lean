/- Several texts in one. -/
import Derived.Test.YtccbinnlnkpplaaWb2
import Derived.Test.YtccbinnlnkpplaaWb3
import Derived.Test.YtccbinnlnkpplaaMgC
namespace Go.Proofs.Ytccbinnlnkpplaa
set_option linter.all false
open Go.RowKit

def numOk (y : Nm) : Bool := smB y.a && (smB y.b && (smB y.c && smB y.d))
def wnum (z : Nm) : Nm × Bool := if numOk z.nf = true then (z.nf, decide (z.nf.k ≤ 40)) else (Nm.zero, false)
theorem tr_len {z : Nm} (h : z.Fit 9850501549098619803069760025035903451269934817616361666987073351061430442874302652853566563721228910201656997576704) : (digs z.tr.a.natAbs).length ≤ 1000 ∧ (digs z.tr.b.natAbs).length ≤ 1000 ∧ (digs z.tr.c.natAbs).length ≤ 1000 ∧ (digs z.tr.d.natAbs).length ≤ 1000 := by
  obtain ⟨h1, h2, h3, h4, h5, h6, h7, h8⟩ := h
  simp only [Nm.tr]
  exact ⟨len_big (by omega) (by omega), len_big (by omega) (by omega), len_big (by omega) (by omega), len_big (by omega) (by omega)⟩
set_option maxRecDepth 100000 in
set_option maxHeartbeats 2000000 in
theorem wnum_any (z : Nm) (s0 s1 s2 s3 : Value) (hz : z.Fit 9850501549098619803069760025035903451269934817616361666987073351061430442874302652853566563721228910201656997576704) (hk : 0 ≤ z.k) (hk1 : z.k ≤ 10000) (w : World) (hs : SA4 w z s0 s1 s2 s3) : Calls Try.prog 53 #[wdV z s0 s1 s2 s3] w fun e w' => e = .returned (.tuple #[nmV (wnum z).1, .bool (wnum z).2]) ∧ Below w.heap.size w w' := by
  obtain ⟨⟨a0, c0, rfl⟩, ⟨a1, c1, rfl⟩, ⟨a2, c2, rfl⟩, ⟨a3, c3, rfl⟩⟩ := (⟨hs.a.form, hs.b.form, hs.c.form, hs.d.form⟩ : _ ∧ _ ∧ _ ∧ _)
  go_enter Try.func53, Try.ntmps53
  refine wk_start ?_
  refine wk_seq ?_
  refine wk_region [1, 1, 0] rfl (by kernel_rfl) ?_
  simp only [List.zip_cons_cons, List.zip_nil_right]
  refine rg_new (cs := ?_) (ty := ?_) (by rfl) (fun w => ?_) (fun _ h => by cases h) (fun g1 => ?_); rotate_left 2
  focus (go_simp; rfl)
  simp only [Act.put, Act.eval, qn, qv, Nat.reduceAdd]
  refine rg_new (cs := ?_) (ty := ?_) (by rfl) (fun w => ?_) (fun _ h => by cases h) (fun g2 => ?_); rotate_left 2
  focus (go_simp; rfl)
  simp only [Act.put, Act.eval, qn, qv, Nat.reduceAdd]
  refine rg_assign ?_
  simp only [Act.put, Act.eval, qn, qv, Nat.reduceAdd]
  refine rg_nil ?_
  refine ek_next ?_
  refine wk_cutF [4, 5, 10, 11, 12, 13, 14, 15, 16, 17, 18, 19, 20, 21, 22, 23, 24, 25, 26, 27, 28, 29, 30, 31, 32, 33, 34, 35, 36, 37, 38, 39, 40, 41, 42, 43, 44, 45, 46, 47, 48, 49, 50, 51] (fun f s => ∃ (y : Nm) (ta0 ta1 ta2 ta3 : Option Addr) (tc0 tc1 tc2 tc3 : Nat) (u : List Blk), s = (u ++ ((g2, .cells #[.int .i64 0, .int .i64 0, .int .i64 0, .int .i64 0, .int .i64 0] 45) :: ((g1, .cells #[.bool (decide (y.a < 0)), .slice ta0 (digs y.a.natAbs).length tc0, .bool (decide (y.b < 0)), .slice ta1 (digs y.b.natAbs).length tc1, .bool (decide (y.c < 0)), .slice ta2 (digs y.c.natAbs).length tc2, .bool (decide (y.d < 0)), .slice ta3 (digs y.d.natAbs).length tc3, .int .i64 y.k] 70) :: []))) ∧ Hid (y.nf = z.nf) ∧ y.nf = y ∧ SK4 w u y (.slice ta0 (digs y.a.natAbs).length tc0) (.slice ta1 (digs y.b.natAbs).length tc1) (.slice ta2 (digs y.c.natAbs).length tc2) (.slice ta3 (digs y.d.natAbs).length tc3) ∧ y.Fit 9850501549098619803069760025035903451269934817616361666987073351061430442874302652853566563721228910201656997576704) ?_ ?_
  · refine wk_block ?_
    refine wk_loopF [4, 5, 10, 11, 12, 13, 14, 15, 16, 17, 18, 19, 20, 21, 22, 23, 24, 25, 26, 27, 28, 29, 30, 31, 32, 33, 34, 35, 36, 37, 38, 39, 40, 41, 42, 43, 44, 45, 46, 47, 48, 49, 50, 51] (fun mz f s => ∃ (y : Nm) (ta0 ta1 ta2 ta3 : Option Addr) (tc0 tc1 tc2 tc3 : Nat) (u : List Blk), s = (u ++ ((g2, .cells #[.int .i64 0, .int .i64 0, .int .i64 0, .int .i64 0, .int .i64 0] 45) :: ((g1, .cells #[.bool (decide (y.a < 0)), .slice ta0 (digs y.a.natAbs).length tc0, .bool (decide (y.b < 0)), .slice ta1 (digs y.b.natAbs).length tc1, .bool (decide (y.c < 0)), .slice ta2 (digs y.c.natAbs).length tc2, .bool (decide (y.d < 0)), .slice ta3 (digs y.d.natAbs).length tc3, .int .i64 y.k] 70) :: []))) ∧ mz = y.k.toNat ∧ Hid (y.nf = z.nf) ∧ SK4 w u y (.slice ta0 (digs y.a.natAbs).length tc0) (.slice ta1 (digs y.b.natAbs).length tc1) (.slice ta2 (digs y.c.natAbs).length tc2) (.slice ta3 (digs y.d.natAbs).length tc3) ∧ y.Fit 9850501549098619803069760025035903451269934817616361666987073351061430442874302652853566563721228910201656997576704 ∧ 0 ≤ y.k ∧ y.k ≤ 10000) ((fun (y : Nm) (ta0 ta1 ta2 ta3 : Option Addr) (tc0 tc1 tc2 tc3 : Nat) (u : List Blk) => y.k.toNat) (z) (a0) (a1) (a2) (a3) (c0) (c1) (c2) (c3) ([])) ?_ (by kernel_rfl) ?_
    · exact ⟨z, a0, a1, a2, a3, c0, c1, c2, c3, [], rfl, rfl, Lib.hid rfl, SK4.arg hs, hz, hk, hk1⟩
    rintro mz f1 s ⟨y, ta0, ta1, ta2, ta3, tc0, tc1, tc2, tc3, u, rfl, hn, hd1, hd2, hd3, hd4, hd5⟩
    simp only [Act.putF, List.foldl_cons, List.foldl_nil, Act.put, Act.eval, q1, q2, q3, q4, q5, q6, q7, q8, q9, q10, q11, q12, q13, q14, q15, q16, q17, q18, Nat.reduceAdd, Bool.not_true, Bool.not_false]
    have hnf := hd1
    have hsk := hd2
    have hfit := hd3
    clear hd1 hd2 hd3
    refine wk_seq ?_
    refine wk_seq ?_
    refine wk_region [0, 0, 0, 0, 0, 0, 0, 0, 0, 0, 1, 1, 0, 0, 0, 0, 0, 0, 0, 0, 1, 1, 0] rfl (by kernel_rfl) ?_
    simp only [List.zip_cons_cons, List.zip_nil_right]
    refine rf_field (n := 0) (j := 8) rfl rfl rfl Try.underlying70 rfl (by kernel_rfl) rfl ?_
    simp only [Act.put, Act.eval, qn, qv, Nat.reduceAdd]
    refine rf_load rfl rfl rfl Try.underlying3 rfl (fun w hw => (Kn.hd0 (Kn.tl (Kn.tlU hw))).at rfl) ?_
    simp only [Act.put, Act.eval, qn, qv, Nat.reduceAdd]
    refine rfb_gtr rfl rfl rfl rfl ?_
    intro x h1
    cases x
    · (try simp only [decide_eq_true_eq, decide_eq_false_iff_not, Int.not_lt, Int.not_le, beq_iff_eq, beq_eq_false_iff_ne, bne_iff_ne, bne_eq_false_iff_eq, ne_eq, Bool.not_eq_true', Bool.not_eq_false'] at h1)
      simp only [Act.put, Act.eval, qn, qv, Nat.reduceAdd]
      refine rg_move ?_
      simp only [Act.put, Act.eval, qn, qv, Nat.reduceAdd]
      refine rg_skip (by rfl) ?_
      simp only [Act.put, Act.eval, qn, qv, Nat.reduceAdd]
      refine rg_skip (by rfl) ?_
      simp only [Act.put, Act.eval, qn, qv, Nat.reduceAdd]
      refine rg_skip (by rfl) ?_
      simp only [Act.put, Act.eval, qn, qv, Nat.reduceAdd]
      refine rg_skip (by rfl) ?_
      simp only [Act.put, Act.eval, qn, qv, Nat.reduceAdd]
      refine rg_skip (by rfl) ?_
      simp only [Act.put, Act.eval, qn, qv, Nat.reduceAdd]
      refine rg_skip (by rfl) ?_
      simp only [Act.put, Act.eval, qn, qv, Nat.reduceAdd]
      refine rg_skip_h (by rfl) (fun _ h => by cases h) ?_
      simp only [Act.put, Act.eval, qn, qv, Nat.reduceAdd]
      refine rg_skip_h (by rfl) (fun _ h => by cases h) ?_
      simp only [Act.put, Act.eval, qn, qv, Nat.reduceAdd]
      refine rf_pick rfl rfl rfl ?_
      simp only [Act.put, Act.eval, qn, qv, Nat.reduceAdd]
      refine rg_move ?_
      simp only [Act.put, Act.eval, qn, qv, Nat.reduceAdd]
      refine rg_skip (by rfl) ?_
      simp only [Act.put, Act.eval, qn, qv, Nat.reduceAdd]
      refine rg_skip (by rfl) ?_
      simp only [Act.put, Act.eval, qn, qv, Nat.reduceAdd]
      refine rg_skip (by rfl) ?_
      simp only [Act.put, Act.eval, qn, qv, Nat.reduceAdd]
      refine rg_skip (by rfl) ?_
      simp only [Act.put, Act.eval, qn, qv, Nat.reduceAdd]
      refine rg_skip (by rfl) ?_
      simp only [Act.put, Act.eval, qn, qv, Nat.reduceAdd]
      refine rg_skip (by rfl) ?_
      simp only [Act.put, Act.eval, qn, qv, Nat.reduceAdd]
      refine rg_skip_h (by rfl) (fun _ h => by cases h) ?_
      simp only [Act.put, Act.eval, qn, qv, Nat.reduceAdd]
      refine rg_skip_h (by rfl) (fun _ h => by cases h) ?_
      simp only [Act.put, Act.eval, qn, qv, Nat.reduceAdd]
      refine rf_pick rfl rfl rfl ?_
      simp only [Act.put, Act.eval, qn, qv, Nat.reduceAdd]
      refine rg_nil ?_
      refine ek_next ?_
      refine wk_cond_f rfl ?_
      refine wk_exit ?_
      refine ek_then_exit ?_
      refine ek_then_exit ?_
      refine ek_block_exit ?_
      refine ek_midF (by kernel_rfl) ?_
      exact ⟨y, ta0, ta1, ta2, ta3, tc0, tc1, tc2, tc3, u, by rfl, hnf, (nf_stop (fun hh => by have := hh.1; have := hh.2.1; have := hh.2.2; omega)), hsk, hfit⟩
    · (try simp only [decide_eq_true_eq, decide_eq_false_iff_not, Int.not_lt, Int.not_le, beq_iff_eq, beq_eq_false_iff_ne, bne_iff_ne, bne_eq_false_iff_eq, ne_eq, Bool.not_eq_true', Bool.not_eq_false'] at h1)
      simp only [Act.put, Act.eval, qn, qv, Nat.reduceAdd]
      refine rg_move ?_
      simp only [Act.put, Act.eval, qn, qv, Nat.reduceAdd]
      refine rf_field (n := 7) (j := 0) rfl rfl rfl Try.underlying70 rfl (by kernel_rfl) rfl ?_
      simp only [Act.put, Act.eval, qn, qv, Nat.reduceAdd]
      refine rf_indexA (n := 0) (sz := 2) (j := 0) rfl rfl rfl rfl Try.underlying68 (by kernel_rfl) (by decide) rfl ?_
      simp only [Act.put, Act.eval, qn, qv, Nat.reduceAdd]
      refine rf_loadR (n := 2) rfl rfl rfl Try.underlying67 rfl (by kernel_rfl) (fun w hw => Kn.hd0 (Kn.tl (Kn.tlU hw))) rfl rfl ?_
      simp only [Act.put, Act.eval, qn, qv, Nat.reduceAdd]
      refine rf_field (n := 7) (j := 0) rfl rfl rfl Try.underlying70 rfl (by kernel_rfl) rfl ?_
      simp only [Act.put, Act.eval, qn, qv, Nat.reduceAdd]
      refine rf_indexA (n := 2) (sz := 2) (j := 4) rfl rfl rfl rfl Try.underlying68 (by kernel_rfl) (by decide) rfl ?_
      simp only [Act.put, Act.eval, qn, qv, Nat.reduceAdd]
      refine rf_loadR (n := 2) rfl rfl rfl Try.underlying67 rfl (by kernel_rfl) (fun w hw => Kn.hd0 (Kn.tl (Kn.tlU hw))) rfl rfl ?_
      simp only [Act.put, Act.eval, qn, qv, Nat.reduceAdd]
      obtain ⟨la, lb, lc, ld⟩ := fit_big hfit
      obtain ⟨fa0, fa1, fb0, fb1, fc0, fc1, fd0, fd1⟩ := id hfit
      apply (rg_made (T := fun v u => ∃ s, v = bgV (y.a + y.c) s ∧ SU u s (y.a + y.c).natAbs)) (by rfl) (by kernel_rfl)
      case hargs => (simp only [qm, qs, Act.eval]; exact rfl)
      case h => exact fun w hw => badd_any y.a y.c _ _ la lc w (hsk.a.at hw (List.sublist_append_left _ _)) (hsk.c.at hw (List.sublist_append_left _ _))
      case hz => exact (fun _ h => by cases h)
      rintro _ u3 ⟨s3, rfl, hS3⟩
      obtain ⟨⟨sa3, sc3, rfl⟩, -⟩ := id hS3
      simp only [Act.put, Act.eval, qn, qv, Nat.reduceAdd]
      apply rg_pureb (by rfl) (by kernel_rfl)
      case hargs => (simp only [qm, qs, Act.eval]; exact rfl)
      case h => exact fun w hw => beven_any (y.a + y.c) _ (len_big (by omega) (by omega)) w (hS3.at hw (List.sublist_append_left _ _))
      case hz => exact (fun _ h => by cases h)
      intro x h2
      cases x
      · (try simp only [decide_eq_true_eq, decide_eq_false_iff_not, Int.not_lt, Int.not_le, beq_iff_eq, beq_eq_false_iff_ne, bne_iff_ne, bne_eq_false_iff_eq, ne_eq, Bool.not_eq_true', Bool.not_eq_false'] at h2)
        simp only [Act.put, Act.eval, qn, qv, Nat.reduceAdd]
        refine rf_pick rfl rfl rfl ?_
        simp only [Act.put, Act.eval, qn, qv, Nat.reduceAdd]
        refine rg_move ?_
        simp only [Act.put, Act.eval, qn, qv, Nat.reduceAdd]
        refine rg_skip (by rfl) ?_
        simp only [Act.put, Act.eval, qn, qv, Nat.reduceAdd]
        refine rg_skip (by rfl) ?_
        simp only [Act.put, Act.eval, qn, qv, Nat.reduceAdd]
        refine rg_skip (by rfl) ?_
        simp only [Act.put, Act.eval, qn, qv, Nat.reduceAdd]
        refine rg_skip (by rfl) ?_
        simp only [Act.put, Act.eval, qn, qv, Nat.reduceAdd]
        refine rg_skip (by rfl) ?_
        simp only [Act.put, Act.eval, qn, qv, Nat.reduceAdd]
        refine rg_skip (by rfl) ?_
        simp only [Act.put, Act.eval, qn, qv, Nat.reduceAdd]
        refine rg_skip_h (by rfl) (fun _ h => by cases h) ?_
        simp only [Act.put, Act.eval, qn, qv, Nat.reduceAdd]
        refine rg_skip_h (by rfl) (fun _ h => by cases h) ?_
        simp only [Act.put, Act.eval, qn, qv, Nat.reduceAdd]
        refine rf_pick rfl rfl rfl ?_
        simp only [Act.put, Act.eval, qn, qv, Nat.reduceAdd]
        refine rg_nil ?_
        refine ek_next ?_
        refine wk_cond_f rfl ?_
        refine wk_exit ?_
        refine ek_then_exit ?_
        refine ek_then_exit ?_
        refine ek_block_exit ?_
        refine ek_sub ((List.Sublist.append_left (sc _ (sc _ sn)) _).trans (List.sublist_append_right _ _)) ?_
        refine ek_midF (by kernel_rfl) ?_
        exact ⟨y, ta0, ta1, ta2, ta3, tc0, tc1, tc2, tc3, u, by rfl, hnf, (nf_stop (fun hh => by have := hh.1; have := hh.2.1; have := hh.2.2; omega)), hsk, hfit⟩
      · (try simp only [decide_eq_true_eq, decide_eq_false_iff_not, Int.not_lt, Int.not_le, beq_iff_eq, beq_eq_false_iff_ne, bne_iff_ne, bne_eq_false_iff_eq, ne_eq, Bool.not_eq_true', Bool.not_eq_false'] at h2)
        simp only [Act.put, Act.eval, qn, qv, Nat.reduceAdd]
        refine rf_pick rfl rfl rfl ?_
        simp only [Act.put, Act.eval, qn, qv, Nat.reduceAdd]
        refine rg_move ?_
        simp only [Act.put, Act.eval, qn, qv, Nat.reduceAdd]
        refine rf_field (n := 7) (j := 0) rfl rfl rfl Try.underlying70 rfl (by kernel_rfl) rfl ?_
        simp only [Act.put, Act.eval, qn, qv, Nat.reduceAdd]
        refine rf_indexA (n := 1) (sz := 2) (j := 2) rfl rfl rfl rfl Try.underlying68 (by kernel_rfl) (by decide) rfl ?_
        simp only [Act.put, Act.eval, qn, qv, Nat.reduceAdd]
        refine rf_loadR (n := 2) rfl rfl rfl Try.underlying67 rfl (by kernel_rfl) (fun w hw => Kn.hd0 (Kn.tl (Kn.tlU (Kn.tlU hw)))) rfl rfl ?_
        simp only [Act.put, Act.eval, qn, qv, Nat.reduceAdd]
        refine rf_field (n := 7) (j := 0) rfl rfl rfl Try.underlying70 rfl (by kernel_rfl) rfl ?_
        simp only [Act.put, Act.eval, qn, qv, Nat.reduceAdd]
        refine rf_indexA (n := 3) (sz := 2) (j := 6) rfl rfl rfl rfl Try.underlying68 (by kernel_rfl) (by decide) rfl ?_
        simp only [Act.put, Act.eval, qn, qv, Nat.reduceAdd]
        refine rf_loadR (n := 2) rfl rfl rfl Try.underlying67 rfl (by kernel_rfl) (fun w hw => Kn.hd0 (Kn.tl (Kn.tlU (Kn.tlU hw)))) rfl rfl ?_
        simp only [Act.put, Act.eval, qn, qv, Nat.reduceAdd]
        apply (rg_made (T := fun v u => ∃ s, v = bgV (y.b + y.d) s ∧ SU u s (y.b + y.d).natAbs)) (by rfl) (by kernel_rfl)
        case hargs => (simp only [qm, qs, Act.eval]; exact rfl)
        case h => exact fun w hw => badd_any y.b y.d _ _ lb ld w (hsk.b.at hw ((List.sublist_append_left _ _).trans (List.sublist_append_right _ _))) (hsk.d.at hw ((List.sublist_append_left _ _).trans (List.sublist_append_right _ _)))
        case hz => exact (fun _ h => by cases h)
        rintro _ u4 ⟨s4, rfl, hS4⟩
        obtain ⟨⟨sa4, sc4, rfl⟩, -⟩ := id hS4
        simp only [Act.put, Act.eval, qn, qv, Nat.reduceAdd]
        apply rg_pureb (by rfl) (by kernel_rfl)
        case hargs => (simp only [qm, qs, Act.eval]; exact rfl)
        case h => exact fun w hw => beven_any (y.b + y.d) _ (len_big (by omega) (by omega)) w (hS4.at hw (List.sublist_append_left _ _))
        case hz => exact (fun _ h => by cases h)
        intro x h3
        cases x
        · (try simp only [decide_eq_true_eq, decide_eq_false_iff_not, Int.not_lt, Int.not_le, beq_iff_eq, beq_eq_false_iff_ne, bne_iff_ne, bne_eq_false_iff_eq, ne_eq, Bool.not_eq_true', Bool.not_eq_false'] at h3)
          simp only [Act.put, Act.eval, qn, qv, Nat.reduceAdd]
          refine rf_pick rfl rfl rfl ?_
          simp only [Act.put, Act.eval, qn, qv, Nat.reduceAdd]
          refine rg_nil ?_
          refine ek_next ?_
          refine wk_cond_f rfl ?_
          refine wk_exit ?_
          refine ek_then_exit ?_
          refine ek_then_exit ?_
          refine ek_block_exit ?_
          refine ek_sub (((List.Sublist.append_left (sc _ (sc _ sn)) _).trans (List.sublist_append_right _ _)).trans (List.sublist_append_right _ _)) ?_
          refine ek_midF (by kernel_rfl) ?_
          exact ⟨y, ta0, ta1, ta2, ta3, tc0, tc1, tc2, tc3, u, by rfl, hnf, (nf_stop (fun hh => by have := hh.1; have := hh.2.1; have := hh.2.2; omega)), hsk, hfit⟩
        · (try simp only [decide_eq_true_eq, decide_eq_false_iff_not, Int.not_lt, Int.not_le, beq_iff_eq, beq_eq_false_iff_ne, bne_iff_ne, bne_eq_false_iff_eq, ne_eq, Bool.not_eq_true', Bool.not_eq_false'] at h3)
          simp only [Act.put, Act.eval, qn, qv, Nat.reduceAdd]
          refine rf_pick rfl rfl rfl ?_
          simp only [Act.put, Act.eval, qn, qv, Nat.reduceAdd]
          refine rg_nil ?_
          refine ek_next ?_
          refine wk_cond_t rfl ?_
          refine wk_skip ?_
          refine ek_next ?_
          refine wk_block ?_
          refine wk_seq ?_
          refine wk_region [0, 0, 1, 1, 1] rfl (by kernel_rfl) ?_
          simp only [List.zip_cons_cons, List.zip_nil_right]
          refine rf_field (n := 7) (j := 0) rfl rfl rfl Try.underlying70 rfl (by kernel_rfl) rfl ?_
          simp only [Act.put, Act.eval, qn, qv, Nat.reduceAdd]
          refine rf_loadR (n := 8) rfl rfl rfl Try.underlying68 rfl (by kernel_rfl) (fun w hw => Kn.hd0 (Kn.tl (Kn.tlU (Kn.tlU (Kn.tlU hw))))) rfl rfl ?_
          simp only [Act.put, Act.eval, qn, qv, Nat.reduceAdd]
          apply (rg_made (T := fun v u => ∃ s0 s1 s2 s3, v = arV (y.tr) s0 s1 s2 s3 ∧ SU4 u (y.tr) s0 s1 s2 s3)) (by rfl) (by kernel_rfl)
          case hargs => (simp only [qm, qs, Act.eval]; exact rfl)
          case h => exact fun w hw => timesR_any y _ _ _ _ hfit w (hsk.at hw (((List.sublist_append_left _ _).trans (List.sublist_append_right _ _)).trans (List.sublist_append_right _ _)))
          case hz => exact (fun _ h => by cases h)
          rintro _ u5 ⟨t0, t1, t2, t3, rfl, hS5⟩
          obtain ⟨⟨ta5_0, tc5_0, rfl⟩, -⟩ := id hS5.a
          obtain ⟨⟨ta5_1, tc5_1, rfl⟩, -⟩ := id hS5.b
          obtain ⟨⟨ta5_2, tc5_2, rfl⟩, -⟩ := id hS5.c
          obtain ⟨⟨ta5_3, tc5_3, rfl⟩, -⟩ := id hS5.d
          simp only [Act.put, Act.eval, qn, qv, Nat.reduceAdd]
          obtain ⟨ma, mb, mc, md⟩ := tr_len hfit
          refine rg_new (cs := ?_) (ty := ?_) (by rfl) (fun w => ?_) (fun _ h => by cases h) (fun g6 => ?_); rotate_left 2
          focus (go_simp; rfl)
          simp only [Act.put, Act.eval, qn, qv, Nat.reduceAdd]
          refine rf_storeR (n := 8) rfl rfl (by kernel_rfl) rfl rfl (UpdR.here _ _ _ (Nat.le_of_ble_eq_true rfl)) (fun _ h => by cases h) ?_
          simp only [Act.put, Act.eval, qn, qv, Nat.reduceAdd]
          refine rg_nil ?_
          refine ek_next ?_
          refine wk_seq ?_
          refine wk_seq ?_
          refine wk_region [0] rfl (by kernel_rfl) ?_
          simp only [List.zip_cons_cons, List.zip_nil_right]
          refine rg_assign ?_
          simp only [Act.put, Act.eval, qn, qv, Nat.reduceAdd]
          refine rg_nil ?_
          refine ek_next ?_
          refine wk_block ?_
          refine wk_unroll 4 ?_
          refine wk_seq ?_
          refine wk_seq ?_
          refine wk_region [0, 0] rfl (by kernel_rfl) ?_
          simp only [List.zip_cons_cons, List.zip_nil_right]
          refine rg_move ?_
          simp only [Act.put, Act.eval, qn, qv, Nat.reduceAdd]
          refine rf_lss (b := true) rfl rfl rfl rfl (by decide) ?_
          simp only [Act.put, Act.eval, qn, qv, Nat.reduceAdd]
          refine rg_nil ?_
          refine ek_next ?_
          refine wk_cond_t rfl ?_
          refine wk_skip ?_
          refine ek_next ?_
          refine wk_seq ?_
          refine wk_block ?_
          refine wk_region [0, 0, 0, 0, 1, 0, 1] rfl (by kernel_rfl) ?_
          simp only [List.zip_cons_cons, List.zip_nil_right]
          refine rg_move ?_
          simp only [Act.put, Act.eval, qn, qv, Nat.reduceAdd]
          refine rg_move ?_
          simp only [Act.put, Act.eval, qn, qv, Nat.reduceAdd]
          refine rf_indexA (n := 0) (sz := 2) (j := 0) rfl rfl rfl rfl Try.underlying68 (by kernel_rfl) (by decide) rfl ?_
          simp only [Act.put, Act.eval, qn, qv, Nat.reduceAdd]
          refine rf_loadR (n := 2) rfl rfl rfl Try.underlying67 rfl (by kernel_rfl) (fun w hw => Kn.hd0 hw) rfl rfl ?_
          simp only [Act.put, Act.eval, qn, qv, Nat.reduceAdd]
          apply (rg_made (T := fun v u => ∃ s, v = bgV (y.tr.a / 2) s ∧ SU u s (y.tr.a / 2).natAbs)) (by rfl) (by kernel_rfl)
          case hargs => (simp only [qm, qs, Act.eval]; exact rfl)
          case h => exact fun w hw => bhalf_any y.tr.a _ ma (by simp only [Nm.tr]; omega) w (hS5.a.at hw (List.Sublist.cons _ (List.sublist_append_left _ _)))
          case hz => exact (fun _ h => by cases h)
          rintro _ u7 ⟨s7, rfl, hS7⟩
          obtain ⟨⟨sa7, sc7, rfl⟩, -⟩ := id hS7
          simp only [Act.put, Act.eval, qn, qv, Nat.reduceAdd]
          refine rf_indexA (n := 0) (sz := 2) (j := 0) rfl rfl rfl rfl Try.underlying68 (by kernel_rfl) (by decide) rfl ?_
          simp only [Act.put, Act.eval, qn, qv, Nat.reduceAdd]
          refine rf_storeR (n := 2) rfl rfl (by kernel_rfl) rfl rfl (UpdR.app _ (UpdR.here _ _ _ (Nat.le_of_ble_eq_true rfl))) (fun _ h => by cases h) ?_
          simp only [Act.put, Act.eval, qn, qv, Nat.reduceAdd]
          refine rg_nil ?_
          refine ek_block ?_
          refine ek_next ?_
          refine wk_region [0, 0, 0] rfl (by kernel_rfl) ?_
          simp only [List.zip_cons_cons, List.zip_nil_right]
          refine rg_move ?_
          simp only [Act.put, Act.eval, qn, qv, Nat.reduceAdd]
          refine rf_add (r := 1) rfl rfl rfl rfl (by decide) ?_
          simp only [Act.put, Act.eval, qn, qv, Nat.reduceAdd]
          refine rg_assign ?_
          simp only [Act.put, Act.eval, qn, qv, Nat.reduceAdd]
          refine rg_nil ?_
          refine ek_again ?_
          refine wk_seq ?_
          refine wk_seq ?_
          refine wk_region [0, 0] rfl (by kernel_rfl) ?_
          simp only [List.zip_cons_cons, List.zip_nil_right]
          refine rg_move ?_
          simp only [Act.put, Act.eval, qn, qv, Nat.reduceAdd]
          refine rf_lss (b := true) rfl rfl rfl rfl (by decide) ?_
          simp only [Act.put, Act.eval, qn, qv, Nat.reduceAdd]
          refine rg_nil ?_
          refine ek_next ?_
          refine wk_cond_t rfl ?_
          refine wk_skip ?_
          refine ek_next ?_
          refine wk_seq ?_
          refine wk_block ?_
          refine wk_region [0, 0, 0, 0, 1, 0, 1] rfl (by kernel_rfl) ?_
          simp only [List.zip_cons_cons, List.zip_nil_right]
          refine rg_move ?_
          simp only [Act.put, Act.eval, qn, qv, Nat.reduceAdd]
          refine rg_move ?_
          simp only [Act.put, Act.eval, qn, qv, Nat.reduceAdd]
          refine rf_indexA (n := 1) (sz := 2) (j := 2) rfl rfl rfl rfl Try.underlying68 (by kernel_rfl) (by decide) rfl ?_
          simp only [Act.put, Act.eval, qn, qv, Nat.reduceAdd]
          refine rf_loadR (n := 2) rfl rfl rfl Try.underlying67 rfl (by kernel_rfl) (fun w hw => Kn.hd0 (Kn.tlU hw)) rfl rfl ?_
          simp only [Act.put, Act.eval, qn, qv, Nat.reduceAdd]
          apply (rg_made (T := fun v u => ∃ s, v = bgV (y.tr.b / 2) s ∧ SU u s (y.tr.b / 2).natAbs)) (by rfl) (by kernel_rfl)
          case hargs => (simp only [qm, qs, Act.eval]; exact rfl)
          case h => exact fun w hw => bhalf_any y.tr.b _ mb (by simp only [Nm.tr]; omega) w (hS5.b.at hw ((List.Sublist.cons _ (List.sublist_append_left _ _)).trans (List.sublist_append_right _ _)))
          case hz => exact (fun _ h => by cases h)
          rintro _ u8 ⟨s8, rfl, hS8⟩
          obtain ⟨⟨sa8, sc8, rfl⟩, -⟩ := id hS8
          simp only [Act.put, Act.eval, qn, qv, Nat.reduceAdd]
          refine rf_indexA (n := 1) (sz := 2) (j := 2) rfl rfl rfl rfl Try.underlying68 (by kernel_rfl) (by decide) rfl ?_
          simp only [Act.put, Act.eval, qn, qv, Nat.reduceAdd]
          refine rf_storeR (n := 2) rfl rfl (by kernel_rfl) rfl rfl (UpdR.app _ (UpdR.app _ (UpdR.here _ _ _ (Nat.le_of_ble_eq_true rfl)))) (fun _ h => by cases h) ?_
          simp only [Act.put, Act.eval, qn, qv, Nat.reduceAdd]
          refine rg_nil ?_
          refine ek_block ?_
          refine ek_next ?_
          refine wk_region [0, 0, 0] rfl (by kernel_rfl) ?_
          simp only [List.zip_cons_cons, List.zip_nil_right]
          refine rg_move ?_
          simp only [Act.put, Act.eval, qn, qv, Nat.reduceAdd]
          refine rf_add (r := 2) rfl rfl rfl rfl (by decide) ?_
          simp only [Act.put, Act.eval, qn, qv, Nat.reduceAdd]
          refine rg_assign ?_
          simp only [Act.put, Act.eval, qn, qv, Nat.reduceAdd]
          refine rg_nil ?_
          refine ek_again ?_
          refine wk_seq ?_
          refine wk_seq ?_
          refine wk_region [0, 0] rfl (by kernel_rfl) ?_
          simp only [List.zip_cons_cons, List.zip_nil_right]
          refine rg_move ?_
          simp only [Act.put, Act.eval, qn, qv, Nat.reduceAdd]
          refine rf_lss (b := true) rfl rfl rfl rfl (by decide) ?_
          simp only [Act.put, Act.eval, qn, qv, Nat.reduceAdd]
          refine rg_nil ?_
          refine ek_next ?_
          refine wk_cond_t rfl ?_
          refine wk_skip ?_
          refine ek_next ?_
          refine wk_seq ?_
          refine wk_block ?_
          refine wk_region [0, 0, 0, 0, 1, 0, 1] rfl (by kernel_rfl) ?_
          simp only [List.zip_cons_cons, List.zip_nil_right]
          refine rg_move ?_
          simp only [Act.put, Act.eval, qn, qv, Nat.reduceAdd]
          refine rg_move ?_
          simp only [Act.put, Act.eval, qn, qv, Nat.reduceAdd]
          refine rf_indexA (n := 2) (sz := 2) (j := 4) rfl rfl rfl rfl Try.underlying68 (by kernel_rfl) (by decide) rfl ?_
          simp only [Act.put, Act.eval, qn, qv, Nat.reduceAdd]
          refine rf_loadR (n := 2) rfl rfl rfl Try.underlying67 rfl (by kernel_rfl) (fun w hw => Kn.hd0 (Kn.tlU (Kn.tlU hw))) rfl rfl ?_
          simp only [Act.put, Act.eval, qn, qv, Nat.reduceAdd]
          apply (rg_made (T := fun v u => ∃ s, v = bgV (y.tr.c / 2) s ∧ SU u s (y.tr.c / 2).natAbs)) (by rfl) (by kernel_rfl)
          case hargs => (simp only [qm, qs, Act.eval]; exact rfl)
          case h => exact fun w hw => bhalf_any y.tr.c _ mc (by simp only [Nm.tr]; omega) w (hS5.c.at hw (((List.Sublist.cons _ (List.sublist_append_left _ _)).trans (List.sublist_append_right _ _)).trans (List.sublist_append_right _ _)))
          case hz => exact (fun _ h => by cases h)
          rintro _ u9 ⟨s9, rfl, hS9⟩
          obtain ⟨⟨sa9, sc9, rfl⟩, -⟩ := id hS9
          simp only [Act.put, Act.eval, qn, qv, Nat.reduceAdd]
          refine rf_indexA (n := 2) (sz := 2) (j := 4) rfl rfl rfl rfl Try.underlying68 (by kernel_rfl) (by decide) rfl ?_
          simp only [Act.put, Act.eval, qn, qv, Nat.reduceAdd]
          refine rf_storeR (n := 2) rfl rfl (by kernel_rfl) rfl rfl (UpdR.app _ (UpdR.app _ (UpdR.app _ (UpdR.here _ _ _ (Nat.le_of_ble_eq_true rfl))))) (fun _ h => by cases h) ?_
          simp only [Act.put, Act.eval, qn, qv, Nat.reduceAdd]
          refine rg_nil ?_
          refine ek_block ?_
          refine ek_next ?_
          refine wk_region [0, 0, 0] rfl (by kernel_rfl) ?_
          simp only [List.zip_cons_cons, List.zip_nil_right]
          refine rg_move ?_
          simp only [Act.put, Act.eval, qn, qv, Nat.reduceAdd]
          refine rf_add (r := 3) rfl rfl rfl rfl (by decide) ?_
          simp only [Act.put, Act.eval, qn, qv, Nat.reduceAdd]
          refine rg_assign ?_
          simp only [Act.put, Act.eval, qn, qv, Nat.reduceAdd]
          refine rg_nil ?_
          refine ek_again ?_
          refine wk_seq ?_
          refine wk_seq ?_
          refine wk_region [0, 0] rfl (by kernel_rfl) ?_
          simp only [List.zip_cons_cons, List.zip_nil_right]
          refine rg_move ?_
          simp only [Act.put, Act.eval, qn, qv, Nat.reduceAdd]
          refine rf_lss (b := true) rfl rfl rfl rfl (by decide) ?_
          simp only [Act.put, Act.eval, qn, qv, Nat.reduceAdd]
          refine rg_nil ?_
          refine ek_next ?_
          refine wk_cond_t rfl ?_
          refine wk_skip ?_
          refine ek_next ?_
          refine wk_seq ?_
          refine wk_block ?_
          refine wk_region [0, 0, 0, 0, 1, 0, 1] rfl (by kernel_rfl) ?_
          simp only [List.zip_cons_cons, List.zip_nil_right]
          refine rg_move ?_
          simp only [Act.put, Act.eval, qn, qv, Nat.reduceAdd]
          refine rg_move ?_
          simp only [Act.put, Act.eval, qn, qv, Nat.reduceAdd]
          refine rf_indexA (n := 3) (sz := 2) (j := 6) rfl rfl rfl rfl Try.underlying68 (by kernel_rfl) (by decide) rfl ?_
          simp only [Act.put, Act.eval, qn, qv, Nat.reduceAdd]
          refine rf_loadR (n := 2) rfl rfl rfl Try.underlying67 rfl (by kernel_rfl) (fun w hw => Kn.hd0 (Kn.tlU (Kn.tlU (Kn.tlU hw)))) rfl rfl ?_
          simp only [Act.put, Act.eval, qn, qv, Nat.reduceAdd]
          apply (rg_made (T := fun v u => ∃ s, v = bgV (y.tr.d / 2) s ∧ SU u s (y.tr.d / 2).natAbs)) (by rfl) (by kernel_rfl)
          case hargs => (simp only [qm, qs, Act.eval]; exact rfl)
          case h => exact fun w hw => bhalf_any y.tr.d _ md (by simp only [Nm.tr]; omega) w (hS5.d.at hw ((((List.Sublist.cons _ (List.sublist_append_left _ _)).trans (List.sublist_append_right _ _)).trans (List.sublist_append_right _ _)).trans (List.sublist_append_right _ _)))
          case hz => exact (fun _ h => by cases h)
          rintro _ u10 ⟨s10, rfl, hS10⟩
          obtain ⟨⟨sa10, sc10, rfl⟩, -⟩ := id hS10
          simp only [Act.put, Act.eval, qn, qv, Nat.reduceAdd]
          refine rf_indexA (n := 3) (sz := 2) (j := 6) rfl rfl rfl rfl Try.underlying68 (by kernel_rfl) (by decide) rfl ?_
          simp only [Act.put, Act.eval, qn, qv, Nat.reduceAdd]
          refine rf_storeR (n := 2) rfl rfl (by kernel_rfl) rfl rfl (UpdR.app _ (UpdR.app _ (UpdR.app _ (UpdR.app _ (UpdR.here _ _ _ (Nat.le_of_ble_eq_true rfl)))))) (fun _ h => by cases h) ?_
          simp only [Act.put, Act.eval, qn, qv, Nat.reduceAdd]
          refine rg_nil ?_
          refine ek_block ?_
          refine ek_next ?_
          refine wk_region [0, 0, 0] rfl (by kernel_rfl) ?_
          simp only [List.zip_cons_cons, List.zip_nil_right]
          refine rg_move ?_
          simp only [Act.put, Act.eval, qn, qv, Nat.reduceAdd]
          refine rf_add (r := 4) rfl rfl rfl rfl (by decide) ?_
          simp only [Act.put, Act.eval, qn, qv, Nat.reduceAdd]
          refine rg_assign ?_
          simp only [Act.put, Act.eval, qn, qv, Nat.reduceAdd]
          refine rg_nil ?_
          refine ek_again ?_
          refine wk_seq ?_
          refine wk_seq ?_
          refine wk_region [0, 0] rfl (by kernel_rfl) ?_
          simp only [List.zip_cons_cons, List.zip_nil_right]
          refine rg_move ?_
          simp only [Act.put, Act.eval, qn, qv, Nat.reduceAdd]
          refine rf_lss (b := false) rfl rfl rfl rfl (by decide) ?_
          simp only [Act.put, Act.eval, qn, qv, Nat.reduceAdd]
          refine rg_nil ?_
          refine ek_next ?_
          refine wk_cond_f rfl ?_
          refine wk_exit ?_
          refine ek_then_exit ?_
          refine ek_then_exit ?_
          refine ek_block_exit ?_
          refine ek_next ?_
          refine wk_region [0, 0, 0, 0, 0, 1, 0, 1] rfl (by kernel_rfl) ?_
          simp only [List.zip_cons_cons, List.zip_nil_right]
          refine rf_loadR (n := 8) rfl rfl rfl Try.underlying68 rfl (by kernel_rfl) (fun w hw => Kn.hd0 (Kn.tlU (Kn.tlU (Kn.tlU (Kn.tlU hw))))) rfl rfl ?_
          simp only [Act.put, Act.eval, qn, qv, Nat.reduceAdd]
          refine rf_field (n := 0) (j := 8) rfl rfl rfl Try.underlying70 rfl (by kernel_rfl) rfl ?_
          simp only [Act.put, Act.eval, qn, qv, Nat.reduceAdd]
          refine rf_load rfl rfl rfl Try.underlying3 rfl (fun w hw => (Kn.hd0 (Kn.tl (Kn.tlU (Kn.tlU (Kn.tlU (Kn.tlU (Kn.tl (Kn.tlU (Kn.tlU (Kn.tlU (Kn.tlU hw))))))))))).at rfl) ?_
          simp only [Act.put, Act.eval, qn, qv, Nat.reduceAdd]
          refine rf_sub rfl rfl rfl rfl (wrap_ok (by omega) (by omega)) ?_
          simp only [Act.put, Act.eval, qn, qv, Nat.reduceAdd]
          refine rf_field (n := 7) (j := 0) rfl rfl rfl Try.underlying70 rfl (by kernel_rfl) rfl ?_
          simp only [Act.put, Act.eval, qn, qv, Nat.reduceAdd]
          refine rf_storeR (n := 8) rfl rfl (by kernel_rfl) rfl rfl (UpdR.app _ (UpdR.app _ (UpdR.app _ (UpdR.app _ (UpdR.there _ (UpdR.app _ (UpdR.app _ (UpdR.app _ (UpdR.app _ (UpdR.there _ (UpdR.here _ _ _ (Nat.le_of_ble_eq_true rfl)))))))))))) (fun _ h => by cases h) ?_
          simp only [Act.put, Act.eval, qn, qv, Nat.reduceAdd]
          refine rf_field (n := 0) (j := 8) rfl rfl rfl Try.underlying70 rfl (by kernel_rfl) rfl ?_
          simp only [Act.put, Act.eval, qn, qv, Nat.reduceAdd]
          refine rf_store rfl rfl (by kernel_rfl) rfl rfl (UpdR.app _ (UpdR.app _ (UpdR.app _ (UpdR.app _ (UpdR.there _ (UpdR.app _ (UpdR.app _ (UpdR.app _ (UpdR.app _ (UpdR.there _ (UpdR.here _ _ _ (Nat.le_of_ble_eq_true rfl)))))))))))) (fun _ h => by cases h) ?_
          simp only [Act.put, Act.eval, qn, qv, Nat.reduceAdd]
          refine rg_nil ?_
          refine ek_block ?_
          refine ek_sub (List.Sublist.append_left (List.Sublist.append_left (List.Sublist.append_left (List.Sublist.append_left (sk _ (((((sc _ (sc _ sn)).trans (List.sublist_append_right _ _)).trans (List.sublist_append_right _ _)).trans (List.sublist_append_right _ _)).trans (List.sublist_append_right _ _))) _) _) _) _) ?_
          refine ek_roundF (y.step.k.toNat) ((by simp only [Nm.step]; omega)) (by kernel_rfl) ?_
          exact ⟨y.step, sa7, sa8, sa9, sa10, sc7, sc8, sc9, sc10, (u10 ++ (u9 ++ (u8 ++ u7))), (by simp only [List.append_assoc]; rfl), by rfl, (Lib.hid ((nf_step (by omega) ⟨by omega, by omega⟩).symm.trans hnf.out)), ⟨(SK.own (hS7.mono ((((List.Sublist.refl _).trans (List.sublist_append_right _ _)).trans (List.sublist_append_right _ _)).trans (List.sublist_append_right _ _)))), (SK.own (hS8.mono (((List.sublist_append_left _ _).trans (List.sublist_append_right _ _)).trans (List.sublist_append_right _ _)))), (SK.own (hS9.mono ((List.sublist_append_left _ _).trans (List.sublist_append_right _ _)))), (SK.own (hS10.mono (List.sublist_append_left _ _)))⟩, (Nm.step_fit hfit), (by simp only [Nm.step]; omega), (by simp only [Nm.step]; omega)⟩
  · rintro f1 s ⟨y, ta0, ta1, ta2, ta3, tc0, tc1, tc2, tc3, u, rfl, hnf, hst, hsk, hfit⟩
    simp only [Act.putF, List.foldl_cons, List.foldl_nil, Act.put, Act.eval, q1, q2, q3, q4, q5, q6, q7, q8, q9, q10, q11, q12, q13, q14, q15, q16, q17, q18, Nat.reduceAdd, Bool.not_true, Bool.not_false]
    have hyz : y = z.nf := hst.symm.trans hnf.out
    replace hyz := Lib.hid hyz
    clear hst hnf
    obtain ⟨la, lb, lc, ld⟩ := fit_big hfit
    refine wk_seq ?_
    refine wk_region [0, 0, 0, 1, 1] rfl (by kernel_rfl) ?_
    simp only [List.zip_cons_cons, List.zip_nil_right]
    refine rf_field (n := 0) (j := 8) rfl rfl rfl Try.underlying70 rfl (by kernel_rfl) rfl ?_
    simp only [Act.put, Act.eval, qn, qv, Nat.reduceAdd]
    refine rf_load rfl rfl rfl Try.underlying3 rfl (fun w hw => (Kn.hd0 (Kn.tl (Kn.tlU hw))).at rfl) ?_
    simp only [Act.put, Act.eval, qn, qv, Nat.reduceAdd]
    refine rf_build (cs := fun a => #[.int .i64 0, .int .i64 0, .int .i64 0, .int .i64 0, a.eval (.tmp 53)]) rfl rfl (by kernel_rfl) ?_
    simp only [Act.put, Act.eval, qn, qv, Nat.reduceAdd]
    refine rg_new (cs := ?_) (ty := ?_) (by rfl) (fun w => ?_) (fun _ h => by cases h) (fun g11 => ?_); rotate_left 2
    focus (go_simp; rfl)
    simp only [Act.put, Act.eval, qn, qv, Nat.reduceAdd]
    refine rf_storeR (n := 5) rfl rfl (by kernel_rfl) rfl rfl (UpdR.here _ _ _ (Nat.le_of_ble_eq_true rfl)) (fun _ h => by cases h) ?_
    simp only [Act.put, Act.eval, qn, qv, Nat.reduceAdd]
    refine rg_nil ?_
    refine ek_next ?_
    refine wk_seq ?_
    refine wk_seq ?_
    refine wk_region [0] rfl (by kernel_rfl) ?_
    simp only [List.zip_cons_cons, List.zip_nil_right]
    refine rg_assign ?_
    simp only [Act.put, Act.eval, qn, qv, Nat.reduceAdd]
    refine rg_nil ?_
    refine ek_next ?_
    refine wk_block ?_
    refine wk_unroll 4 ?_
    refine wk_seq ?_
    refine wk_seq ?_
    refine wk_region [0, 0] rfl (by kernel_rfl) ?_
    simp only [List.zip_cons_cons, List.zip_nil_right]
    refine rg_move ?_
    simp only [Act.put, Act.eval, qn, qv, Nat.reduceAdd]
    refine rf_lss (b := true) rfl rfl rfl rfl (by decide) ?_
    simp only [Act.put, Act.eval, qn, qv, Nat.reduceAdd]
    refine rg_nil ?_
    refine ek_next ?_
    refine wk_cond_t rfl ?_
    refine wk_skip ?_
    refine ek_next ?_
    refine wk_seq ?_
    refine wk_block ?_
    refine wk_seq ?_
    refine wk_region [0, 0, 0, 0, 1, 0, 0, 0, 0, 0] rfl (by kernel_rfl) ?_
    simp only [List.zip_cons_cons, List.zip_nil_right]
    refine rg_move ?_
    simp only [Act.put, Act.eval, qn, qv, Nat.reduceAdd]
    refine rf_field (n := 7) (j := 0) rfl rfl rfl Try.underlying70 rfl (by kernel_rfl) rfl ?_
    simp only [Act.put, Act.eval, qn, qv, Nat.reduceAdd]
    refine rf_indexA (n := 0) (sz := 2) (j := 0) rfl rfl rfl rfl Try.underlying68 (by kernel_rfl) (by decide) rfl ?_
    simp only [Act.put, Act.eval, qn, qv, Nat.reduceAdd]
    refine rf_loadR (n := 2) rfl rfl rfl Try.underlying67 rfl (by kernel_rfl) (fun w hw => Kn.hd0 (Kn.tl (Kn.tlU (Kn.tl hw)))) rfl rfl ?_
    simp only [Act.put, Act.eval, qn, qv, Nat.reduceAdd]
    cases hq0 : smB y.a
    · apply rg_pure (by rfl) (by kernel_rfl)
      case hargs => (simp only [qm, qs, Act.eval]; exact rfl)
      case h => exact fun w hw => by have := bsmall_any y.a _ la w (hsk.a.at hw (List.Sublist.cons _ (List.sublist_append_left _ _))); rw [hq0] at this; exact this
      case hz => exact (fun _ h => by cases h)
      simp only [Act.put, Act.eval, qn, qv, Nat.reduceAdd]
      refine rg_move ?_
      simp only [Act.put, Act.eval, qn, qv, Nat.reduceAdd]
      refine rf_extract rfl rfl rfl rfl ?_
      simp only [Act.put, Act.eval, qn, qv, Nat.reduceAdd]
      refine rf_extract rfl rfl rfl rfl ?_
      simp only [Act.put, Act.eval, qn, qv, Nat.reduceAdd]
      refine rg_assign ?_
      simp only [Act.put, Act.eval, qn, qv, Nat.reduceAdd]
      refine rg_assign ?_
      simp only [Act.put, Act.eval, qn, qv, Nat.reduceAdd]
      refine rg_nil ?_
      refine ek_next ?_
      refine wk_seq ?_
      refine wk_seq ?_
      refine wk_region [0, 0] rfl (by kernel_rfl) ?_
      simp only [List.zip_cons_cons, List.zip_nil_right]
      refine rg_move ?_
      simp only [Act.put, Act.eval, qn, qv, Nat.reduceAdd]
      refine rf_not rfl rfl rfl ?_
      simp only [Act.put, Act.eval, qn, qv, Nat.reduceAdd]
      refine rg_nil ?_
      refine ek_next ?_
      refine wk_cond_t rfl ?_
      refine wk_seq ?_
      refine wk_region [0, 1, 0] rfl (by kernel_rfl) ?_
      simp only [List.zip_cons_cons, List.zip_nil_right]
      refine rf_build (cs := fun a => #[.int .i64 0, .int .i64 0, .int .i64 0, .int .i64 0, .int .i64 0]) rfl rfl (by kernel_rfl) ?_
      simp only [Act.put, Act.eval, qn, qv, Nat.reduceAdd]
      refine rf_storeR (n := 5) rfl rfl (by kernel_rfl) rfl rfl (UpdR.there _ (UpdR.app _ (UpdR.here _ _ _ (Nat.le_of_ble_eq_true rfl)))) (fun _ h => by cases h) ?_
      simp only [Act.put, Act.eval, qn, qv, Nat.reduceAdd]
      refine rg_assign ?_
      simp only [Act.put, Act.eval, qn, qv, Nat.reduceAdd]
      refine rg_nil ?_
      refine ek_next ?_
      refine wk_ret ?_
      refine ek_then_ret ?_
      refine ek_block_ret ?_
      refine ek_then_ret ?_
      refine ek_then_ret ?_
      refine ek_block_ret ?_
      refine ek_then_ret ?_
      refine ek_ret (fun w hw => ⟨rfl, _, run_results2 rfl rfl (Kn.hd0 (Kn.tlU (Kn.tl hw))) Try.underlying45 rfl (by kernel_rfl), ?_⟩)
      (try simp only [Act.put, Act.eval, qn, qv, Nat.reduceAdd])
      exact ⟨by unfold wnum; rw [← hyz.out]; unfold numOk; simp [*, Nm.zero], hw.below⟩
    · apply rg_pure (by rfl) (by kernel_rfl)
      case hargs => (simp only [qm, qs, Act.eval]; exact rfl)
      case h => exact fun w hw => by have := bsmall_any y.a _ la w (hsk.a.at hw (List.Sublist.cons _ (List.sublist_append_left _ _))); rw [hq0] at this; exact this
      case hz => exact (fun _ h => by cases h)
      simp only [Act.put, Act.eval, qn, qv, Nat.reduceAdd]
      refine rg_move ?_
      simp only [Act.put, Act.eval, qn, qv, Nat.reduceAdd]
      refine rf_extract rfl rfl rfl rfl ?_
      simp only [Act.put, Act.eval, qn, qv, Nat.reduceAdd]
      refine rf_extract rfl rfl rfl rfl ?_
      simp only [Act.put, Act.eval, qn, qv, Nat.reduceAdd]
      refine rg_assign ?_
      simp only [Act.put, Act.eval, qn, qv, Nat.reduceAdd]
      refine rg_assign ?_
      simp only [Act.put, Act.eval, qn, qv, Nat.reduceAdd]
      refine rg_nil ?_
      refine ek_next ?_
      refine wk_seq ?_
      refine wk_seq ?_
      refine wk_region [0, 0] rfl (by kernel_rfl) ?_
      simp only [List.zip_cons_cons, List.zip_nil_right]
      refine rg_move ?_
      simp only [Act.put, Act.eval, qn, qv, Nat.reduceAdd]
      refine rf_not rfl rfl rfl ?_
      simp only [Act.put, Act.eval, qn, qv, Nat.reduceAdd]
      refine rg_nil ?_
      refine ek_next ?_
      refine wk_cond_f rfl ?_
      refine wk_skip ?_
      refine ek_next ?_
      refine wk_region [0, 0, 0, 0, 1] rfl (by kernel_rfl) ?_
      simp only [List.zip_cons_cons, List.zip_nil_right]
      refine rg_move ?_
      simp only [Act.put, Act.eval, qn, qv, Nat.reduceAdd]
      refine rg_move ?_
      simp only [Act.put, Act.eval, qn, qv, Nat.reduceAdd]
      refine rf_field (n := 3) (j := 0) rfl rfl rfl Try.underlying45 rfl (by kernel_rfl) rfl ?_
      simp only [Act.put, Act.eval, qn, qv, Nat.reduceAdd]
      refine rf_indexA (n := 0) (sz := 1) (j := 0) rfl rfl rfl rfl Try.underlying43 (by kernel_rfl) (by decide) rfl ?_
      simp only [Act.put, Act.eval, qn, qv, Nat.reduceAdd]
      refine rf_store rfl rfl (by kernel_rfl) rfl rfl (UpdR.here _ _ _ (Nat.le_of_ble_eq_true rfl)) (fun _ h => by cases h) ?_
      simp only [Act.put, Act.eval, qn, qv, Nat.reduceAdd]
      refine rg_nil ?_
      refine ek_block ?_
      refine ek_next ?_
      refine wk_region [0, 0, 0] rfl (by kernel_rfl) ?_
      simp only [List.zip_cons_cons, List.zip_nil_right]
      refine rg_move ?_
      simp only [Act.put, Act.eval, qn, qv, Nat.reduceAdd]
      refine rf_add (r := 1) rfl rfl rfl rfl (by decide) ?_
      simp only [Act.put, Act.eval, qn, qv, Nat.reduceAdd]
      refine rg_assign ?_
      simp only [Act.put, Act.eval, qn, qv, Nat.reduceAdd]
      refine rg_nil ?_
      refine ek_again ?_
      refine wk_seq ?_
      refine wk_seq ?_
      refine wk_region [0, 0] rfl (by kernel_rfl) ?_
      simp only [List.zip_cons_cons, List.zip_nil_right]
      refine rg_move ?_
      simp only [Act.put, Act.eval, qn, qv, Nat.reduceAdd]
      refine rf_lss (b := true) rfl rfl rfl rfl (by decide) ?_
      simp only [Act.put, Act.eval, qn, qv, Nat.reduceAdd]
      refine rg_nil ?_
      refine ek_next ?_
      refine wk_cond_t rfl ?_
      refine wk_skip ?_
      refine ek_next ?_
      refine wk_seq ?_
      refine wk_block ?_
      refine wk_seq ?_
      refine wk_region [0, 0, 0, 0, 1, 0, 0, 0, 0, 0] rfl (by kernel_rfl) ?_
      simp only [List.zip_cons_cons, List.zip_nil_right]
      refine rg_move ?_
      simp only [Act.put, Act.eval, qn, qv, Nat.reduceAdd]
      refine rf_field (n := 7) (j := 0) rfl rfl rfl Try.underlying70 rfl (by kernel_rfl) rfl ?_
      simp only [Act.put, Act.eval, qn, qv, Nat.reduceAdd]
      refine rf_indexA (n := 1) (sz := 2) (j := 2) rfl rfl rfl rfl Try.underlying68 (by kernel_rfl) (by decide) rfl ?_
      simp only [Act.put, Act.eval, qn, qv, Nat.reduceAdd]
      refine rf_loadR (n := 2) rfl rfl rfl Try.underlying67 rfl (by kernel_rfl) (fun w hw => Kn.hd0 (Kn.tl (Kn.tlU (Kn.tl hw)))) rfl rfl ?_
      simp only [Act.put, Act.eval, qn, qv, Nat.reduceAdd]
      cases hq1 : smB y.b
      · apply rg_pure (by rfl) (by kernel_rfl)
        case hargs => (simp only [qm, qs, Act.eval]; exact rfl)
        case h => exact fun w hw => by have := bsmall_any y.b _ lb w (hsk.b.at hw (List.Sublist.cons _ (List.sublist_append_left _ _))); rw [hq1] at this; exact this
        case hz => exact (fun _ h => by cases h)
        simp only [Act.put, Act.eval, qn, qv, Nat.reduceAdd]
        refine rg_move ?_
        simp only [Act.put, Act.eval, qn, qv, Nat.reduceAdd]
        refine rf_extract rfl rfl rfl rfl ?_
        simp only [Act.put, Act.eval, qn, qv, Nat.reduceAdd]
        refine rf_extract rfl rfl rfl rfl ?_
        simp only [Act.put, Act.eval, qn, qv, Nat.reduceAdd]
        refine rg_assign ?_
        simp only [Act.put, Act.eval, qn, qv, Nat.reduceAdd]
        refine rg_assign ?_
        simp only [Act.put, Act.eval, qn, qv, Nat.reduceAdd]
        refine rg_nil ?_
        refine ek_next ?_
        refine wk_seq ?_
        refine wk_seq ?_
        refine wk_region [0, 0] rfl (by kernel_rfl) ?_
        simp only [List.zip_cons_cons, List.zip_nil_right]
        refine rg_move ?_
        simp only [Act.put, Act.eval, qn, qv, Nat.reduceAdd]
        refine rf_not rfl rfl rfl ?_
        simp only [Act.put, Act.eval, qn, qv, Nat.reduceAdd]
        refine rg_nil ?_
        refine ek_next ?_
        refine wk_cond_t rfl ?_
        refine wk_seq ?_
        refine wk_region [0, 1, 0] rfl (by kernel_rfl) ?_
        simp only [List.zip_cons_cons, List.zip_nil_right]
        refine rf_build (cs := fun a => #[.int .i64 0, .int .i64 0, .int .i64 0, .int .i64 0, .int .i64 0]) rfl rfl (by kernel_rfl) ?_
        simp only [Act.put, Act.eval, qn, qv, Nat.reduceAdd]
        refine rf_storeR (n := 5) rfl rfl (by kernel_rfl) rfl rfl (UpdR.there _ (UpdR.app _ (UpdR.here _ _ _ (Nat.le_of_ble_eq_true rfl)))) (fun _ h => by cases h) ?_
        simp only [Act.put, Act.eval, qn, qv, Nat.reduceAdd]
        refine rg_assign ?_
        simp only [Act.put, Act.eval, qn, qv, Nat.reduceAdd]
        refine rg_nil ?_
        refine ek_next ?_
        refine wk_ret ?_
        refine ek_then_ret ?_
        refine ek_block_ret ?_
        refine ek_then_ret ?_
        refine ek_then_ret ?_
        refine ek_block_ret ?_
        refine ek_then_ret ?_
        refine ek_ret (fun w hw => ⟨rfl, _, run_results2 rfl rfl (Kn.hd0 (Kn.tlU (Kn.tl hw))) Try.underlying45 rfl (by kernel_rfl), ?_⟩)
        (try simp only [Act.put, Act.eval, qn, qv, Nat.reduceAdd])
        exact ⟨by unfold wnum; rw [← hyz.out]; unfold numOk; simp [*, Nm.zero], hw.below⟩
      · apply rg_pure (by rfl) (by kernel_rfl)
        case hargs => (simp only [qm, qs, Act.eval]; exact rfl)
        case h => exact fun w hw => by have := bsmall_any y.b _ lb w (hsk.b.at hw (List.Sublist.cons _ (List.sublist_append_left _ _))); rw [hq1] at this; exact this
        case hz => exact (fun _ h => by cases h)
        simp only [Act.put, Act.eval, qn, qv, Nat.reduceAdd]
        refine rg_move ?_
        simp only [Act.put, Act.eval, qn, qv, Nat.reduceAdd]
        refine rf_extract rfl rfl rfl rfl ?_
        simp only [Act.put, Act.eval, qn, qv, Nat.reduceAdd]
        refine rf_extract rfl rfl rfl rfl ?_
        simp only [Act.put, Act.eval, qn, qv, Nat.reduceAdd]
        refine rg_assign ?_
        simp only [Act.put, Act.eval, qn, qv, Nat.reduceAdd]
        refine rg_assign ?_
        simp only [Act.put, Act.eval, qn, qv, Nat.reduceAdd]
        refine rg_nil ?_
        refine ek_next ?_
        refine wk_seq ?_
        refine wk_seq ?_
        refine wk_region [0, 0] rfl (by kernel_rfl) ?_
        simp only [List.zip_cons_cons, List.zip_nil_right]
        refine rg_move ?_
        simp only [Act.put, Act.eval, qn, qv, Nat.reduceAdd]
        refine rf_not rfl rfl rfl ?_
        simp only [Act.put, Act.eval, qn, qv, Nat.reduceAdd]
        refine rg_nil ?_
        refine ek_next ?_
        refine wk_cond_f rfl ?_
        refine wk_skip ?_
        refine ek_next ?_
        refine wk_region [0, 0, 0, 0, 1] rfl (by kernel_rfl) ?_
        simp only [List.zip_cons_cons, List.zip_nil_right]
        refine rg_move ?_
        simp only [Act.put, Act.eval, qn, qv, Nat.reduceAdd]
        refine rg_move ?_
        simp only [Act.put, Act.eval, qn, qv, Nat.reduceAdd]
        refine rf_field (n := 3) (j := 0) rfl rfl rfl Try.underlying45 rfl (by kernel_rfl) rfl ?_
        simp only [Act.put, Act.eval, qn, qv, Nat.reduceAdd]
        refine rf_indexA (n := 1) (sz := 1) (j := 1) rfl rfl rfl rfl Try.underlying43 (by kernel_rfl) (by decide) rfl ?_
        simp only [Act.put, Act.eval, qn, qv, Nat.reduceAdd]
        refine rf_store rfl rfl (by kernel_rfl) rfl rfl (UpdR.here _ _ _ (Nat.le_of_ble_eq_true rfl)) (fun _ h => by cases h) ?_
        simp only [Act.put, Act.eval, qn, qv, Nat.reduceAdd]
        refine rg_nil ?_
        refine ek_block ?_
        refine ek_next ?_
        refine wk_region [0, 0, 0] rfl (by kernel_rfl) ?_
        simp only [List.zip_cons_cons, List.zip_nil_right]
        refine rg_move ?_
        simp only [Act.put, Act.eval, qn, qv, Nat.reduceAdd]
        refine rf_add (r := 2) rfl rfl rfl rfl (by decide) ?_
        simp only [Act.put, Act.eval, qn, qv, Nat.reduceAdd]
        refine rg_assign ?_
        simp only [Act.put, Act.eval, qn, qv, Nat.reduceAdd]
        refine rg_nil ?_
        refine ek_again ?_
        refine wk_seq ?_
        refine wk_seq ?_
        refine wk_region [0, 0] rfl (by kernel_rfl) ?_
        simp only [List.zip_cons_cons, List.zip_nil_right]
        refine rg_move ?_
        simp only [Act.put, Act.eval, qn, qv, Nat.reduceAdd]
        refine rf_lss (b := true) rfl rfl rfl rfl (by decide) ?_
        simp only [Act.put, Act.eval, qn, qv, Nat.reduceAdd]
        refine rg_nil ?_
        refine ek_next ?_
        refine wk_cond_t rfl ?_
        refine wk_skip ?_
        refine ek_next ?_
        refine wk_seq ?_
        refine wk_block ?_
        refine wk_seq ?_
        refine wk_region [0, 0, 0, 0, 1, 0, 0, 0, 0, 0] rfl (by kernel_rfl) ?_
        simp only [List.zip_cons_cons, List.zip_nil_right]
        refine rg_move ?_
        simp only [Act.put, Act.eval, qn, qv, Nat.reduceAdd]
        refine rf_field (n := 7) (j := 0) rfl rfl rfl Try.underlying70 rfl (by kernel_rfl) rfl ?_
        simp only [Act.put, Act.eval, qn, qv, Nat.reduceAdd]
        refine rf_indexA (n := 2) (sz := 2) (j := 4) rfl rfl rfl rfl Try.underlying68 (by kernel_rfl) (by decide) rfl ?_
        simp only [Act.put, Act.eval, qn, qv, Nat.reduceAdd]
        refine rf_loadR (n := 2) rfl rfl rfl Try.underlying67 rfl (by kernel_rfl) (fun w hw => Kn.hd0 (Kn.tl (Kn.tlU (Kn.tl hw)))) rfl rfl ?_
        simp only [Act.put, Act.eval, qn, qv, Nat.reduceAdd]
        cases hq2 : smB y.c
        · apply rg_pure (by rfl) (by kernel_rfl)
          case hargs => (simp only [qm, qs, Act.eval]; exact rfl)
          case h => exact fun w hw => by have := bsmall_any y.c _ lc w (hsk.c.at hw (List.Sublist.cons _ (List.sublist_append_left _ _))); rw [hq2] at this; exact this
          case hz => exact (fun _ h => by cases h)
          simp only [Act.put, Act.eval, qn, qv, Nat.reduceAdd]
          refine rg_move ?_
          simp only [Act.put, Act.eval, qn, qv, Nat.reduceAdd]
          refine rf_extract rfl rfl rfl rfl ?_
          simp only [Act.put, Act.eval, qn, qv, Nat.reduceAdd]
          refine rf_extract rfl rfl rfl rfl ?_
          simp only [Act.put, Act.eval, qn, qv, Nat.reduceAdd]
          refine rg_assign ?_
          simp only [Act.put, Act.eval, qn, qv, Nat.reduceAdd]
          refine rg_assign ?_
          simp only [Act.put, Act.eval, qn, qv, Nat.reduceAdd]
          refine rg_nil ?_
          refine ek_next ?_
          refine wk_seq ?_
          refine wk_seq ?_
          refine wk_region [0, 0] rfl (by kernel_rfl) ?_
          simp only [List.zip_cons_cons, List.zip_nil_right]
          refine rg_move ?_
          simp only [Act.put, Act.eval, qn, qv, Nat.reduceAdd]
          refine rf_not rfl rfl rfl ?_
          simp only [Act.put, Act.eval, qn, qv, Nat.reduceAdd]
          refine rg_nil ?_
          refine ek_next ?_
          refine wk_cond_t rfl ?_
          refine wk_seq ?_
          refine wk_region [0, 1, 0] rfl (by kernel_rfl) ?_
          simp only [List.zip_cons_cons, List.zip_nil_right]
          refine rf_build (cs := fun a => #[.int .i64 0, .int .i64 0, .int .i64 0, .int .i64 0, .int .i64 0]) rfl rfl (by kernel_rfl) ?_
          simp only [Act.put, Act.eval, qn, qv, Nat.reduceAdd]
          refine rf_storeR (n := 5) rfl rfl (by kernel_rfl) rfl rfl (UpdR.there _ (UpdR.app _ (UpdR.here _ _ _ (Nat.le_of_ble_eq_true rfl)))) (fun _ h => by cases h) ?_
          simp only [Act.put, Act.eval, qn, qv, Nat.reduceAdd]
          refine rg_assign ?_
          simp only [Act.put, Act.eval, qn, qv, Nat.reduceAdd]
          refine rg_nil ?_
          refine ek_next ?_
          refine wk_ret ?_
          refine ek_then_ret ?_
          refine ek_block_ret ?_
          refine ek_then_ret ?_
          refine ek_then_ret ?_
          refine ek_block_ret ?_
          refine ek_then_ret ?_
          refine ek_ret (fun w hw => ⟨rfl, _, run_results2 rfl rfl (Kn.hd0 (Kn.tlU (Kn.tl hw))) Try.underlying45 rfl (by kernel_rfl), ?_⟩)
          (try simp only [Act.put, Act.eval, qn, qv, Nat.reduceAdd])
          exact ⟨by unfold wnum; rw [← hyz.out]; unfold numOk; simp [*, Nm.zero], hw.below⟩
        · apply rg_pure (by rfl) (by kernel_rfl)
          case hargs => (simp only [qm, qs, Act.eval]; exact rfl)
          case h => exact fun w hw => by have := bsmall_any y.c _ lc w (hsk.c.at hw (List.Sublist.cons _ (List.sublist_append_left _ _))); rw [hq2] at this; exact this
          case hz => exact (fun _ h => by cases h)
          simp only [Act.put, Act.eval, qn, qv, Nat.reduceAdd]
          refine rg_move ?_
          simp only [Act.put, Act.eval, qn, qv, Nat.reduceAdd]
          refine rf_extract rfl rfl rfl rfl ?_
          simp only [Act.put, Act.eval, qn, qv, Nat.reduceAdd]
          refine rf_extract rfl rfl rfl rfl ?_
          simp only [Act.put, Act.eval, qn, qv, Nat.reduceAdd]
          refine rg_assign ?_
          simp only [Act.put, Act.eval, qn, qv, Nat.reduceAdd]
          refine rg_assign ?_
          simp only [Act.put, Act.eval, qn, qv, Nat.reduceAdd]
          refine rg_nil ?_
          refine ek_next ?_
          refine wk_seq ?_
          refine wk_seq ?_
          refine wk_region [0, 0] rfl (by kernel_rfl) ?_
          simp only [List.zip_cons_cons, List.zip_nil_right]
          refine rg_move ?_
          simp only [Act.put, Act.eval, qn, qv, Nat.reduceAdd]
          refine rf_not rfl rfl rfl ?_
          simp only [Act.put, Act.eval, qn, qv, Nat.reduceAdd]
          refine rg_nil ?_
          refine ek_next ?_
          refine wk_cond_f rfl ?_
          refine wk_skip ?_
          refine ek_next ?_
          refine wk_region [0, 0, 0, 0, 1] rfl (by kernel_rfl) ?_
          simp only [List.zip_cons_cons, List.zip_nil_right]
          refine rg_move ?_
          simp only [Act.put, Act.eval, qn, qv, Nat.reduceAdd]
          refine rg_move ?_
          simp only [Act.put, Act.eval, qn, qv, Nat.reduceAdd]
          refine rf_field (n := 3) (j := 0) rfl rfl rfl Try.underlying45 rfl (by kernel_rfl) rfl ?_
          simp only [Act.put, Act.eval, qn, qv, Nat.reduceAdd]
          refine rf_indexA (n := 2) (sz := 1) (j := 2) rfl rfl rfl rfl Try.underlying43 (by kernel_rfl) (by decide) rfl ?_
          simp only [Act.put, Act.eval, qn, qv, Nat.reduceAdd]
          refine rf_store rfl rfl (by kernel_rfl) rfl rfl (UpdR.here _ _ _ (Nat.le_of_ble_eq_true rfl)) (fun _ h => by cases h) ?_
          simp only [Act.put, Act.eval, qn, qv, Nat.reduceAdd]
          refine rg_nil ?_
          refine ek_block ?_
          refine ek_next ?_
          refine wk_region [0, 0, 0] rfl (by kernel_rfl) ?_
          simp only [List.zip_cons_cons, List.zip_nil_right]
          refine rg_move ?_
          simp only [Act.put, Act.eval, qn, qv, Nat.reduceAdd]
          refine rf_add (r := 3) rfl rfl rfl rfl (by decide) ?_
          simp only [Act.put, Act.eval, qn, qv, Nat.reduceAdd]
          refine rg_assign ?_
          simp only [Act.put, Act.eval, qn, qv, Nat.reduceAdd]
          refine rg_nil ?_
          refine ek_again ?_
          refine wk_seq ?_
          refine wk_seq ?_
          refine wk_region [0, 0] rfl (by kernel_rfl) ?_
          simp only [List.zip_cons_cons, List.zip_nil_right]
          refine rg_move ?_
          simp only [Act.put, Act.eval, qn, qv, Nat.reduceAdd]
          refine rf_lss (b := true) rfl rfl rfl rfl (by decide) ?_
          simp only [Act.put, Act.eval, qn, qv, Nat.reduceAdd]
          refine rg_nil ?_
          refine ek_next ?_
          refine wk_cond_t rfl ?_
          refine wk_skip ?_
          refine ek_next ?_
          refine wk_seq ?_
          refine wk_block ?_
          refine wk_seq ?_
          refine wk_region [0, 0, 0, 0, 1, 0, 0, 0, 0, 0] rfl (by kernel_rfl) ?_
          simp only [List.zip_cons_cons, List.zip_nil_right]
          refine rg_move ?_
          simp only [Act.put, Act.eval, qn, qv, Nat.reduceAdd]
          refine rf_field (n := 7) (j := 0) rfl rfl rfl Try.underlying70 rfl (by kernel_rfl) rfl ?_
          simp only [Act.put, Act.eval, qn, qv, Nat.reduceAdd]
          refine rf_indexA (n := 3) (sz := 2) (j := 6) rfl rfl rfl rfl Try.underlying68 (by kernel_rfl) (by decide) rfl ?_
          simp only [Act.put, Act.eval, qn, qv, Nat.reduceAdd]
          refine rf_loadR (n := 2) rfl rfl rfl Try.underlying67 rfl (by kernel_rfl) (fun w hw => Kn.hd0 (Kn.tl (Kn.tlU (Kn.tl hw)))) rfl rfl ?_
          simp only [Act.put, Act.eval, qn, qv, Nat.reduceAdd]
          cases hq3 : smB y.d
          · apply rg_pure (by rfl) (by kernel_rfl)
            case hargs => (simp only [qm, qs, Act.eval]; exact rfl)
            case h => exact fun w hw => by have := bsmall_any y.d _ ld w (hsk.d.at hw (List.Sublist.cons _ (List.sublist_append_left _ _))); rw [hq3] at this; exact this
            case hz => exact (fun _ h => by cases h)
            simp only [Act.put, Act.eval, qn, qv, Nat.reduceAdd]
            refine rg_move ?_
            simp only [Act.put, Act.eval, qn, qv, Nat.reduceAdd]
            refine rf_extract rfl rfl rfl rfl ?_
            simp only [Act.put, Act.eval, qn, qv, Nat.reduceAdd]
            refine rf_extract rfl rfl rfl rfl ?_
            simp only [Act.put, Act.eval, qn, qv, Nat.reduceAdd]
            refine rg_assign ?_
            simp only [Act.put, Act.eval, qn, qv, Nat.reduceAdd]
            refine rg_assign ?_
            simp only [Act.put, Act.eval, qn, qv, Nat.reduceAdd]
            refine rg_nil ?_
            refine ek_next ?_
            refine wk_seq ?_
            refine wk_seq ?_
            refine wk_region [0, 0] rfl (by kernel_rfl) ?_
            simp only [List.zip_cons_cons, List.zip_nil_right]
            refine rg_move ?_
            simp only [Act.put, Act.eval, qn, qv, Nat.reduceAdd]
            refine rf_not rfl rfl rfl ?_
            simp only [Act.put, Act.eval, qn, qv, Nat.reduceAdd]
            refine rg_nil ?_
            refine ek_next ?_
            refine wk_cond_t rfl ?_
            refine wk_seq ?_
            refine wk_region [0, 1, 0] rfl (by kernel_rfl) ?_
            simp only [List.zip_cons_cons, List.zip_nil_right]
            refine rf_build (cs := fun a => #[.int .i64 0, .int .i64 0, .int .i64 0, .int .i64 0, .int .i64 0]) rfl rfl (by kernel_rfl) ?_
            simp only [Act.put, Act.eval, qn, qv, Nat.reduceAdd]
            refine rf_storeR (n := 5) rfl rfl (by kernel_rfl) rfl rfl (UpdR.there _ (UpdR.app _ (UpdR.here _ _ _ (Nat.le_of_ble_eq_true rfl)))) (fun _ h => by cases h) ?_
            simp only [Act.put, Act.eval, qn, qv, Nat.reduceAdd]
            refine rg_assign ?_
            simp only [Act.put, Act.eval, qn, qv, Nat.reduceAdd]
            refine rg_nil ?_
            refine ek_next ?_
            refine wk_ret ?_
            refine ek_then_ret ?_
            refine ek_block_ret ?_
            refine ek_then_ret ?_
            refine ek_then_ret ?_
            refine ek_block_ret ?_
            refine ek_then_ret ?_
            refine ek_ret (fun w hw => ⟨rfl, _, run_results2 rfl rfl (Kn.hd0 (Kn.tlU (Kn.tl hw))) Try.underlying45 rfl (by kernel_rfl), ?_⟩)
            (try simp only [Act.put, Act.eval, qn, qv, Nat.reduceAdd])
            exact ⟨by unfold wnum; rw [← hyz.out]; unfold numOk; simp [*, Nm.zero], hw.below⟩
          · apply rg_pure (by rfl) (by kernel_rfl)
            case hargs => (simp only [qm, qs, Act.eval]; exact rfl)
            case h => exact fun w hw => by have := bsmall_any y.d _ ld w (hsk.d.at hw (List.Sublist.cons _ (List.sublist_append_left _ _))); rw [hq3] at this; exact this
            case hz => exact (fun _ h => by cases h)
            simp only [Act.put, Act.eval, qn, qv, Nat.reduceAdd]
            refine rg_move ?_
            simp only [Act.put, Act.eval, qn, qv, Nat.reduceAdd]
            refine rf_extract rfl rfl rfl rfl ?_
            simp only [Act.put, Act.eval, qn, qv, Nat.reduceAdd]
            refine rf_extract rfl rfl rfl rfl ?_
            simp only [Act.put, Act.eval, qn, qv, Nat.reduceAdd]
            refine rg_assign ?_
            simp only [Act.put, Act.eval, qn, qv, Nat.reduceAdd]
            refine rg_assign ?_
            simp only [Act.put, Act.eval, qn, qv, Nat.reduceAdd]
            refine rg_nil ?_
            refine ek_next ?_
            refine wk_seq ?_
            refine wk_seq ?_
            refine wk_region [0, 0] rfl (by kernel_rfl) ?_
            simp only [List.zip_cons_cons, List.zip_nil_right]
            refine rg_move ?_
            simp only [Act.put, Act.eval, qn, qv, Nat.reduceAdd]
            refine rf_not rfl rfl rfl ?_
            simp only [Act.put, Act.eval, qn, qv, Nat.reduceAdd]
            refine rg_nil ?_
            refine ek_next ?_
            refine wk_cond_f rfl ?_
            refine wk_skip ?_
            refine ek_next ?_
            refine wk_region [0, 0, 0, 0, 1] rfl (by kernel_rfl) ?_
            simp only [List.zip_cons_cons, List.zip_nil_right]
            refine rg_move ?_
            simp only [Act.put, Act.eval, qn, qv, Nat.reduceAdd]
            refine rg_move ?_
            simp only [Act.put, Act.eval, qn, qv, Nat.reduceAdd]
            refine rf_field (n := 3) (j := 0) rfl rfl rfl Try.underlying45 rfl (by kernel_rfl) rfl ?_
            simp only [Act.put, Act.eval, qn, qv, Nat.reduceAdd]
            refine rf_indexA (n := 3) (sz := 1) (j := 3) rfl rfl rfl rfl Try.underlying43 (by kernel_rfl) (by decide) rfl ?_
            simp only [Act.put, Act.eval, qn, qv, Nat.reduceAdd]
            refine rf_store rfl rfl (by kernel_rfl) rfl rfl (UpdR.here _ _ _ (Nat.le_of_ble_eq_true rfl)) (fun _ h => by cases h) ?_
            simp only [Act.put, Act.eval, qn, qv, Nat.reduceAdd]
            refine rg_nil ?_
            refine ek_block ?_
            refine ek_next ?_
            refine wk_region [0, 0, 0] rfl (by kernel_rfl) ?_
            simp only [List.zip_cons_cons, List.zip_nil_right]
            refine rg_move ?_
            simp only [Act.put, Act.eval, qn, qv, Nat.reduceAdd]
            refine rf_add (r := 4) rfl rfl rfl rfl (by decide) ?_
            simp only [Act.put, Act.eval, qn, qv, Nat.reduceAdd]
            refine rg_assign ?_
            simp only [Act.put, Act.eval, qn, qv, Nat.reduceAdd]
            refine rg_nil ?_
            refine ek_again ?_
            refine wk_seq ?_
            refine wk_seq ?_
            refine wk_region [0, 0] rfl (by kernel_rfl) ?_
            simp only [List.zip_cons_cons, List.zip_nil_right]
            refine rg_move ?_
            simp only [Act.put, Act.eval, qn, qv, Nat.reduceAdd]
            refine rf_lss (b := false) rfl rfl rfl rfl (by decide) ?_
            simp only [Act.put, Act.eval, qn, qv, Nat.reduceAdd]
            refine rg_nil ?_
            refine ek_next ?_
            refine wk_cond_f rfl ?_
            refine wk_exit ?_
            refine ek_then_exit ?_
            refine ek_then_exit ?_
            refine ek_block_exit ?_
            refine ek_next ?_
            refine wk_seq ?_
            refine wk_draws_m (hz1 := (sc _ (List.Sublist.append_left (sk _ (sc _ sn)) _))) [(0, 0), (1, 3), (2, 3), (3, 3), (4, 2), (5, 0)] 4 (by kernel_rfl) (by kernel_rfl) (fun c d v a w h => by cases d <;> exact h) ?_
            simp only [List.map_cons, List.map_nil, List.getD_cons_zero, List.getD_cons_succ]
            refine rf_loadR (n := 5) rfl rfl rfl Try.underlying45 rfl (by kernel_rfl) (fun w hw => Kn.hd0 hw) rfl rfl ?_
            simp only [Act.put, Act.eval, qn, qv, Nat.reduceAdd]
            refine rf_field (n := 0) (j := 8) rfl rfl rfl Try.underlying70 rfl (by kernel_rfl) rfl ?_
            simp only [Act.put, Act.eval, qn, qv, Nat.reduceAdd]
            refine rf_load rfl rfl rfl Try.underlying3 rfl (fun w hw => (Kn.hd0 (Kn.tlU (Kn.tl hw))).at rfl) ?_
            simp only [Act.put, Act.eval, qn, qv, Nat.reduceAdd]
            refine rf_leq rfl rfl rfl rfl rfl ?_
            simp only [Act.put, Act.eval, qn, qv, Nat.reduceAdd]
            refine rf_storeRM (n := 5) rfl rfl (by kernel_rfl) rfl rfl (UpdR.there _ (UpdR.app _ (UpdR.here _ _ _ (Nat.le_of_ble_eq_true rfl)))) (sc _ (List.Sublist.append_left (sk _ (sc _ sn)) _)) ?_
            simp only [Act.put, Act.eval, qn, qv, Nat.reduceAdd]
            refine rg_assign ?_
            simp only [Act.put, Act.eval, qn, qv, Nat.reduceAdd]
            refine rg_nil ?_
            refine ek_next ?_
            refine wk_ret ?_
            refine ek_ret (fun w hw => ⟨rfl, _, run_results2 rfl rfl (Kn.hd0 (Kn.tlU (Kn.tl hw))) Try.underlying45 rfl (by kernel_rfl), ?_⟩)
            (try simp only [Act.put, Act.eval, qn, qv, Nat.reduceAdd])
            exact ⟨by unfold wnum; rw [← hyz.out]; unfold numOk; simp [*, Nm.zero], hw.below⟩

end Go.Proofs.Ytccbinnlnkpplaa
namespace Go.Proofs.Ytccbinnlnkpplaa
set_option linter.all false
open Go.RowKit

theorem wnum_numV {z : Nm} : numV z.mk' = if (wnum z).2 = true then .tuple #[nmV (wnum z).1, .int .i64 0] else .tuple #[nmV Nm.zero, .int .i64 4] := by
  have hs : z.nf.small = (decide (z.nf.k ≤ 40) && numOk z.nf) := by
    rw [Bool.eq_iff_iff, small_iff]
    simp only [numOk, smB, Bool.and_eq_true, decide_eq_true_eq]
    constructor
    · rintro ⟨h, h1, h2, h3, h4, h5, h6, h7, h8⟩
      exact ⟨h, ⟨h1, h2⟩, ⟨h3, h4⟩, ⟨h5, h6⟩, h7, h8⟩
    · rintro ⟨h, ⟨h1, h2⟩, ⟨h3, h4⟩, ⟨h5, h6⟩, h7, h8⟩
      exact ⟨h, h1, h2, h3, h4, h5, h6, h7, h8⟩
  unfold Nm.mk' wnum
  rw [hs]
  cases numOk z.nf with
  | false => simp [numV]
  | true =>
    by_cases h : z.nf.k ≤ 40
    · simp [h, numV]
    · simp [h, numV]
theorem fit382 {z : Nm} (h : z.Fit 1000000000) : z.Fit 9850501549098619803069760025035903451269934817616361666987073351061430442874302652853566563721228910201656997576704 := Nm.fit_mono h (by decide)
theorem to_fit {z : Nm} {m : Int} (h : z.Fit 1000000000) (h0 : z.k ≤ m) (h1 : m - z.k ≤ 40) : (z.to m).Fit 9850501549098619803069760025035903451269934817616361666987073351061430442874302652853566563721228910201656997576704 := by
  unfold Nm.to
  exact Nm.fit_mono (Nm.up40_fit (n := (m - z.k).toNat) h (by omega)) (by decide)
theorem addR_fitW {x y : Nm} (hx : x.Ok) (hy : y.Ok) : (x.addR y).Fit 9850501549098619803069760025035903451269934817616361666987073351061430442874302652853566563721228910201656997576704 := Nm.fit_mono (addR_fit hx hy) (by decide)
theorem mulR_fitW {x y : Nm} (hx : x.Ok) (hy : y.Ok) : (x.mulR y).Fit 9850501549098619803069760025035903451269934817616361666987073351061430442874302652853566563721228910201656997576704 := Nm.fit_mono (mulR_fit hx.fit hy.fit) (by decide)
end Go.Proofs.Ytccbinnlnkpplaa
namespace Go.Proofs.Ytccbinnlnkpplaa
set_option linter.all false
open Go.RowKit

set_option maxRecDepth 100000 in
set_option maxHeartbeats 1000000 in
theorem rAt_any (N i k : Nat) (xs : List Nm) (a : Option Addr) (c : Nat) (hl : xs.length = N * N) (hN : N ≤ 6) (hi : i < N) (hk : k < N) (w : World) (hA : AS w a (nms xs)) : Calls Try.prog 115 #[.agg #[.int .i64 N, .slice a xs.length c], .int .i64 i, .int .i64 k] w fun e w' => e = .returned (nmV (nm xs (i * N + k))) ∧ Below w.heap.size w w' := by
  have hm := ix_small hi hN
  have hc0 : ((i * N : Nat) : Int) = (i : Int) * N := Int.natCast_mul i N
  obtain ⟨b, off, rfl, hlt, hcell⟩ := AS.openN hA (by omega)
  go_enter Try.func115, Try.ntmps115
  refine wk_start ?_
  refine wk_seq ?_
  refine wk_region [1, 1] rfl (by kernel_rfl) ?_
  simp only [List.zip_cons_cons, List.zip_nil_right]
  refine rg_new (cs := ?_) (ty := ?_) (by rfl) (fun w => ?_) (fun _ h => by cases h) (fun g1 => ?_); rotate_left 2
  focus (go_simp; rfl)
  simp only [Act.put, Act.eval, qn, qv, Nat.reduceAdd]
  refine rg_new (cs := ?_) (ty := ?_) (by rfl) (fun w => ?_) (fun _ h => by cases h) (fun g2 => ?_); rotate_left 2
  focus (go_simp; rfl)
  simp only [Act.put, Act.eval, qn, qv, Nat.reduceAdd]
  refine rg_nil ?_
  refine ek_next ?_
  refine wk_seq ?_
  refine wk_region [0, 0, 0, 0, 0, 0, 0, 0, 0, 0, 1] rfl (by kernel_rfl) ?_
  simp only [List.zip_cons_cons, List.zip_nil_right]
  refine rf_field (n := 0) (j := 1) rfl rfl rfl Try.underlying38 rfl (by kernel_rfl) rfl ?_
  simp only [Act.put, Act.eval, qn, qv, Nat.reduceAdd]
  refine rf_load rfl rfl rfl Try.underlying36 rfl (fun w hw => (Kn.hd0 (Kn.tl hw)).at rfl) ?_
  simp only [Act.put, Act.eval, qn, qv, Nat.reduceAdd]
  refine rg_move ?_
  simp only [Act.put, Act.eval, qn, qv, Nat.reduceAdd]
  refine rf_field (n := 0) (j := 0) rfl rfl rfl Try.underlying38 rfl (by kernel_rfl) rfl ?_
  simp only [Act.put, Act.eval, qn, qv, Nat.reduceAdd]
  refine rf_load rfl rfl rfl Try.underlying3 rfl (fun w hw => (Kn.hd0 (Kn.tl hw)).at rfl) ?_
  simp only [Act.put, Act.eval, qn, qv, Nat.reduceAdd]
  refine rf_mul rfl rfl rfl rfl (wrap_ok (by omega) (by omega)) ?_
  simp only [Act.put, Act.eval, qn, qv, Nat.reduceAdd]
  refine rg_move ?_
  simp only [Act.put, Act.eval, qn, qv, Nat.reduceAdd]
  refine rf_add rfl rfl rfl rfl (wrap_ok (by omega) (by omega)) ?_
  simp only [Act.put, Act.eval, qn, qv, Nat.reduceAdd]
  refine rf_indexS (n := i * N + k) (sz := 5) (j := off + (i * N + k) * 5) rfl rfl rfl rfl Try.underlying36 (by kernel_rfl) (by rw [Int.natCast_add, Int.natCast_mul]) (by omega) rfl ?_
  simp only [Act.put, Act.eval, qn, qv, Nat.reduceAdd]
  refine rf_loadC (n := 5) (vs := nmC (nm xs (i * N + k))) rfl rfl rfl Try.underlying45 rfl (by kernel_rfl) rfl (fun w hw => atN_range ((hcell _ (by omega)).kn hw hlt (by simp))) ?_
  simp only [Act.put, Act.eval, qn, qv, Nat.reduceAdd]
  refine rf_storeR (n := 5) rfl rfl (by kernel_rfl) rfl rfl (UpdR.here _ _ _ (Nat.le_of_ble_eq_true rfl)) (fun _ h => by cases h) ?_
  simp only [Act.put, Act.eval, qn, qv, Nat.reduceAdd]
  refine rg_nil ?_
  refine ek_next ?_
  refine wk_ret ?_
  refine ek_ret (fun w hw => ⟨rfl, _, run_results1 rfl rfl (Kn.hd0 hw) Try.underlying45 rfl (by kernel_rfl), ?_⟩)
  (try simp only [Act.put, Act.eval, qn, qv, Nat.reduceAdd])
  first | exact ⟨rfl, hw.below⟩ | exact ⟨trivial, hw.below⟩ | exact hw.below

set_option maxRecDepth 100000 in
set_option maxHeartbeats 1000000 in
theorem rOne_any  (w : World) : Calls Try.prog 54 #[] w fun e w' => e = .returned (nmV Nm.one) ∧ Below w.heap.size w w' := by
  go_enter Try.func54, Try.ntmps54
  refine wk_start ?_
  refine wk_seq ?_
  refine wk_region [1] rfl (by kernel_rfl) ?_
  simp only [List.zip_cons_cons, List.zip_nil_right]
  refine rg_new (cs := ?_) (ty := ?_) (by rfl) (fun w => ?_) (fun _ h => by cases h) (fun g1 => ?_); rotate_left 2
  focus (go_simp; rfl)
  simp only [Act.put, Act.eval, qn, qv, Nat.reduceAdd]
  refine rg_nil ?_
  refine ek_next ?_
  refine wk_seq ?_
  refine wk_region [0, 0, 1] rfl (by kernel_rfl) ?_
  simp only [List.zip_cons_cons, List.zip_nil_right]
  refine rf_build (cs := fun a => #[a.eval (.const (.int .i64 1)), .int .i64 0, .int .i64 0, .int .i64 0]) rfl rfl (by kernel_rfl) ?_
  simp only [Act.put, Act.eval, qn, qv, Nat.reduceAdd]
  refine rf_build (cs := fun a => #[cellAt (a.eval (.tmp 1)) 0, cellAt (a.eval (.tmp 1)) 1, cellAt (a.eval (.tmp 1)) 2, cellAt (a.eval (.tmp 1)) 3, .int .i64 0]) rfl rfl (by kernel_rfl) ?_
  simp only [Act.put, Act.eval, qn, qv, Nat.reduceAdd]
  refine rf_storeR (n := 5) rfl rfl (by kernel_rfl) rfl rfl (UpdR.here _ _ _ (Nat.le_of_ble_eq_true rfl)) (fun _ h => by cases h) ?_
  simp only [Act.put, Act.eval, qn, qv, Nat.reduceAdd]
  refine rg_nil ?_
  refine ek_next ?_
  refine wk_ret ?_
  refine ek_ret (fun w hw => ⟨rfl, _, run_results1 rfl rfl (Kn.hd0 hw) Try.underlying45 rfl (by kernel_rfl), ?_⟩)
  (try simp only [Act.put, Act.eval, qn, qv, Nat.reduceAdd])
  first | exact ⟨rfl, hw.below⟩ | exact ⟨trivial, hw.below⟩ | exact hw.below

end Go.Proofs.Ytccbinnlnkpplaa
namespace Go.Proofs.Ytccbinnlnkpplaa
set_option linter.all false
open Go.RowKit

def colS (xs : List Nm) (N k l : Nat) : Nat → Nm
  | 0 => Nm.zero
  | n + 1 => (colS xs N k l n).addR ((nm xs (n * N + k)).conj.mulR (nm xs (n * N + l)))
def wantN (k l : Nat) : Nm := if k = l then Nm.one else Nm.zero
def Fb (n : Nat) : Int := 2 ^ (62 + 42 * n)
theorem upW_fit {M : Int} {n : Nat} {z : Nm} (h : z.Fit M) (hM : 0 ≤ M) (hn : n ≤ 81) : (Nm.up n z).Fit (2 ^ 41 * M) := by
  have key : ∀ m : Nat, m ≤ 41 → (2 : Int) ^ m * M ≤ 2 ^ 41 * M := fun m hm => by
    refine Int.mul_le_mul_of_nonneg_right ?_ hM
    have h1 := Nat.pow_le_pow_right (n := 2) (by omega) hm
    have e : ((2 ^ m : Nat) : Int) = (2 : Int) ^ m := by simp
    have e2 : ((2 ^ 41 : Nat) : Int) = (2 : Int) ^ 41 := by simp
    omega
  rcases (⟨n / 2, by omega⟩ : ∃ m, n = 2 * m ∧ m ≤ 40 ∨ n = 2 * m + 1 ∧ m ≤ 40) with ⟨m, ⟨rfl, hm⟩ | ⟨rfl, hm⟩⟩
  · exact Nm.fit_mono (Nm.up_fit m h).1 (key m (by omega))
  · exact Nm.fit_mono (Nm.up_fit m h).2 (key (m + 1) (by omega))
theorem Fb_pos (n : Nat) : 4611686018427387904 ≤ Fb n := by
  unfold Fb
  have h1 := Nat.pow_le_pow_right (n := 2) (by omega) (show 62 ≤ 62 + 42 * n by omega)
  have e : ((2 ^ (62 + 42 * n) : Nat) : Int) = (2 : Int) ^ (62 + 42 * n) := by simp
  have e2 : (2 : Nat) ^ 62 = 4611686018427387904 := by decide
  omega
theorem Fb_succ (n : Nat) : 2 ^ 41 * Fb n + 2 ^ 41 * Fb n = Fb (n + 1) := by
  unfold Fb
  rw [show 62 + 42 * (n + 1) = (62 + 42 * n) + 42 by omega, Int.pow_add (2 : Int) (62 + 42 * n) 42]
  generalize (2 : Int) ^ (62 + 42 * n) = M
  have e1 : (2 : Int) ^ 41 = 2199023255552 := by decide
  have e2 : (2 : Int) ^ 42 = 4398046511104 := by decide
  rw [e1, e2]
  omega
theorem Fb_le {n : Nat} (h : n ≤ 6) : 2 ^ 41 * Fb n ≤ 9850501549098619803069760025035903451269934817616361666987073351061430442874302652853566563721228910201656997576704 := by
  have h1 := Nat.pow_le_pow_right (n := 2) (by omega) (show 41 + (62 + 42 * n) ≤ 200 + 155 by omega)
  rw [Nat.pow_add 2 200 155] at h1
  have e : ((2 ^ (41 + (62 + 42 * n)) : Nat) : Int) = (2 : Int) ^ 41 * (2 : Int) ^ (62 + 42 * n) := by
    rw [Nat.pow_add, Int.natCast_mul]
    simp only [Int.natCast_pow]
    rfl
  have e2 : (2 : Nat) ^ 200 * 2 ^ 155 = 73391955711682288371546268649666782105490079653384995959602842860381532034831513858240593699524021969747968 := by decide
  unfold Fb
  omega
theorem prod_W {x y : Nm} (hx : x.Ok) (hy : y.Ok) : (x.conj.mulR y).Fit 4611686018427387904 ∧ 0 ≤ (x.conj.mulR y).k ∧ (x.conj.mulR y).k ≤ 80 :=
  ⟨Nm.fit_mono (mulR_fit (conj_ok hx).fit hy.fit) (by decide), by have := hx.k0; have := hy.k0; simp only [Nm.mulR, Nm.conj]; omega, by have := hx.k1; have := hy.k1; simp only [Nm.mulR, Nm.conj]; omega⟩
theorem addR_W {x y : Nm} {n : Nat} (hx : x.Fit (Fb n)) (hx0 : 0 ≤ x.k) (hx1 : x.k ≤ 80) (hy : y.Fit 4611686018427387904) (hy0 : 0 ≤ y.k) (hy1 : y.k ≤ 80) :
    (x.to (max x.k y.k)).Fit (2 ^ 41 * Fb n) ∧ (y.to (max x.k y.k)).Fit (2 ^ 41 * Fb n) ∧ (x.addR y).Fit (Fb (n + 1)) ∧ 0 ≤ (x.addR y).k ∧ (x.addR y).k ≤ 80 := by
  have hF := Fb_pos n
  have h1 : (x.to (max x.k y.k)).Fit (2 ^ 41 * Fb n) := upW_fit hx (by omega) (by omega)
  have h2 : (y.to (max x.k y.k)).Fit (2 ^ 41 * Fb n) := upW_fit (Nm.fit_mono hy hF) (by omega) (by omega)
  refine ⟨h1, h2, ?_, by simp only [Nm.addR]; omega, by simp only [Nm.addR]; omega⟩
  rw [← Fb_succ]
  obtain ⟨a1, a2, a3, a4, a5, a6, a7, a8⟩ := h1
  obtain ⟨b1, b2, b3, b4, b5, b6, b7, b8⟩ := h2
  generalize 2 ^ 41 * Fb n = M at *
  unfold Nm.addR
  exact ⟨by dsimp only; omega, by dsimp only; omega, by dsimp only; omega, by dsimp only; omega, by dsimp only; omega, by dsimp only; omega, by dsimp only; omega, by dsimp only; omega⟩
theorem colS_W {xs : List Nm} {N k l : Nat} (hok : allOk xs = true) (hlen : xs.length = N * N) (hN : N ≤ 6) (hk : k < N) (hl : l < N) : ∀ n, n ≤ N → (colS xs N k l n).Fit (Fb n) ∧ 0 ≤ (colS xs N k l n).k ∧ (colS xs N k l n).k ≤ 80
  | 0, _ => by
    have := Fb_pos 0
    exact ⟨⟨by show -_ ≤ (0 : Int); omega, by show (0 : Int) ≤ _; omega, by show -_ ≤ (0 : Int); omega, by show (0 : Int) ≤ _; omega, by show -_ ≤ (0 : Int); omega, by show (0 : Int) ≤ _; omega, by show -_ ≤ (0 : Int); omega, by show (0 : Int) ≤ _; omega⟩, by show (0 : Int) ≤ 0; decide, by show (0 : Int) ≤ 80; decide⟩
  | n + 1, hn => by
    obtain ⟨h1, h2, h3⟩ := colS_W hok hlen hN hk hl n (by omega)
    have hx := ix_small (i := n) (N := N) (by omega) hN
    obtain ⟨p1, p2, p3⟩ := prod_W (ok_at hok (show n * N + k < xs.length by omega)) (ok_at hok (show n * N + l < xs.length by omega))
    obtain ⟨_, _, h4, h5, h6⟩ := addR_W h1 h2 h3 p1 p2 p3
    exact ⟨h4, h5, h6⟩
theorem SA4.conj {w : World} {z : Nm} {s0 s1 s2 s3 : Value} (h : SA4 w z s0 s1 s2 s3) : SA4 w z.conj s0 s3 s2 s1 :=
  ⟨h.a, by simp only [Nm.conj, Int.natAbs_neg]; exact h.d, by simp only [Nm.conj, Int.natAbs_neg]; exact h.c, by simp only [Nm.conj, Int.natAbs_neg]; exact h.b⟩
theorem wd_zero9 : (#[.bool false, .slice none 0 0, .bool false, .slice none 0 0, .bool false, .slice none 0 0, .bool false, .slice none 0 0, .int .i64 0] : Array Value) = #[.bool (decide (Nm.zero.a < 0)), .slice none (digs Nm.zero.a.natAbs).length 0, .bool (decide (Nm.zero.b < 0)), .slice none (digs Nm.zero.b.natAbs).length 0, .bool (decide (Nm.zero.c < 0)), .slice none (digs Nm.zero.c.natAbs).length 0, .bool (decide (Nm.zero.d < 0)), .slice none (digs Nm.zero.d.natAbs).length 0, .int .i64 Nm.zero.k] := by
  simp only [Nm.zero, Int.natAbs_zero, digs_zero]
  rfl
theorem sk4_zero {w : World} : SK4 w [] Nm.zero (.slice none (digs Nm.zero.a.natAbs).length 0) (.slice none (digs Nm.zero.b.natAbs).length 0) (.slice none (digs Nm.zero.c.natAbs).length 0) (.slice none (digs Nm.zero.d.natAbs).length 0) := by
  have h : SK w [] (.slice none (digs (0 : Int).natAbs).length 0) (0 : Int).natAbs := by
    simp only [Int.natAbs_zero, digs_zero]
    exact SK.own SU.nil
  exact ⟨h, h, h, h⟩
set_option maxRecDepth 100000 in
set_option maxHeartbeats 1000000 in
theorem runitary_walk (N : Nat) (xs : List Nm) (a : Option Addr) (c : Nat) (hN1 : 1 ≤ N) (hN : N ≤ 6) (hlen : Hid (xs.length = N * N)) (hl36 : xs.length ≤ 36) (hok : allOk xs = true) (w : World) (hA : AS w a (nms xs)) : Calls Try.prog 66 #[.agg #[.int .i64 N, .slice a xs.length c]] w fun e w' => ∃ b, e = .returned (.bool b) ∧ (b = true ↔ ∀ k l, k < N → l < N → wnum (colS xs N k l N) = (wantN k l, true)) ∧ Below w.heap.size w w' := by
  go_enter Try.func66, Try.ntmps66
  refine wk_start ?_
  refine wk_seq ?_
  refine wk_region [1, 0] rfl (by kernel_rfl) ?_
  simp only [List.zip_cons_cons, List.zip_nil_right]
  refine rg_new (cs := ?_) (ty := ?_) (by rfl) (fun w => ?_) (fun _ h => by cases h) (fun g1 => ?_); rotate_left 2
  focus (go_simp; rfl)
  simp only [Act.put, Act.eval, qn, qv, Nat.reduceAdd]
  refine rg_assign ?_
  simp only [Act.put, Act.eval, qn, qv, Nat.reduceAdd]
  refine rg_nil ?_
  refine ek_next ?_
  refine wk_seq ?_
  refine wk_seq ?_
  refine wk_region [0] rfl (by kernel_rfl) ?_
  simp only [List.zip_cons_cons, List.zip_nil_right]
  refine rg_assign ?_
  simp only [Act.put, Act.eval, qn, qv, Nat.reduceAdd]
  refine rg_nil ?_
  refine ek_next ?_
  refine wk_block ?_
  refine wk_loopF [2, 3, 4, 5, 6, 7, 8, 9, 10, 11, 12, 13, 14, 15, 16, 17, 18, 19, 20, 21, 22, 23, 24, 25, 26, 27, 28, 29, 30, 31, 32, 33, 34, 35, 36, 37, 38, 39, 40, 41, 42, 43, 44, 45, 46, 47, 48, 49, 50, 51, 52, 53, 54, 55, 56, 57, 58] (fun mz f s => ∃ (k : Nat), f 3 = .int .i64 k ∧ s = ((g1, .cells #[.int .i64 N, .slice a xs.length c] 38) :: []) ∧ mz = N - k ∧ k ≤ N ∧ (∀ k2, k2 < k → ∀ l2, l2 < N → wnum (colS xs N k2 l2 N) = (wantN k2 l2, true))) ((fun (k : Nat) => N - k) (0)) ?_ (by kernel_rfl) ?_
  · exact ⟨0, rfl, rfl, rfl, by omega, fun _ h => by omega⟩
  rintro mz f1 s ⟨k, hs1_3, rfl, hn, hd1, hd2⟩
  simp only [Act.putF, List.foldl_cons, List.foldl_nil, hs1_3, Act.put, Act.eval, q1, q2, q3, q4, q5, q6, q7, q8, q9, q10, q11, q12, q13, q14, q15, q16, q17, q18, Nat.reduceAdd, Bool.not_true, Bool.not_false]
  clear hs1_3
  refine wk_seq ?_
  refine wk_seq ?_
  refine wk_region [0, 0, 0, 0] rfl (by kernel_rfl) ?_
  simp only [List.zip_cons_cons, List.zip_nil_right]
  refine rg_move ?_
  simp only [Act.put, Act.eval, qn, qv, Nat.reduceAdd]
  refine rf_field (n := 0) (j := 0) rfl rfl rfl Try.underlying38 rfl (by kernel_rfl) rfl ?_
  simp only [Act.put, Act.eval, qn, qv, Nat.reduceAdd]
  refine rf_load rfl rfl rfl Try.underlying3 rfl (fun w hw => (Kn.hd0 hw).at rfl) ?_
  simp only [Act.put, Act.eval, qn, qv, Nat.reduceAdd]
  refine rfb_lss rfl rfl rfl rfl ?_
  intro x h1
  cases x
  · (try simp only [decide_eq_true_eq, decide_eq_false_iff_not, Int.not_lt, Int.not_le, beq_iff_eq, beq_eq_false_iff_ne, bne_iff_ne, bne_eq_false_iff_eq, ne_eq, Bool.not_eq_true', Bool.not_eq_false'] at h1)
    simp only [Act.put, Act.eval, qn, qv, Nat.reduceAdd]
    refine rg_nil ?_
    refine ek_next ?_
    refine wk_cond_f rfl ?_
    refine wk_exit ?_
    refine ek_then_exit ?_
    refine ek_then_exit ?_
    refine ek_block_exit ?_
    refine ek_next ?_
    refine wk_seq ?_
    refine wk_region [0] rfl (by kernel_rfl) ?_
    simp only [List.zip_cons_cons, List.zip_nil_right]
    refine rg_assign ?_
    simp only [Act.put, Act.eval, qn, qv, Nat.reduceAdd]
    refine rg_nil ?_
    refine ek_next ?_
    refine wk_ret ?_
    refine ek_ret (fun w hw => ⟨rfl, _, res_t _ rfl, ?_⟩)
    (try simp only [Act.put, Act.eval, qn, qv, Nat.reduceAdd])
    exact ⟨true, rfl, ⟨fun _ k2 l2 hk2 hl2 => hd2 k2 (by omega) l2 hl2, fun _ => rfl⟩, hw.below⟩
  · (try simp only [decide_eq_true_eq, decide_eq_false_iff_not, Int.not_lt, Int.not_le, beq_iff_eq, beq_eq_false_iff_ne, bne_iff_ne, bne_eq_false_iff_eq, ne_eq, Bool.not_eq_true', Bool.not_eq_false'] at h1)
    simp only [Act.put, Act.eval, qn, qv, Nat.reduceAdd]
    refine rg_nil ?_
    refine ek_next ?_
    refine wk_cond_t rfl ?_
    refine wk_skip ?_
    refine ek_next ?_
    refine wk_seq ?_
    refine wk_block ?_
    refine wk_seq ?_
    refine wk_region [0] rfl (by kernel_rfl) ?_
    simp only [List.zip_cons_cons, List.zip_nil_right]
    refine rg_assign ?_
    simp only [Act.put, Act.eval, qn, qv, Nat.reduceAdd]
    refine rg_nil ?_
    refine ek_next ?_
    refine wk_block ?_
    refine wk_loopF [2, 4, 5, 6, 7, 8, 9, 16, 17, 18, 19, 20, 21, 22, 23, 24, 25, 26, 27, 28, 29, 30, 31, 32, 33, 34, 35, 36, 37, 38, 39, 40, 41, 42, 43, 44, 45, 46, 47, 48, 49, 50, 51, 52, 53, 54, 55, 56, 57, 58] (fun mz f s => ∃ (l : Nat), f 4 = .int .i64 l ∧ s = ((g1, .cells #[.int .i64 N, .slice a xs.length c] 38) :: []) ∧ mz = N - l ∧ l ≤ N ∧ (∀ l2, l2 < l → wnum (colS xs N k l2 N) = (wantN k l2, true))) ((fun (l : Nat) => N - l) (0)) ?_ (by kernel_rfl) ?_
    · exact ⟨0, rfl, rfl, rfl, by omega, fun _ h => by omega⟩
    rintro mz f2 s ⟨l, hs2_4, rfl, hn, he1, he2⟩
    simp only [Act.putF, List.foldl_cons, List.foldl_nil, hs2_4, Act.put, Act.eval, q1, q2, q3, q4, q5, q6, q7, q8, q9, q10, q11, q12, q13, q14, q15, q16, q17, q18, Nat.reduceAdd, Bool.not_true, Bool.not_false]
    clear hs2_4
    refine wk_seq ?_
    refine wk_seq ?_
    refine wk_region [0, 0, 0, 0] rfl (by kernel_rfl) ?_
    simp only [List.zip_cons_cons, List.zip_nil_right]
    refine rg_move ?_
    simp only [Act.put, Act.eval, qn, qv, Nat.reduceAdd]
    refine rf_field (n := 0) (j := 0) rfl rfl rfl Try.underlying38 rfl (by kernel_rfl) rfl ?_
    simp only [Act.put, Act.eval, qn, qv, Nat.reduceAdd]
    refine rf_load rfl rfl rfl Try.underlying3 rfl (fun w hw => (Kn.hd0 hw).at rfl) ?_
    simp only [Act.put, Act.eval, qn, qv, Nat.reduceAdd]
    refine rfb_lss rfl rfl rfl rfl ?_
    intro x h2
    cases x
    · (try simp only [decide_eq_true_eq, decide_eq_false_iff_not, Int.not_lt, Int.not_le, beq_iff_eq, beq_eq_false_iff_ne, bne_iff_ne, bne_eq_false_iff_eq, ne_eq, Bool.not_eq_true', Bool.not_eq_false'] at h2)
      simp only [Act.put, Act.eval, qn, qv, Nat.reduceAdd]
      refine rg_nil ?_
      refine ek_next ?_
      refine wk_cond_f rfl ?_
      refine wk_exit ?_
      refine ek_then_exit ?_
      refine ek_then_exit ?_
      refine ek_block_exit ?_
      refine ek_block ?_
      refine ek_next ?_
      refine wk_region [0, 0, 0] rfl (by kernel_rfl) ?_
      simp only [List.zip_cons_cons, List.zip_nil_right]
      refine rg_move ?_
      simp only [Act.put, Act.eval, qn, qv, Nat.reduceAdd]
      refine rf_add rfl rfl rfl rfl (wrap_ok (by omega) (by omega)) ?_
      simp only [Act.put, Act.eval, qn, qv, Nat.reduceAdd]
      refine rg_assign ?_
      simp only [Act.put, Act.eval, qn, qv, Nat.reduceAdd]
      refine rg_nil ?_
      obtain rfl : N = l := by omega
      refine ek_roundF (N - (k + 1)) (by omega) (by kernel_rfl) ?_
      exact ⟨k + 1, rfl, by rfl, by rfl, (by omega), (fun k2 hk2 l2 hl2 => by rcases (by omega : k2 < k ∨ k2 = k) with h | rfl; exact hd2 k2 h l2 hl2; exact he2 l2 hl2)⟩
    · (try simp only [decide_eq_true_eq, decide_eq_false_iff_not, Int.not_lt, Int.not_le, beq_iff_eq, beq_eq_false_iff_ne, bne_iff_ne, bne_eq_false_iff_eq, ne_eq, Bool.not_eq_true', Bool.not_eq_false'] at h2)
      simp only [Act.put, Act.eval, qn, qv, Nat.reduceAdd]
      refine rg_nil ?_
      refine ek_next ?_
      refine wk_cond_t rfl ?_
      refine wk_skip ?_
      refine ek_next ?_
      refine wk_seq ?_
      refine wk_block ?_
      refine wk_seq ?_
      refine wk_region [1] rfl (by kernel_rfl) ?_
      simp only [List.zip_cons_cons, List.zip_nil_right]
      refine rg_new (cs := ?_) (ty := ?_) (by rfl) (fun w => ?_) (fun _ h => by cases h) (fun g2 => ?_); rotate_left 2
      focus (go_simp; rfl)
      simp only [Act.put, Act.eval, qn, qv, Nat.reduceAdd]
      refine rg_nil ?_
      refine ek_next ?_
      refine wk_seq ?_
      refine wk_seq ?_
      rw [wd_zero9]
      refine wk_region [0] rfl (by kernel_rfl) ?_
      simp only [List.zip_cons_cons, List.zip_nil_right]
      refine rg_assign ?_
      simp only [Act.put, Act.eval, qn, qv, Nat.reduceAdd]
      refine rg_nil ?_
      refine ek_next ?_
      refine wk_block ?_
      refine wk_loopF [6, 22, 23, 24, 25, 26, 27, 28, 29, 30, 31, 32, 33, 34, 35, 36, 37, 38, 39, 40, 41] (fun mz f s => ∃ (n : Nat) (y : Nm) (ta0 ta1 ta2 ta3 : Option Addr) (tc0 tc1 tc2 tc3 : Nat) (u : List Blk), f 6 = .int .i64 n ∧ s = (u ++ ((g2, .cells #[.bool (decide (y.a < 0)), .slice ta0 (digs y.a.natAbs).length tc0, .bool (decide (y.b < 0)), .slice ta1 (digs y.b.natAbs).length tc1, .bool (decide (y.c < 0)), .slice ta2 (digs y.c.natAbs).length tc2, .bool (decide (y.d < 0)), .slice ta3 (digs y.d.natAbs).length tc3, .int .i64 y.k] 70) :: ((g1, .cells #[.int .i64 N, .slice a xs.length c] 38) :: []))) ∧ mz = N - n ∧ n ≤ N ∧ Hid (colS xs N k l n = y) ∧ SK4 w u y (.slice ta0 (digs y.a.natAbs).length tc0) (.slice ta1 (digs y.b.natAbs).length tc1) (.slice ta2 (digs y.c.natAbs).length tc2) (.slice ta3 (digs y.d.natAbs).length tc3)) ((fun (n : Nat) (y : Nm) (ta0 ta1 ta2 ta3 : Option Addr) (tc0 tc1 tc2 tc3 : Nat) (u : List Blk) => N - n) (0) (Nm.zero) (none) (none) (none) (none) (0) (0) (0) (0) ([])) ?_ (by kernel_rfl) ?_
      · exact ⟨0, Nm.zero, none, none, none, none, 0, 0, 0, 0, [], rfl, rfl, rfl, by omega, Lib.hid rfl, sk4_zero⟩
      rintro mz f3 s ⟨n, y, ta0, ta1, ta2, ta3, tc0, tc1, tc2, tc3, u, hs3_6, rfl, hn, hf1, hf2, hf3⟩
      simp only [Act.putF, List.foldl_cons, List.foldl_nil, hs3_6, Act.put, Act.eval, q1, q2, q3, q4, q5, q6, q7, q8, q9, q10, q11, q12, q13, q14, q15, q16, q17, q18, Nat.reduceAdd, Bool.not_true, Bool.not_false]
      clear hs3_6
      have hy := hf2
      have hsk := hf3
      clear hf2 hf3
      refine wk_seq ?_
      refine wk_seq ?_
      refine wk_region [0, 0, 0, 0] rfl (by kernel_rfl) ?_
      simp only [List.zip_cons_cons, List.zip_nil_right]
      refine rg_move ?_
      simp only [Act.put, Act.eval, qn, qv, Nat.reduceAdd]
      refine rf_field (n := 0) (j := 0) rfl rfl rfl Try.underlying38 rfl (by kernel_rfl) rfl ?_
      simp only [Act.put, Act.eval, qn, qv, Nat.reduceAdd]
      refine rf_load rfl rfl rfl Try.underlying3 rfl (fun w hw => (Kn.hd0 (Kn.tl (Kn.tlU hw))).at rfl) ?_
      simp only [Act.put, Act.eval, qn, qv, Nat.reduceAdd]
      refine rfb_lss rfl rfl rfl rfl ?_
      intro x h3
      cases x
      · (try simp only [decide_eq_true_eq, decide_eq_false_iff_not, Int.not_lt, Int.not_le, beq_iff_eq, beq_eq_false_iff_ne, bne_iff_ne, bne_eq_false_iff_eq, ne_eq, Bool.not_eq_true', Bool.not_eq_false'] at h3)
        simp only [Act.put, Act.eval, qn, qv, Nat.reduceAdd]
        refine rg_nil ?_
        refine ek_next ?_
        refine wk_cond_f rfl ?_
        refine wk_exit ?_
        refine ek_then_exit ?_
        refine ek_then_exit ?_
        refine ek_block_exit ?_
        refine ek_next ?_
        refine wk_seq ?_
        obtain rfl : N = n := by omega
        have hyw := colS_W hok hlen.out hN (k := k) (l := l) (by omega) (by omega) N (by omega)
        rw [hy.out] at hyw
        have hFl := Fb_le (n := N) (by omega)
        have cn := fun w hs => wnum_any y (.slice ta0 (digs y.a.natAbs).length tc0) (.slice ta1 (digs y.b.natAbs).length tc1) (.slice ta2 (digs y.c.natAbs).length tc2) (.slice ta3 (digs y.d.natAbs).length tc3) (Nm.fit_mono hyw.1 (by have := Fb_pos N; omega)) hyw.2.1 (by omega) w hs
        obtain ⟨⟨v, bb⟩, hv⟩ : ∃ r, wnum y = r := ⟨_, rfl⟩
        rw [hv] at cn
        have hwn : Hid (wnum (colS xs N k l N) = (v, bb)) := Lib.hid (by rw [hy.out, hv])
        replace cn := Lib.hid cn
        clear hv
        refine wk_region [0, 1, 0, 0, 0, 1, 1, 0] rfl (by kernel_rfl) ?_
        simp only [List.zip_cons_cons, List.zip_nil_right]
        refine rf_loadR (n := 9) rfl rfl rfl Try.underlying70 rfl (by kernel_rfl) (fun w hw => Kn.hd0 (Kn.tlU hw)) rfl rfl ?_
        simp only [Act.put, Act.eval, qn, qv, Nat.reduceAdd]
        apply rg_pure (by rfl) (by kernel_rfl)
        case hargs => (simp only [qm, qs, Act.eval]; exact rfl)
        case h => exact fun w hw => cn.out w (hsk.at hw (List.sublist_append_left _ _))
        case hz => exact (fun _ h => by cases h)
        simp only [Act.put, Act.eval, qn, qv, Nat.reduceAdd]
        refine rg_move ?_
        simp only [Act.put, Act.eval, qn, qv, Nat.reduceAdd]
        refine rf_extract rfl rfl rfl rfl ?_
        simp only [Act.put, Act.eval, qn, qv, Nat.reduceAdd]
        refine rf_extract rfl rfl rfl rfl ?_
        simp only [Act.put, Act.eval, qn, qv, Nat.reduceAdd]
        refine rg_new (cs := ?_) (ty := ?_) (by rfl) (fun w => ?_) (fun _ h => by cases h) (fun g3 => ?_); rotate_left 2
        focus (go_simp; rfl)
        simp only [Act.put, Act.eval, qn, qv, Nat.reduceAdd]
        refine rf_storeR (n := 5) rfl rfl (by kernel_rfl) rfl rfl (UpdR.here _ _ _ (Nat.le_of_ble_eq_true rfl)) (fun _ h => by cases h) ?_
        simp only [Act.put, Act.eval, qn, qv, Nat.reduceAdd]
        refine rg_assign ?_
        simp only [Act.put, Act.eval, qn, qv, Nat.reduceAdd]
        refine rg_nil ?_
        refine ek_next ?_
        refine wk_seq ?_
        refine wk_region [0, 1, 1] rfl (by kernel_rfl) ?_
        simp only [List.zip_cons_cons, List.zip_nil_right]
        refine rf_build (cs := fun a => #[.int .i64 0, .int .i64 0, .int .i64 0, .int .i64 0, .int .i64 0]) rfl rfl (by kernel_rfl) ?_
        simp only [Act.put, Act.eval, qn, qv, Nat.reduceAdd]
        refine rg_new (cs := ?_) (ty := ?_) (by rfl) (fun w => ?_) (fun _ h => by cases h) (fun g4 => ?_); rotate_left 2
        focus (go_simp; rfl)
        simp only [Act.put, Act.eval, qn, qv, Nat.reduceAdd]
        refine rf_storeR (n := 5) rfl rfl (by kernel_rfl) rfl rfl (UpdR.here _ _ _ (Nat.le_of_ble_eq_true rfl)) (fun _ h => by cases h) ?_
        simp only [Act.put, Act.eval, qn, qv, Nat.reduceAdd]
        refine rg_nil ?_
        refine ek_next ?_
        refine wk_seq ?_
        refine wk_seq ?_
        refine wk_region [0, 0, 0] rfl (by kernel_rfl) ?_
        simp only [List.zip_cons_cons, List.zip_nil_right]
        refine rg_move ?_
        simp only [Act.put, Act.eval, qn, qv, Nat.reduceAdd]
        refine rg_move ?_
        simp only [Act.put, Act.eval, qn, qv, Nat.reduceAdd]
        refine rfb_eql rfl rfl rfl rfl ?_
        intro x h4
        cases x
        · (try simp only [decide_eq_true_eq, decide_eq_false_iff_not, Int.not_lt, Int.not_le, beq_iff_eq, beq_eq_false_iff_ne, bne_iff_ne, bne_eq_false_iff_eq, ne_eq, Bool.not_eq_true', Bool.not_eq_false'] at h4)
          simp only [Act.put, Act.eval, qn, qv, Nat.reduceAdd]
          refine rg_nil ?_
          refine ek_next ?_
          refine wk_cond_f rfl ?_
          refine wk_skip ?_
          refine ek_next ?_
          refine wk_seq ?_
          refine wk_region [0, 0, 0, 0, 0, 0, 0] rfl (by kernel_rfl) ?_
          simp only [List.zip_cons_cons, List.zip_nil_right]
          refine rg_move ?_
          simp only [Act.put, Act.eval, qn, qv, Nat.reduceAdd]
          apply rg_softb
          case hy => (intro w hw; go_simp; (try go_bits); exact Yld.mk _ _)
          intro x h5
          cases x
          · (try simp only [decide_eq_true_eq, decide_eq_false_iff_not, Int.not_lt, Int.not_le, beq_iff_eq, beq_eq_false_iff_ne, bne_iff_ne, bne_eq_false_iff_eq, ne_eq, Bool.not_eq_true', Bool.not_eq_false'] at h5)
            simp only [Act.put, Act.eval, qn, qv, Nat.reduceAdd]
            refine rg_move ?_
            simp only [Act.put, Act.eval, qn, qv, Nat.reduceAdd]
            refine rf_loadR (n := 5) rfl rfl rfl Try.underlying45 rfl (by kernel_rfl) (fun w hw => Kn.hd0 (Kn.tl hw)) rfl rfl ?_
            simp only [Act.put, Act.eval, qn, qv, Nat.reduceAdd]
            refine rf_loadR (n := 5) rfl rfl rfl Try.underlying45 rfl (by kernel_rfl) (fun w hw => Kn.hd0 hw) rfl rfl ?_
            simp only [Act.put, Act.eval, qn, qv, Nat.reduceAdd]
            refine rfb_neN v Nm.zero rfl rfl rfl rfl ?_
            intro x h6
            cases x
            · (try simp only [decide_eq_true_eq, decide_eq_false_iff_not, Int.not_lt, Int.not_le, beq_iff_eq, beq_eq_false_iff_ne, bne_iff_ne, bne_eq_false_iff_eq, ne_eq, Bool.not_eq_true', Bool.not_eq_false'] at h6)
              simp only [Act.put, Act.eval, qn, qv, Nat.reduceAdd]
              have hnv : decide (v = Nm.zero) = true := by simpa using h6
              have hgood : wnum (colS xs N k l N) = (wantN k l, true) := by (rw [hwn.out]; unfold wantN; rw [if_neg (by omega), of_decide_eq_true hnv]; congr 1 <;> simpa using h5)
              refine rf_pick rfl rfl rfl ?_
              simp only [Act.put, Act.eval, qn, qv, Nat.reduceAdd]
              refine rg_nil ?_
              refine ek_next ?_
              refine wk_cond_f rfl ?_
              refine wk_skip ?_
              refine ek_block ?_
              refine ek_next ?_
              refine wk_region [0, 0, 0] rfl (by kernel_rfl) ?_
              simp only [List.zip_cons_cons, List.zip_nil_right]
              refine rg_move ?_
              simp only [Act.put, Act.eval, qn, qv, Nat.reduceAdd]
              refine rf_add rfl rfl rfl rfl (wrap_ok (by omega) (by omega)) ?_
              simp only [Act.put, Act.eval, qn, qv, Nat.reduceAdd]
              refine rg_assign ?_
              simp only [Act.put, Act.eval, qn, qv, Nat.reduceAdd]
              refine rg_nil ?_
              refine ek_sub (sk _ (sk _ ((sk _ (sc _ sn)).trans (List.sublist_append_right _ _)))) ?_
              refine ek_roundF (N - (l + 1)) (by omega) (by kernel_rfl) ?_
              exact ⟨l + 1, rfl, by rfl, by rfl, (by omega), (fun l2 hl2 => by rcases (by omega : l2 < l ∨ l2 = l) with h | rfl; exact he2 l2 h; exact hgood)⟩
            · (try simp only [decide_eq_true_eq, decide_eq_false_iff_not, Int.not_lt, Int.not_le, beq_iff_eq, beq_eq_false_iff_ne, bne_iff_ne, bne_eq_false_iff_eq, ne_eq, Bool.not_eq_true', Bool.not_eq_false'] at h6)
              simp only [Act.put, Act.eval, qn, qv, Nat.reduceAdd]
              have hnv : decide (v = Nm.zero) = false := by simpa using h6
              refine rf_pick rfl rfl rfl ?_
              simp only [Act.put, Act.eval, qn, qv, Nat.reduceAdd]
              refine rg_nil ?_
              refine ek_next ?_
              refine wk_cond_t rfl ?_
              refine wk_seq ?_
              refine wk_region [0] rfl (by kernel_rfl) ?_
              simp only [List.zip_cons_cons, List.zip_nil_right]
              refine rg_assign ?_
              simp only [Act.put, Act.eval, qn, qv, Nat.reduceAdd]
              refine rg_nil ?_
              refine ek_next ?_
              refine wk_ret ?_
              refine ek_block_ret ?_
              refine ek_then_ret ?_
              refine ek_then_ret ?_
              refine ek_block_ret ?_
              refine ek_block_ret ?_
              refine ek_then_ret ?_
              refine ek_then_ret ?_
              refine ek_block_ret ?_
              refine ek_then_ret ?_
              refine ek_ret (fun w hw => ⟨rfl, _, res_t _ rfl, ?_⟩)
              (try simp only [Act.put, Act.eval, qn, qv, Nat.reduceAdd])
              exact ⟨false, rfl, ⟨fun h => (by cases h), fun h => by have hg := h k l (by omega) (by omega); rw [hwn.out] at hg; have h2 := congrArg Prod.fst hg; unfold wantN at h2; rw [if_neg (by omega)] at h2; exact absurd h2 (of_decide_eq_false hnv)⟩, hw.below⟩
          · (try simp only [decide_eq_true_eq, decide_eq_false_iff_not, Int.not_lt, Int.not_le, beq_iff_eq, beq_eq_false_iff_ne, bne_iff_ne, bne_eq_false_iff_eq, ne_eq, Bool.not_eq_true', Bool.not_eq_false'] at h5)
            simp only [Act.put, Act.eval, qn, qv, Nat.reduceAdd]
            refine rg_move ?_
            simp only [Act.put, Act.eval, qn, qv, Nat.reduceAdd]
            refine rg_skip (by rfl) ?_
            simp only [Act.put, Act.eval, qn, qv, Nat.reduceAdd]
            refine rg_skip (by rfl) ?_
            simp only [Act.put, Act.eval, qn, qv, Nat.reduceAdd]
            refine rg_skip (by rfl) ?_
            simp only [Act.put, Act.eval, qn, qv, Nat.reduceAdd]
            refine rf_pick rfl rfl rfl ?_
            simp only [Act.put, Act.eval, qn, qv, Nat.reduceAdd]
            refine rg_nil ?_
            refine ek_next ?_
            refine wk_cond_t rfl ?_
            refine wk_seq ?_
            refine wk_region [0] rfl (by kernel_rfl) ?_
            simp only [List.zip_cons_cons, List.zip_nil_right]
            refine rg_assign ?_
            simp only [Act.put, Act.eval, qn, qv, Nat.reduceAdd]
            refine rg_nil ?_
            refine ek_next ?_
            refine wk_ret ?_
            refine ek_block_ret ?_
            refine ek_then_ret ?_
            refine ek_then_ret ?_
            refine ek_block_ret ?_
            refine ek_block_ret ?_
            refine ek_then_ret ?_
            refine ek_then_ret ?_
            refine ek_block_ret ?_
            refine ek_then_ret ?_
            refine ek_ret (fun w hw => ⟨rfl, _, res_t _ rfl, ?_⟩)
            (try simp only [Act.put, Act.eval, qn, qv, Nat.reduceAdd])
            exact ⟨false, rfl, ⟨fun h => (by cases h), fun h => by have hg := h k l (by omega) (by omega); rw [hwn.out] at hg; have h2 := congrArg Prod.snd hg; simp_all⟩, hw.below⟩
        · (try simp only [decide_eq_true_eq, decide_eq_false_iff_not, Int.not_lt, Int.not_le, beq_iff_eq, beq_eq_false_iff_ne, bne_iff_ne, bne_eq_false_iff_eq, ne_eq, Bool.not_eq_true', Bool.not_eq_false'] at h4)
          simp only [Act.put, Act.eval, qn, qv, Nat.reduceAdd]
          refine rg_nil ?_
          refine ek_next ?_
          refine wk_cond_t rfl ?_
          refine wk_region [1, 1] rfl (by kernel_rfl) ?_
          simp only [List.zip_cons_cons, List.zip_nil_right]
          apply rg_pure (by rfl) (by kernel_rfl)
          case hargs => (simp only [qm, qs, Act.eval]; exact rfl)
          case h => exact fun w hw => rOne_any w
          case hz => exact (fun _ h => by cases h)
          simp only [Act.put, Act.eval, qn, qv, Nat.reduceAdd]
          refine rf_storeR (n := 5) rfl rfl (by kernel_rfl) rfl rfl (UpdR.here _ _ _ (Nat.le_of_ble_eq_true rfl)) (fun _ h => by cases h) ?_
          simp only [Act.put, Act.eval, qn, qv, Nat.reduceAdd]
          refine rg_nil ?_
          refine ek_next ?_
          refine wk_seq ?_
          refine wk_region [0, 0, 0, 0, 0, 0, 0] rfl (by kernel_rfl) ?_
          simp only [List.zip_cons_cons, List.zip_nil_right]
          refine rg_move ?_
          simp only [Act.put, Act.eval, qn, qv, Nat.reduceAdd]
          apply rg_softb
          case hy => (intro w hw; go_simp; (try go_bits); exact Yld.mk _ _)
          intro x h7
          cases x
          · (try simp only [decide_eq_true_eq, decide_eq_false_iff_not, Int.not_lt, Int.not_le, beq_iff_eq, beq_eq_false_iff_ne, bne_iff_ne, bne_eq_false_iff_eq, ne_eq, Bool.not_eq_true', Bool.not_eq_false'] at h7)
            simp only [Act.put, Act.eval, qn, qv, Nat.reduceAdd]
            refine rg_move ?_
            simp only [Act.put, Act.eval, qn, qv, Nat.reduceAdd]
            refine rf_loadR (n := 5) rfl rfl rfl Try.underlying45 rfl (by kernel_rfl) (fun w hw => Kn.hd0 (Kn.tl hw)) rfl rfl ?_
            simp only [Act.put, Act.eval, qn, qv, Nat.reduceAdd]
            refine rf_loadR (n := 5) rfl rfl rfl Try.underlying45 rfl (by kernel_rfl) (fun w hw => Kn.hd0 hw) rfl rfl ?_
            simp only [Act.put, Act.eval, qn, qv, Nat.reduceAdd]
            refine rfb_neN v Nm.one rfl rfl rfl rfl ?_
            intro x h8
            cases x
            · (try simp only [decide_eq_true_eq, decide_eq_false_iff_not, Int.not_lt, Int.not_le, beq_iff_eq, beq_eq_false_iff_ne, bne_iff_ne, bne_eq_false_iff_eq, ne_eq, Bool.not_eq_true', Bool.not_eq_false'] at h8)
              simp only [Act.put, Act.eval, qn, qv, Nat.reduceAdd]
              have hnv : decide (v = Nm.one) = true := by simpa using h8
              have hgood : wnum (colS xs N k l N) = (wantN k l, true) := by (rw [hwn.out]; unfold wantN; rw [if_pos (by omega), of_decide_eq_true hnv]; congr 1 <;> simpa using h7)
              refine rf_pick rfl rfl rfl ?_
              simp only [Act.put, Act.eval, qn, qv, Nat.reduceAdd]
              refine rg_nil ?_
              refine ek_next ?_
              refine wk_cond_f rfl ?_
              refine wk_skip ?_
              refine ek_block ?_
              refine ek_next ?_
              refine wk_region [0, 0, 0] rfl (by kernel_rfl) ?_
              simp only [List.zip_cons_cons, List.zip_nil_right]
              refine rg_move ?_
              simp only [Act.put, Act.eval, qn, qv, Nat.reduceAdd]
              refine rf_add rfl rfl rfl rfl (wrap_ok (by omega) (by omega)) ?_
              simp only [Act.put, Act.eval, qn, qv, Nat.reduceAdd]
              refine rg_assign ?_
              simp only [Act.put, Act.eval, qn, qv, Nat.reduceAdd]
              refine rg_nil ?_
              refine ek_sub (sk _ (sk _ ((sk _ (sc _ sn)).trans (List.sublist_append_right _ _)))) ?_
              refine ek_roundF (N - (l + 1)) (by omega) (by kernel_rfl) ?_
              exact ⟨l + 1, rfl, by rfl, by rfl, (by omega), (fun l2 hl2 => by rcases (by omega : l2 < l ∨ l2 = l) with h | rfl; exact he2 l2 h; exact hgood)⟩
            · (try simp only [decide_eq_true_eq, decide_eq_false_iff_not, Int.not_lt, Int.not_le, beq_iff_eq, beq_eq_false_iff_ne, bne_iff_ne, bne_eq_false_iff_eq, ne_eq, Bool.not_eq_true', Bool.not_eq_false'] at h8)
              simp only [Act.put, Act.eval, qn, qv, Nat.reduceAdd]
              have hnv : decide (v = Nm.one) = false := by simpa using h8
              refine rf_pick rfl rfl rfl ?_
              simp only [Act.put, Act.eval, qn, qv, Nat.reduceAdd]
              refine rg_nil ?_
              refine ek_next ?_
              refine wk_cond_t rfl ?_
              refine wk_seq ?_
              refine wk_region [0] rfl (by kernel_rfl) ?_
              simp only [List.zip_cons_cons, List.zip_nil_right]
              refine rg_assign ?_
              simp only [Act.put, Act.eval, qn, qv, Nat.reduceAdd]
              refine rg_nil ?_
              refine ek_next ?_
              refine wk_ret ?_
              refine ek_block_ret ?_
              refine ek_then_ret ?_
              refine ek_then_ret ?_
              refine ek_block_ret ?_
              refine ek_block_ret ?_
              refine ek_then_ret ?_
              refine ek_then_ret ?_
              refine ek_block_ret ?_
              refine ek_then_ret ?_
              refine ek_ret (fun w hw => ⟨rfl, _, res_t _ rfl, ?_⟩)
              (try simp only [Act.put, Act.eval, qn, qv, Nat.reduceAdd])
              exact ⟨false, rfl, ⟨fun h => (by cases h), fun h => by have hg := h k l (by omega) (by omega); rw [hwn.out] at hg; have h2 := congrArg Prod.fst hg; unfold wantN at h2; rw [if_pos (by omega)] at h2; exact absurd h2 (of_decide_eq_false hnv)⟩, hw.below⟩
          · (try simp only [decide_eq_true_eq, decide_eq_false_iff_not, Int.not_lt, Int.not_le, beq_iff_eq, beq_eq_false_iff_ne, bne_iff_ne, bne_eq_false_iff_eq, ne_eq, Bool.not_eq_true', Bool.not_eq_false'] at h7)
            simp only [Act.put, Act.eval, qn, qv, Nat.reduceAdd]
            refine rg_move ?_
            simp only [Act.put, Act.eval, qn, qv, Nat.reduceAdd]
            refine rg_skip (by rfl) ?_
            simp only [Act.put, Act.eval, qn, qv, Nat.reduceAdd]
            refine rg_skip (by rfl) ?_
            simp only [Act.put, Act.eval, qn, qv, Nat.reduceAdd]
            refine rg_skip (by rfl) ?_
            simp only [Act.put, Act.eval, qn, qv, Nat.reduceAdd]
            refine rf_pick rfl rfl rfl ?_
            simp only [Act.put, Act.eval, qn, qv, Nat.reduceAdd]
            refine rg_nil ?_
            refine ek_next ?_
            refine wk_cond_t rfl ?_
            refine wk_seq ?_
            refine wk_region [0] rfl (by kernel_rfl) ?_
            simp only [List.zip_cons_cons, List.zip_nil_right]
            refine rg_assign ?_
            simp only [Act.put, Act.eval, qn, qv, Nat.reduceAdd]
            refine rg_nil ?_
            refine ek_next ?_
            refine wk_ret ?_
            refine ek_block_ret ?_
            refine ek_then_ret ?_
            refine ek_then_ret ?_
            refine ek_block_ret ?_
            refine ek_block_ret ?_
            refine ek_then_ret ?_
            refine ek_then_ret ?_
            refine ek_block_ret ?_
            refine ek_then_ret ?_
            refine ek_ret (fun w hw => ⟨rfl, _, res_t _ rfl, ?_⟩)
            (try simp only [Act.put, Act.eval, qn, qv, Nat.reduceAdd])
            exact ⟨false, rfl, ⟨fun h => (by cases h), fun h => by have hg := h k l (by omega) (by omega); rw [hwn.out] at hg; have h2 := congrArg Prod.snd hg; simp_all⟩, hw.below⟩
      · (try simp only [decide_eq_true_eq, decide_eq_false_iff_not, Int.not_lt, Int.not_le, beq_iff_eq, beq_eq_false_iff_ne, bne_iff_ne, bne_eq_false_iff_eq, ne_eq, Bool.not_eq_true', Bool.not_eq_false'] at h3)
        simp only [Act.put, Act.eval, qn, qv, Nat.reduceAdd]
        refine rg_nil ?_
        refine ek_next ?_
        refine wk_cond_t rfl ?_
        refine wk_skip ?_
        refine ek_next ?_
        refine wk_seq ?_
        refine wk_block ?_
        have hyw := colS_W hok hlen.out hN (k := k) (l := l) (by omega) (by omega) n (by omega)
        rw [hy.out] at hyw
        have hxs := ix_small (i := n) (N := N) (by omega) hN
        have ox := ok_at hok (show n * N + k < xs.length by have := hlen.out; omega)
        have oy := ok_at hok (show n * N + l < xs.length by have := hlen.out; omega)
        have hpw := prod_W ox oy
        obtain ⟨pr, hpr⟩ : ∃ r, (nm xs (n * N + k)).conj.mulR (nm xs (n * N + l)) = r := ⟨_, rfl⟩
        rw [hpr] at hpw
        replace hpr := Lib.hid hpr
        have haw := addR_W hyw.1 hyw.2.1 hyw.2.2 hpw.1 hpw.2.1 hpw.2.2
        have hFl := Fb_le (n := n) (by omega)
        refine wk_draws_m (hz1 := (List.Sublist.append_left (sk _ (sc _ sn)) _)) [(0, 0), (1, 0), (2, 0), (3, 0), (7, 0), (8, 0), (9, 0), (4, 1), (5, 1), (6, 1), (10, 1), (11, 1), (12, 1), (13, 1), (14, 2)] 14 (by kernel_rfl) (by kernel_rfl) (fun c d v a w h => by cases d <;> exact h) ?_
        simp only [List.map_cons, List.map_nil, List.getD_cons_zero, List.getD_cons_succ]
        refine rf_loadR (n := 9) rfl rfl rfl Try.underlying70 rfl (by kernel_rfl) (fun w hw => Kn.hd0 (Kn.tlU hw)) rfl rfl ?_
        simp only [Act.put, Act.eval, qn, qv, Nat.reduceAdd]
        refine rf_loadR (n := 2) rfl rfl rfl Try.underlying38 rfl (by kernel_rfl) (fun w hw => Kn.hd0 (Kn.tl (Kn.tlU hw))) rfl rfl ?_
        simp only [Act.put, Act.eval, qn, qv, Nat.reduceAdd]
        refine rg_move ?_
        simp only [Act.put, Act.eval, qn, qv, Nat.reduceAdd]
        refine rg_move ?_
        simp only [Act.put, Act.eval, qn, qv, Nat.reduceAdd]
        refine rf_loadR (n := 2) rfl rfl rfl Try.underlying38 rfl (by kernel_rfl) (fun w hw => Kn.hd0 (Kn.tl (Kn.tlU hw))) rfl rfl ?_
        simp only [Act.put, Act.eval, qn, qv, Nat.reduceAdd]
        refine rg_move ?_
        simp only [Act.put, Act.eval, qn, qv, Nat.reduceAdd]
        refine rg_move ?_
        simp only [Act.put, Act.eval, qn, qv, Nat.reduceAdd]
        apply rg_pure (by rfl) (by kernel_rfl)
        case hargs => (simp only [qm, qs, Act.eval]; exact rfl)
        case h => exact fun w hw => rAt_any N n k xs a c hlen.out hN (by omega) (by omega) w (hA.kn0 hw)
        case hz => exact (fun _ h => by cases h; exact (List.Sublist.append_left (sc _ (sc _ sn)) _))
        simp only [Act.put, Act.eval, qn, qv, Nat.reduceAdd]
        apply (rg_made (T := fun v u => ∃ s0 s1 s2 s3, v = wdV (nm xs (n * N + k)) s0 s1 s2 s3 ∧ SU4 u (nm xs (n * N + k)) s0 s1 s2 s3)) (by rfl) (by kernel_rfl)
        case hargs => (simp only [qm, qs, Act.eval]; exact rfl)
        case h => exact fun w hw => wideOf_any (nm xs (n * N + k)) (Nm.fit_mono ox.fit (by decide)) w
        case hz => exact (fun _ h => by cases h; exact (List.Sublist.append_left (sc _ (sc _ sn)) _))
        rintro _ u5 ⟨t0, t1, t2, t3, rfl, hS5⟩
        obtain ⟨⟨ta5_0, tc5_0, rfl⟩, -⟩ := id hS5.a
        obtain ⟨⟨ta5_1, tc5_1, rfl⟩, -⟩ := id hS5.b
        obtain ⟨⟨ta5_2, tc5_2, rfl⟩, -⟩ := id hS5.c
        obtain ⟨⟨ta5_3, tc5_3, rfl⟩, -⟩ := id hS5.d
        simp only [Act.put, Act.eval, qn, qv, Nat.reduceAdd]
        apply rg_pure (by rfl) (by kernel_rfl)
        case hargs => (simp only [qm, qs, Act.eval]; exact rfl)
        case h => exact fun w hw => wconj_any (nm xs (n * N + k)) _ _ _ _ (fit382 ox.fit) w (hS5.at hw (List.sublist_append_left _ _))
        case hz => exact (fun _ h => by cases h; exact ((List.Sublist.append_left (sc _ (sc _ sn)) _).trans (List.sublist_append_right _ _)))
        simp only [Act.put, Act.eval, qn, qv, Nat.reduceAdd]
        apply rg_pure (by rfl) (by kernel_rfl)
        case hargs => (simp only [qm, qs, Act.eval]; exact rfl)
        case h => exact fun w hw => rAt_any N n l xs a c hlen.out hN (by omega) (by omega) w (hA.kn0 hw)
        case hz => exact (fun _ h => by cases h; exact ((List.Sublist.append_left (sc _ (sc _ sn)) _).trans (List.sublist_append_right _ _)))
        simp only [Act.put, Act.eval, qn, qv, Nat.reduceAdd]
        apply (rg_made (T := fun v u => ∃ s0 s1 s2 s3, v = wdV (nm xs (n * N + l)) s0 s1 s2 s3 ∧ SU4 u (nm xs (n * N + l)) s0 s1 s2 s3)) (by rfl) (by kernel_rfl)
        case hargs => (simp only [qm, qs, Act.eval]; exact rfl)
        case h => exact fun w hw => wideOf_any (nm xs (n * N + l)) (Nm.fit_mono oy.fit (by decide)) w
        case hz => exact (fun _ h => by cases h; exact ((List.Sublist.append_left (sc _ (sc _ sn)) _).trans (List.sublist_append_right _ _)))
        rintro _ u6 ⟨t0, t1, t2, t3, rfl, hS6⟩
        obtain ⟨⟨ta6_0, tc6_0, rfl⟩, -⟩ := id hS6.a
        obtain ⟨⟨ta6_1, tc6_1, rfl⟩, -⟩ := id hS6.b
        obtain ⟨⟨ta6_2, tc6_2, rfl⟩, -⟩ := id hS6.c
        obtain ⟨⟨ta6_3, tc6_3, rfl⟩, -⟩ := id hS6.d
        simp only [Act.put, Act.eval, qn, qv, Nat.reduceAdd]
        apply (rg_made (T := fun v u => ∃ s0 s1 s2 s3, v = wdV (pr) s0 s1 s2 s3 ∧ SU4 u (pr) s0 s1 s2 s3)) (by rfl) (by kernel_rfl)
        case hargs => (simp only [qm, qs, Act.eval]; exact rfl)
        case h => exact fun w hw => by have := wtimes_any (nm xs (n * N + k)).conj (nm xs (n * N + l)) _ _ _ _ _ _ _ _ (fit382 (conj_ok ox).fit) (fit382 oy.fit) (prodB_ok (conj_ok ox).fit oy.fit) ox.k0 (by have := ox.k1; simp only [Nm.conj]; omega) oy.k0 (by have := oy.k1; omega) w (hS5.at hw ((List.sublist_append_left _ _).trans (List.sublist_append_right _ _))).conj (hS6.at hw (List.sublist_append_left _ _)); rw [hpr.out] at this; exact this
        case hz => exact (fun _ h => by cases h; exact (((List.Sublist.append_left (sc _ (sc _ sn)) _).trans (List.sublist_append_right _ _)).trans (List.sublist_append_right _ _)))
        rintro _ u7 ⟨t0, t1, t2, t3, rfl, hS7⟩
        obtain ⟨⟨ta7_0, tc7_0, rfl⟩, -⟩ := id hS7.a
        obtain ⟨⟨ta7_1, tc7_1, rfl⟩, -⟩ := id hS7.b
        obtain ⟨⟨ta7_2, tc7_2, rfl⟩, -⟩ := id hS7.c
        obtain ⟨⟨ta7_3, tc7_3, rfl⟩, -⟩ := id hS7.d
        simp only [Act.put, Act.eval, qn, qv, Nat.reduceAdd]
        apply (rg_made (T := fun v u => ∃ s0 s1 s2 s3, v = wdV (y.addR pr) s0 s1 s2 s3 ∧ SU4 u (y.addR pr) s0 s1 s2 s3)) (by rfl) (by kernel_rfl)
        case hargs => (simp only [qm, qs, Act.eval]; exact rfl)
        case h => exact fun w hw => wplus_any y pr _ _ _ _ _ _ _ _ (Nm.fit_mono haw.1 hFl) (Nm.fit_mono haw.2.1 hFl) hyw.2.1 (by omega) hpw.2.1 (by omega) w (hsk.at hw ((((List.sublist_append_left _ _).trans (List.sublist_append_right _ _)).trans (List.sublist_append_right _ _)).trans (List.sublist_append_right _ _))) (hS7.at hw (List.sublist_append_left _ _))
        case hz => exact (fun _ h => by cases h; exact ((((List.Sublist.append_left (sc _ (sc _ sn)) _).trans (List.sublist_append_right _ _)).trans (List.sublist_append_right _ _)).trans (List.sublist_append_right _ _)))
        rintro _ u8 ⟨t0, t1, t2, t3, rfl, hS8⟩
        obtain ⟨⟨ta8_0, tc8_0, rfl⟩, -⟩ := id hS8.a
        obtain ⟨⟨ta8_1, tc8_1, rfl⟩, -⟩ := id hS8.b
        obtain ⟨⟨ta8_2, tc8_2, rfl⟩, -⟩ := id hS8.c
        obtain ⟨⟨ta8_3, tc8_3, rfl⟩, -⟩ := id hS8.d
        simp only [Act.put, Act.eval, qn, qv, Nat.reduceAdd]
        refine rf_storeRM (n := 9) rfl rfl (by kernel_rfl) rfl rfl (UpdR.app _ (UpdR.app _ (UpdR.app _ (UpdR.app _ (UpdR.app _ (UpdR.here _ _ _ (Nat.le_of_ble_eq_true rfl))))))) (((((List.Sublist.append_left (sk _ (sc _ sn)) _).trans (List.sublist_append_right _ _)).trans (List.sublist_append_right _ _)).trans (List.sublist_append_right _ _)).trans (List.sublist_append_right _ _)) ?_
        simp only [Act.put, Act.eval, qn, qv, Nat.reduceAdd]
        refine rg_nil ?_
        refine ek_block ?_
        refine ek_next ?_
        refine wk_region [0, 0, 0] rfl (by kernel_rfl) ?_
        simp only [List.zip_cons_cons, List.zip_nil_right]
        refine rg_move ?_
        simp only [Act.put, Act.eval, qn, qv, Nat.reduceAdd]
        refine rf_add rfl rfl rfl rfl (wrap_ok (by omega) (by omega)) ?_
        simp only [Act.put, Act.eval, qn, qv, Nat.reduceAdd]
        refine rg_assign ?_
        simp only [Act.put, Act.eval, qn, qv, Nat.reduceAdd]
        refine rg_nil ?_
        refine ek_sub (List.Sublist.append_left (((((sc _ (sc _ sn)).trans (List.sublist_append_right _ _)).trans (List.sublist_append_right _ _)).trans (List.sublist_append_right _ _)).trans (List.sublist_append_right _ _)) _) ?_
        refine ek_roundF (N - (n + 1)) (by omega) (by kernel_rfl) ?_
        exact ⟨n + 1, y.addR pr, ta8_0, ta8_1, ta8_2, ta8_3, tc8_0, tc8_1, tc8_2, tc8_3, u8, rfl, by rfl, by rfl, (by omega), (Lib.hid (by rw [colS, hy.out, hpr.out])), (SK4.own hS8)⟩

end Go.Proofs.Ytccbinnlnkpplaa
