/- Texts in one: Ak4, RtR, Pt0. -/
import Derived.Test.YtjeijnjaleldkaaLAlikeD
import Derived.OrdersIn
namespace Go.Proofs.Ytjeijnjaleldkaa
set_option linter.all false
set_option maxRecDepth 100000
set_option maxHeartbeats 1000000
open Go.RowKit
theorem ralike_any (n m : Int) (xs ys : List Nm) (a a' : Option Addr) (c c' : Nat) (hl : xs.length ≤ 1000000) (hl' : ys.length ≤ 1000000) (w : World) (hA : AS w a (nms xs)) (hB : AS w a' (nms ys)) : Calls Try.prog 40 #[.agg #[.int .i64 n, .slice a xs.length c], .agg #[.int .i64 m, .slice a' ys.length c']] w fun e w' => e = .returned (.tuple #[.bool (alkB n m xs ys), .int .i64 (alkE n m xs ys)]) ∧ Below w.heap.size w w' := by
 go_enter Try.func40, Try.ntmps40
 refine wk_start ?_
 refine wk_seq ?_
 refine wk_region [1, 1, 0, 0] rfl Kx ?_
 simp only [qy]
 refine Rgn fun g1 => ?_
 simp only [qz]
 refine Rgn fun g2 => ?_
 simp only [qz]
 refine rg_assign ?_
 simp only [qz]
 refine rg_assign ?_
 simp only [qz]
 refine rg_nil (ek_next (wk_seq (wk_seq ?_)))
 refine wk_region [0, 1, 0, 0, 0, 1, 0, 0] rfl Kx ?_
 simp only [qy]
 refine rf_loadR (n := 2) rfl rfl rfl Try.underlying24 rfl Kx (fun w hw => Kn.hd0 (Kn.tl hw)) rfl rfl ?_
 simp only [qz]
 apply rg_pureb Rx Kx
 case hargs => exact Ax
 case h => exact fun w hw => rmvalid_any n xs a c hl w (hA.kn0 hw)
 case hz => exact Nz
 intro x h1
 cases x
 ·(try simp only [qd, ne_eq] at h1)
  simp only [qz]
  refine rf_not rfl rfl rfl ?_
  simp only [qz]
  refine rg_move ?_
  simp only [qz]
  refine rg_skip Rx ?_
  simp only [qz]
  refine rg_skip_h Rx Nz ?_
  simp only [qz]
  refine rg_skip Rx ?_
  simp only [qz]
  refine rf_pick rfl rfl rfl ?_
  simp only [qz]
  refine rg_nil (ek_next (wk_cond_t rfl (wk_seq ?_)))
  refine wk_region [0, 0] rfl Kx ?_
  simp only [qy]
  refine rg_assign ?_
  simp only [qz]
  refine rg_assign ?_
  simp only [qz]
  refine rg_nil (ek_next (wk_ret (ek_then_ret ?_)))
  refine ek_ret (fun w hw => ⟨rfl, _, res_tt _ _ rfl, ?_⟩)
  (try simp only [qz])
  obtain ⟨e1, e2⟩ := alk_bad (n := n) (m := m) (xs := xs) (ys := ys) (by rw [h1]; rfl)
  exact ⟨by rw [e1, e2], hw.below⟩
 (try simp only [qd, ne_eq] at h1)
 simp only [qz]
 have hv := h1
 obtain ⟨N, rfl, hN1, hN, hlx, hlx36, hox⟩ := validB_N' hv
 replace hlx := Lib.hid hlx
 refine rf_not rfl rfl rfl ?_
 simp only [qz]
 refine rg_move ?_
 simp only [qz]
 refine rf_loadR (n := 2) rfl rfl rfl Try.underlying24 rfl Kx (fun w hw => Kn.hd0 hw) rfl rfl ?_
 simp only [qz]
 apply rg_pureb Rx Kx
 case hargs => exact Ax
 case h => exact fun w hw => rmvalid_any m ys a' c' hl' w (hB.kn0 hw)
 case hz => exact Nz
 intro x h2
 cases x
 ·(try simp only [qd, ne_eq] at h2)
  simp only [qz]
  refine rf_not rfl rfl rfl ?_
  simp only [qz]
  refine rf_pick rfl rfl rfl ?_
  simp only [qz]
  refine rg_nil (ek_next (wk_cond_t rfl (wk_seq ?_)))
  refine wk_region [0, 0] rfl Kx ?_
  simp only [qy]
  refine rg_assign ?_
  simp only [qz]
  refine rg_assign ?_
  simp only [qz]
  refine rg_nil (ek_next (wk_ret (ek_then_ret ?_)))
  refine ek_ret (fun w hw => ⟨rfl, _, res_tt _ _ rfl, ?_⟩)
  (try simp only [qz])
  obtain ⟨e1, e2⟩ := alk_bad (n := (N : Int)) (m := m) (xs := xs) (ys := ys) (by rw [hv, h2]; rfl)
  exact ⟨by rw [e1, e2], hw.below⟩
 (try simp only [qd, ne_eq] at h2)
 simp only [qz]
 have hv2 := h2
 obtain ⟨M, rfl, hM1, hM, hly, hly36, hoy⟩ := validB_N' hv2
 replace hly := Lib.hid hly
 refine rf_not rfl rfl rfl ?_
 simp only [qz]
 refine rf_pick rfl rfl rfl ?_
 simp only [qz]
 refine rg_nil (ek_next (wk_cond_f rfl (wk_skip (ek_next (wk_seq (wk_seq ?_))))))
 refine wk_region [0, 0, 0, 0, 0] rfl Kx ?_
 simp only [qy]
 refine rf_field (n := 0) (j := 0) rfl rfl rfl Try.underlying24 rfl Kx rfl ?_
 simp only [qz]
 refine rf_load rfl rfl rfl Try.underlying3 rfl (fun w hw => (Kn.hd0 (Kn.tl hw)).at rfl) ?_
 simp only [qz]
 refine rf_field (n := 0) (j := 0) rfl rfl rfl Try.underlying24 rfl Kx rfl ?_
 simp only [qz]
 refine rf_load rfl rfl rfl Try.underlying3 rfl (fun w hw => (Kn.hd0 hw).at rfl) ?_
 simp only [qz]
 refine rfb_neq rfl rfl rfl rfl ?_
 intro x h3
 cases x
 ·(try simp only [qd, ne_eq] at h3)
  simp only [qz]
  obtain rfl : N = M := by omega
  have hvv : (validB N xs && validB N ys) = true := by rw [hv, hv2]; rfl
  obtain ⟨e1, e2⟩ := alk_ok hvv
  replace e1 := Lib.hid e1
  replace e2 := Lib.hid e2
  replace hvv := Lib.hid hvv
  refine rg_nil (ek_next (wk_cond_f rfl (wk_skip (ek_next ?_))))
  refine wk_cutF [6, 7, 30, 31, 32, 33, 34, 35] (fun f s => ∃ (gr gc : Nat), f 6 = .slice (some ⟨gr, 0, none⟩) N N ∧ f 7 = .slice (some ⟨gc, 0, none⟩) N N ∧ s = ((gr, .cells (tzC (iniA 0) N).toArray 3) :: ((gc, .cells (tzC (iniA 0) N).toArray 3) :: ((g2, .cells #[.int .i64 N, .slice a' ys.length c'] 24) :: ((g1, .cells #[.int .i64 N, .slice a xs.length c] 24) :: []))))) ?_ ?_
  ·refine wk_rt _ Kx (sc _ (sc _ sn)) ?_
   refine rt_soft (i := 0) rfl Kx (fun c d v a w h => by cases d <;> exact h) (sc _ (sc _ sn)) ?_
   refine rf_field (n := 0) (j := 0) rfl rfl rfl Try.underlying24 rfl Kx rfl ?_
   simp only [qz]
   refine rg_nil ?_
   refine ek_rt (sc _ (sc _ sn)) ?_
   refine rt_soft (i := 1) rfl Kx (fun c d v a w h => by cases d <;> exact h) (sc _ (sc _ sn)) ?_
   refine rf_load rfl rfl rfl Try.underlying3 rfl (fun w hw => (Kn.hd0 (Kn.tl hw)).at rfl) ?_
   simp only [qz]
   refine rg_nil ?_
   refine ek_rt (sc _ (sc _ sn)) ?_
   refine rt_soft (i := 3) rfl Kx (fun c d v a w h => by cases d <;> exact h) (sc _ (sc _ sn)) ?_
   refine rf_field (n := 0) (j := 0) rfl rfl rfl Try.underlying24 rfl Kx rfl ?_
   simp only [qz]
   refine rg_nil ?_
   refine ek_rt (sc _ (sc _ sn)) ?_
   refine rt_soft (i := 4) rfl Kx (fun c d v a w h => by cases d <;> exact h) (sc _ (sc _ sn)) ?_
   refine rf_load rfl rfl rfl Try.underlying3 rfl (fun w hw => (Kn.hd0 (Kn.tl hw)).at rfl) ?_
   simp only [qz]
   refine rg_nil ?_
   refine ek_rt (sc _ (sc _ sn)) ?_
   refine rt_hard2 (i := 2) (j := 5) Kx rfl rfl ?_ ?_
   ·refine rg_makeT (n := N) Rx rfl rfl Ox (fun _ h => by cases h; exact (sc _ (sc _ sn))) (fun gt3 => ?_)
    simp only [qz]
    refine rg_nil ?_
    refine ek_rt (sk _ (sc _ (sc _ sn))) ?_
    refine rt_soft (i := 6) rfl Kx (fun c d v a w h => by cases d <;> exact h) (sk _ (sc _ (sc _ sn))) ?_
    refine rg_assign ?_
    simp only [qz]
    refine rg_nil ?_
    refine ek_rt (sk _ (sc _ (sc _ sn))) ?_
    refine rt_hard1 (i := 5) Kx rfl ?_
    refine rg_makeT (n := N) Rx rfl rfl Ox (fun _ h => by cases h; exact (sk _ (sc _ (sc _ sn)))) (fun gt4 => ?_)
    simp only [qz]
    refine rg_nil ?_
    refine ek_rt (sk _ (sk _ (sc _ (sc _ sn)))) ?_
    refine rt_soft (i := 7) rfl Kx (fun c d v a w h => by cases d <;> exact h) (sk _ (sk _ (sc _ (sc _ sn)))) ?_
    refine rg_assign ?_
    simp only [qz]
    refine rg_nil ?_
    refine ek_rt (sk _ (sk _ (sc _ (sc _ sn)))) ?_
    refine rt_nil Kx ?_
    refine ek_perm (perm_at (l := [_]) (List.Perm.refl _)) ?_
    refine ek_midF Kx ?_
    exact ⟨gt3, gt4, rfl, rfl, by rfl⟩
   refine rg_makeT (n := N) Rx rfl rfl Ox (fun _ h => by cases h; exact (sc _ (sc _ sn))) (fun gt5 => ?_)
   simp only [qz]
   refine rg_nil ?_
   refine ek_rt (sk _ (sc _ (sc _ sn))) ?_
   refine rt_hard1 (i := 2) Kx rfl ?_
   refine rg_makeT (n := N) Rx rfl rfl Ox (fun _ h => by cases h; exact (sk _ (sc _ (sc _ sn)))) (fun gt6 => ?_)
   simp only [qz]
   refine rg_nil ?_
   refine ek_rt (sk _ (sk _ (sc _ (sc _ sn)))) ?_
   refine rt_soft (i := 6) rfl Kx (fun c d v a w h => by cases d <;> exact h) (sk _ (sk _ (sc _ (sc _ sn)))) ?_
   refine rg_assign ?_
   simp only [qz]
   refine rg_nil ?_
   refine ek_rt (sk _ (sk _ (sc _ (sc _ sn)))) ?_
   refine rt_soft (i := 7) rfl Kx (fun c d v a w h => by cases d <;> exact h) (sk _ (sk _ (sc _ (sc _ sn)))) ?_
   refine rg_assign ?_
   simp only [qz]
   refine rg_nil ?_
   refine ek_rt (sk _ (sk _ (sc _ (sc _ sn)))) ?_
   refine rt_nil Kx ?_
   refine ek_midF Kx ?_
   exact ⟨gt6, gt5, rfl, rfl, by rfl⟩
  rintro f1 s ⟨gr, gc, hs1_6, hs1_7, rfl⟩
  simp only [Act.putF, List.foldl_cons, List.foldl_nil, hs1_6, hs1_7, Act.put, Act.eval, q1, q2, q3, q4, q5, q6, q7, q8, q9, q10, q11, q12, q13, q14, q15, q16, q17, q18, Nat.reduceAdd, Bool.not_true, Bool.not_false]
  clear hs1_6 hs1_7
  refine wk_seq (wk_seq ?_)
  refine wk_region [0] rfl Kx ?_
  simp only [qy]
  refine rg_assign ?_
  simp only [qz]
  refine rg_nil (ek_next (wk_block ?_))
  refine wk_loopF [8, 36, 37, 38, 39, 40, 41, 42, 43, 44, 45, 46, 47] (fun mz f s => ∃ (j : Nat), f 8 = .int .i64 j ∧ s = ((gr, .cells (tzC (iniA j) N).toArray 3) :: ((gc, .cells (tzC (iniA j) N).toArray 3) :: ((g2, .cells #[.int .i64 N, .slice a' ys.length c'] 24) :: ((g1, .cells #[.int .i64 N, .slice a xs.length c] 24) :: [])))) ∧ mz = N - j ∧ j ≤ N) ((fun (j : Nat) => N - j) (0)) ?_ Kx ?_
  ·exact ⟨0, rfl, rfl, rfl, by omega⟩
  rintro mz f2 s ⟨j, hs2_8, rfl, hn, hc1⟩
  simp only [Act.putF, List.foldl_cons, List.foldl_nil, hs2_8, Act.put, Act.eval, q1, q2, q3, q4, q5, q6, q7, q8, q9, q10, q11, q12, q13, q14, q15, q16, q17, q18, Nat.reduceAdd, Bool.not_true, Bool.not_false]
  clear hs2_8
  refine wk_seq (wk_seq ?_)
  refine wk_region [0, 0, 0, 0] rfl Kx ?_
  simp only [qy]
  refine rg_move ?_
  simp only [qz]
  refine rf_field (n := 0) (j := 0) rfl rfl rfl Try.underlying24 rfl Kx rfl ?_
  simp only [qz]
  refine rf_load rfl rfl rfl Try.underlying3 rfl (fun w hw => (Kn.hd0 (Kn.tl (Kn.tl (Kn.tl hw)))).at rfl) ?_
  simp only [qz]
  refine rfb_lss rfl rfl rfl rfl ?_
  intro x h4
  cases x
  ·(try simp only [qd, ne_eq] at h4)
   simp only [qz]
   refine rg_nil (ek_next (wk_cond_f rfl (wk_exit (ek_then_exit (ek_then_exit (ek_block_exit (ek_next (wk_seq (wk_seq ?_)))))))))
   refine wk_region [0] rfl Kx ?_
   simp only [qy]
   refine rg_assign ?_
   simp only [qz]
   refine rg_nil (ek_next (wk_block ?_))
   obtain rfl : N = j := by omega
   refine wk_eqs (s' := [(gr, .cells (tzC ((fun _ => -1)) N).toArray 3), (gc, .cells (tzC (shA N (fun _ => -1)) N).toArray 3), (g2, .cells #[.int .i64 N, .slice a' ys.length c'] 24), (g1, .cells #[.int .i64 N, .slice a xs.length c] 24)]) (by rw [ini_all]; rfl) ?_
   refine wk_loopF [4, 5, 9, 10, 11, 12, 13, 14, 15, 16, 48, 49, 50, 51, 52, 53, 54, 55, 56, 57, 58, 59, 60, 61, 62, 63, 64, 65, 66, 67, 68, 69, 70, 71, 72, 73, 74, 75, 76, 77, 78, 79, 80, 81, 82, 83, 84, 85, 86, 87, 88, 89, 90, 91, 92, 93, 94, 95, 96, 97, 98, 99, 100, 101, 102, 103, 104, 105, 106, 107, 108, 109, 110, 111, 112, 113, 114, 115, 116, 117, 118, 119, 120, 121, 122, 123, 124, 125, 126, 127, 128, 129, 130, 131, 132, 133, 134, 135, 136, 137, 138, 139, 140, 141, 142, 143, 144, 145, 146, 147, 148, 149, 150, 151, 152, 153, 154, 155, 156, 157, 158, 159, 160, 161, 162, 163, 164, 165, 166, 167, 168] (fun mz f s => ∃ (st : Nat) (T : Nat → Int), f 9 = .int .i64 st ∧ s = ((gr, .cells (tzC (T) N).toArray 3) :: ((gc, .cells (tzC (shA N T) N).toArray 3) :: ((g2, .cells #[.int .i64 N, .slice a' ys.length c'] 24) :: ((g1, .cells #[.int .i64 N, .slice a xs.length c] 24) :: [])))) ∧ mz = N - st ∧ st ≤ N ∧ InA N (edM N xs ys) T st ∧ Hid (CloA N (edM N xs ys) T)) ((fun (st : Nat) (T : Nat → Int) => N - st) (0) ((fun _ => -1))) ?_ Kx ?_
   ·exact ⟨0, (fun _ => -1), rfl, rfl, rfl, by omega, (inA_start _ _), (Lib.hid (cloA_start (fun _ _ => by decide)))⟩
   rintro mz f3 s ⟨st, T, hs3_9, rfl, hn, hd1, hd2, hd3⟩
   simp only [Act.putF, List.foldl_cons, List.foldl_nil, hs3_9, Act.put, Act.eval, q1, q2, q3, q4, q5, q6, q7, q8, q9, q10, q11, q12, q13, q14, q15, q16, q17, q18, Nat.reduceAdd, Bool.not_true, Bool.not_false]
   clear hs3_9
   refine wk_seq (wk_seq ?_)
   refine wk_region [0, 0, 0, 0] rfl Kx ?_
   simp only [qy]
   refine rg_move ?_
   simp only [qz]
   refine rf_field (n := 0) (j := 0) rfl rfl rfl Try.underlying24 rfl Kx rfl ?_
   simp only [qz]
   refine rf_load rfl rfl rfl Try.underlying3 rfl (fun w hw => (Kn.hd0 (Kn.tl (Kn.tl (Kn.tl hw)))).at rfl) ?_
   simp only [qz]
   refine rfb_lss rfl rfl rfl rfl ?_
   intro x h5
   cases x
   ·(try simp only [qd, ne_eq] at h5)
    simp only [qz]
    refine rg_nil (ek_next (wk_cond_f rfl (wk_exit (ek_then_exit (ek_then_exit (ek_block_exit (ek_next (wk_seq ?_))))))))
    refine wk_region [0, 0] rfl Kx ?_
    simp only [qy]
    refine rg_assign ?_
    simp only [qz]
    refine rg_assign ?_
    simp only [qz]
    refine rg_nil (ek_next (wk_ret ?_))
    refine ek_ret (fun w hw => ⟨rfl, _, res_tt _ _ rfl, ?_⟩)
    (try simp only [qz])
    obtain rfl : N = st := by omega
    have ha := alikeA_yes (clo_all hd3.out hd2.kn)
    exact ⟨by rw [e1.out, e2.out, ha], hw.below⟩
   (try simp only [qd, ne_eq] at h5)
   simp only [qz]
   refine rg_nil (ek_next (wk_cond_t rfl (wk_skip (ek_next (wk_seq (wk_block ?_))))))
   refine wk_cutF [54, 55, 56, 57, 58, 59, 60, 61] (fun f s => ∃ (T1 : Nat → Int), s = ((gr, .cells (tzC (T1) N).toArray 3) :: ((gc, .cells (tzC (shA N T1) N).toArray 3) :: ((g2, .cells #[.int .i64 N, .slice a' ys.length c'] 24) :: ((g1, .cells #[.int .i64 N, .slice a xs.length c] 24) :: [])))) ∧ InA N (edM N xs ys) T1 (st + 1)) ?_ ?_
   ·refine wk_seq ?_
    refine wk_region [0, 0, 0, 0, 0] rfl Kx ?_
    simp only [qy]
    refine rg_move ?_
    simp only [qz]
    refine rg_move ?_
    simp only [qz]
    refine rf_indexS (n := st) (sz := 1) (j := st) rfl rfl rfl rfl Try.underlying37 Kx Ox Ox Ox ?_
    simp only [qz]
    refine rf_load (v := .int .i64 (T st)) rfl rfl rfl Try.underlying3 rfl (fun w hw => tz_cell (Kn.hd0 hw) (i := st) Ox) ?_
    simp only [qz]
    refine rfb_lss rfl rfl rfl rfl ?_
    intro x h6
    cases x
    ·(try simp only [qd, ne_eq] at h6)
     simp only [qz]
     refine rg_nil (ek_next (wk_cond_f rfl (wk_skip ?_)))
     refine ek_midF Kx ?_
     exact ⟨T, by rfl, (hd2.same Ox)⟩
    (try simp only [qd, ne_eq] at h6)
    simp only [qz]
    refine rg_nil (ek_next (wk_cond_t rfl ?_))
    refine wk_region [0, 0, 0, 1] rfl Kx ?_
    simp only [qy]
    refine rg_move ?_
    simp only [qz]
    refine rg_move ?_
    simp only [qz]
    refine rf_indexS (n := st) (sz := 1) (j := st) rfl rfl rfl rfl Try.underlying37 Kx Ox Ox Ox ?_
    simp only [qz]
    refine rf_storeT (i := st) (z := 0) (N := N) (R0 := T) (R' := updA T st 0) rfl rfl Ox (fun _ => rfl) (Rep.here _) Nz ?_
    simp only [qz]
    refine rg_nil ?_
    refine ek_midF Kx ?_
    exact ⟨updA T st 0, by rw [sh_row _ _ Ox], (hd2.zero hd3.out Ox h6)⟩
   rintro f4 s ⟨T1, rfl, hm1⟩
   simp only [Act.putF, List.foldl_cons, List.foldl_nil, Act.put, Act.eval, q1, q2, q3, q4, q5, q6, q7, q8, q9, q10, q11, q12, q13, q14, q15, q16, q17, q18, Nat.reduceAdd, Bool.not_true, Bool.not_false]
   refine wk_seq ?_
   refine wk_region [0] rfl Kx ?_
   simp only [qy]
   refine rg_assign ?_
   simp only [qz]
   refine rg_nil (ek_next (wk_block ?_))
   refine wk_loopF [4, 5, 10, 11, 12, 13, 14, 15, 16, 62, 63, 64, 65, 66, 67, 68, 69, 70, 71, 72, 73, 74, 75, 76, 77, 78, 79, 80, 81, 82, 83, 84, 85, 86, 87, 88, 89, 90, 91, 92, 93, 94, 95, 96, 97, 98, 99, 100, 101, 102, 103, 104, 105, 106, 107, 108, 109, 110, 111, 112, 113, 114, 115, 116, 117, 118, 119, 120, 121, 122, 123, 124, 125, 126, 127, 128, 129, 130, 131, 132, 133, 134, 135, 136, 137, 138, 139, 140, 141, 142, 143, 144, 145, 146, 147, 148, 149, 150, 151, 152, 153, 154, 155, 156, 157, 158, 159, 160, 161, 162, 163, 164, 165, 166, 167, 168] (fun mz f s => ∃ (T2 : Nat → Int) (ag : Bool), f 10 = .bool ag ∧ s = ((gr, .cells (tzC (T2) N).toArray 3) :: ((gc, .cells (tzC (shA N T2) N).toArray 3) :: ((g2, .cells #[.int .i64 N, .slice a' ys.length c'] 24) :: ((g1, .cells #[.int .i64 N, .slice a xs.length c] 24) :: [])))) ∧ mz = unkA N T2 (2 * N) + ag.toNat ∧ InA N (edM N xs ys) T2 (st + 1) ∧ Hid (ag = false → CloA N (edM N xs ys) T2)) ((fun (T2 : Nat → Int) (ag : Bool) => unkA N T2 (2 * N) + ag.toNat) (T1) (true)) ?_ Kx ?_
   ·exact ⟨T1, true, rfl, rfl, rfl, hm1, (Lib.hid (fun h => nomatch h))⟩
   rintro mz f5 s ⟨T2, ag, hs5_10, rfl, hn, he1, he2⟩
   simp only [Act.putF, List.foldl_cons, List.foldl_nil, hs5_10, Act.put, Act.eval, q1, q2, q3, q4, q5, q6, q7, q8, q9, q10, q11, q12, q13, q14, q15, q16, q17, q18, Nat.reduceAdd, Bool.not_true, Bool.not_false]
   clear hs5_10
   have hn16 := hn
   refine wk_seq (wk_seq ?_)
   cases ag
   ·refine wk_region [0] rfl Kx ?_
    simp only [qy]
    refine rg_move ?_
    simp only [qz]
    refine rg_nil (ek_next (wk_cond_f rfl (wk_exit (ek_then_exit (ek_then_exit (ek_block_exit (ek_block (ek_next ?_))))))))
    refine wk_region [0, 0, 0] rfl Kx ?_
    simp only [qy]
    refine rg_move ?_
    simp only [qz]
    refine rf_add rfl rfl rfl rfl (wrap_ok Ox Ox) ?_
    simp only [qz]
    refine rg_assign ?_
    simp only [qz]
    refine rg_nil ?_
    refine ek_roundF (N - (st + 1)) Ox Kx ?_
    exact ⟨st + 1, T2, rfl, by rfl, by rfl, Ox, he1, (Lib.hid (he2.out rfl))⟩
   refine wk_region [0] rfl Kx ?_
   simp only [qy]
   refine rg_move ?_
   simp only [qz]
   refine rg_nil (ek_next (wk_cond_t rfl (wk_skip (ek_next (wk_block (wk_seq ?_))))))
   refine wk_region [0] rfl Kx ?_
   simp only [qy]
   refine rg_assign ?_
   simp only [qz]
   refine rg_nil (ek_next (wk_seq ?_))
   refine wk_region [0] rfl Kx ?_
   simp only [qy]
   refine rg_assign ?_
   simp only [qz]
   refine rg_nil (ek_next (wk_block ?_))
   refine wk_loopF [4, 5, 10, 11, 12, 13, 14, 15, 16, 63, 64, 65, 66, 67, 68, 69, 70, 71, 72, 73, 74, 75, 76, 77, 78, 79, 80, 81, 82, 83, 84, 85, 86, 87, 88, 89, 90, 91, 92, 93, 94, 95, 96, 97, 98, 99, 100, 101, 102, 103, 104, 105, 106, 107, 108, 109, 110, 111, 112, 113, 114, 115, 116, 117, 118, 119, 120, 121, 122, 123, 124, 125, 126, 127, 128, 129, 130, 131, 132, 133, 134, 135, 136, 137, 138, 139, 140, 141, 142, 143, 144, 145, 146, 147, 148, 149, 150, 151, 152, 153, 154, 155, 156, 157, 158, 159, 160, 161, 162, 163, 164, 165, 166, 167, 168] (fun mz f s => ∃ (i : Nat) (T3 : Nat → Int) (ag1 : Bool), f 10 = .bool ag1 ∧ f 11 = .int .i64 i ∧ s = ((gr, .cells (tzC (T3) N).toArray 3) :: ((gc, .cells (tzC (shA N T3) N).toArray 3) :: ((g2, .cells #[.int .i64 N, .slice a' ys.length c'] 24) :: ((g1, .cells #[.int .i64 N, .slice a xs.length c] 24) :: [])))) ∧ mz = N - i ∧ i ≤ N ∧ InA N (edM N xs ys) T3 (st + 1) ∧ unkA N T3 (2 * N) + ag1.toNat ≤ unkA N T2 (2 * N) ∧ Hid (SwA N (edM N xs ys) T3 ag1 i 0)) ((fun (i : Nat) (T3 : Nat → Int) (ag1 : Bool) => N - i) (0) (T2) (false)) ?_ Kx ?_
   ·exact ⟨0, T2, false, rfl, rfl, rfl, rfl, by omega, he1, (Nat.le_refl _), (Lib.hid sw_start)⟩
   rintro mz f6 s ⟨i, T3, ag1, hs6_10, hs6_11, rfl, hn, hf1, hf2, hf3, hf4⟩
   simp only [Act.putF, List.foldl_cons, List.foldl_nil, hs6_10, hs6_11, Act.put, Act.eval, q1, q2, q3, q4, q5, q6, q7, q8, q9, q10, q11, q12, q13, q14, q15, q16, q17, q18, Nat.reduceAdd, Bool.not_true, Bool.not_false]
   clear hs6_10 hs6_11
   refine wk_seq (wk_seq ?_)
   refine wk_region [0, 0, 0, 0] rfl Kx ?_
   simp only [qy]
   refine rg_move ?_
   simp only [qz]
   refine rf_field (n := 0) (j := 0) rfl rfl rfl Try.underlying24 rfl Kx rfl ?_
   simp only [qz]
   refine rf_load rfl rfl rfl Try.underlying3 rfl (fun w hw => (Kn.hd0 (Kn.tl (Kn.tl (Kn.tl hw)))).at rfl) ?_
   simp only [qz]
   refine rfb_lss rfl rfl rfl rfl ?_
   intro x h7
   cases x
   ·(try simp only [qd, ne_eq] at h7)
    simp only [qz]
    refine rg_nil (ek_next (wk_cond_f rfl (wk_exit (ek_then_exit (ek_then_exit (ek_block_exit (ek_block ?_)))))))
    refine ek_roundF (unkA N T3 (2 * N) + ag1.toNat) (by rw [hn16]; show _ < unkA N T2 (2 * N) + 1; omega) Kx ?_
    exact ⟨T3, ag1, rfl, by rfl, by rfl, hf2, (Lib.hid (fun e => by subst e; obtain rfl : N = i := Ox; exact hf4.out.clo))⟩
   (try simp only [qd, ne_eq] at h7)
   simp only [qz]
   refine rg_nil (ek_next (wk_cond_t rfl (wk_skip (ek_next (wk_seq (wk_block (wk_seq ?_)))))))
   refine wk_region [0] rfl Kx ?_
   simp only [qy]
   refine rg_assign ?_
   simp only [qz]
   refine rg_nil (ek_next (wk_block ?_))
   refine wk_loopF [4, 5, 10, 12, 13, 14, 15, 16, 69, 70, 71, 72, 73, 74, 75, 76, 77, 78, 79, 80, 81, 82, 83, 84, 85, 86, 87, 88, 89, 90, 91, 92, 93, 94, 95, 96, 97, 98, 99, 100, 101, 102, 103, 104, 105, 106, 107, 108, 109, 110, 111, 112, 113, 114, 115, 116, 117, 118, 119, 120, 121, 122, 123, 124, 125, 126, 127, 128, 129, 130, 131, 132, 133, 134, 135, 136, 137, 138, 139, 140, 141, 142, 143, 144, 145, 146, 147, 148, 149, 150, 151, 152, 153, 154, 155, 156, 157, 158, 159, 160, 161, 162, 163, 164, 165, 166, 167, 168] (fun mz f s => ∃ (k : Nat) (T4 : Nat → Int) (ag2 : Bool), f 10 = .bool ag2 ∧ f 12 = .int .i64 k ∧ s = ((gr, .cells (tzC (T4) N).toArray 3) :: ((gc, .cells (tzC (shA N T4) N).toArray 3) :: ((g2, .cells #[.int .i64 N, .slice a' ys.length c'] 24) :: ((g1, .cells #[.int .i64 N, .slice a xs.length c] 24) :: [])))) ∧ mz = N - k ∧ k ≤ N ∧ i < N ∧ InA N (edM N xs ys) T4 (st + 1) ∧ unkA N T4 (2 * N) + ag2.toNat ≤ unkA N T2 (2 * N) ∧ Hid (SwA N (edM N xs ys) T4 ag2 i k)) ((fun (k : Nat) (T4 : Nat → Int) (ag2 : Bool) => N - k) (0) (T3) (ag1)) ?_ Kx ?_
   ·exact ⟨0, T3, ag1, rfl, rfl, rfl, rfl, by omega, by omega, hf2, hf3, hf4⟩
   rintro mz f7 s ⟨k, T4, ag2, hs7_10, hs7_12, rfl, hn, hg1, hg2, hg3, hg4, hg5⟩
   simp only [Act.putF, List.foldl_cons, List.foldl_nil, hs7_10, hs7_12, Act.put, Act.eval, q1, q2, q3, q4, q5, q6, q7, q8, q9, q10, q11, q12, q13, q14, q15, q16, q17, q18, Nat.reduceAdd, Bool.not_true, Bool.not_false]
   clear hs7_10 hs7_12
   refine wk_seq (wk_seq ?_)
   refine wk_region [0, 0, 0, 0] rfl Kx ?_
   simp only [qy]
   refine rg_move ?_
   simp only [qz]
   refine rf_field (n := 0) (j := 0) rfl rfl rfl Try.underlying24 rfl Kx rfl ?_
   simp only [qz]
   refine rf_load rfl rfl rfl Try.underlying3 rfl (fun w hw => (Kn.hd0 (Kn.tl (Kn.tl (Kn.tl hw)))).at rfl) ?_
   simp only [qz]
   refine rfb_lss rfl rfl rfl rfl ?_
   intro x h8
   cases x
   ·(try simp only [qd, ne_eq] at h8)
    simp only [qz]
    refine rg_nil (ek_next (wk_cond_f rfl (wk_exit (ek_then_exit (ek_then_exit (ek_block_exit (ek_block (ek_next ?_))))))))
    refine wk_region [0, 0, 0] rfl Kx ?_
    simp only [qy]
    refine rg_move ?_
    simp only [qz]
    refine rf_add rfl rfl rfl rfl (wrap_ok Ox Ox) ?_
    simp only [qz]
    refine rg_assign ?_
    simp only [qz]
    refine rg_nil ?_
    refine ek_roundF (N - (i + 1)) Ox Kx ?_
    exact ⟨i + 1, T4, ag2, rfl, rfl, by rfl, by rfl, Ox, hg3, hg4, (Lib.hid (by obtain rfl : N = k := Ox; exact hg5.out.row))⟩
   (try simp only [qd, ne_eq] at h8)
   simp only [qz]
   refine rg_nil (ek_next (wk_cond_t rfl (wk_skip (ek_next (wk_seq (wk_block ?_))))))
   refine wk_cutF [13, 14, 75, 76, 77, 78, 79, 80, 81, 82] (fun f s => ∃ (gx gy : Nat), f 13 = .pointer (some ⟨gx, 0, none⟩) ∧ f 14 = .pointer (some ⟨gy, 0, none⟩) ∧ s = ((gx, .cells #[.int .i64 (nm xs (i * N + k)).a, .int .i64 (nm xs (i * N + k)).b, .int .i64 (nm xs (i * N + k)).c, .int .i64 (nm xs (i * N + k)).d, .int .i64 (nm xs (i * N + k)).k] 29) :: ((gy, .cells #[.int .i64 (nm ys (i * N + k)).a, .int .i64 (nm ys (i * N + k)).b, .int .i64 (nm ys (i * N + k)).c, .int .i64 (nm ys (i * N + k)).d, .int .i64 (nm ys (i * N + k)).k] 29) :: ((gr, .cells (tzC (T4) N).toArray 3) :: ((gc, .cells (tzC (shA N T4) N).toArray 3) :: ((g2, .cells #[.int .i64 N, .slice a' ys.length c'] 24) :: ((g1, .cells #[.int .i64 N, .slice a xs.length c] 24) :: []))))))) ?_ ?_
   ·refine wk_rt _ Kx (sc _ (sc _ (sc _ (sc _ sn)))) ?_
    refine rt_soft (i := 0) rfl Kx (fun c d v a w h => by cases d <;> exact h) (sc _ (sc _ (sc _ (sc _ sn)))) ?_
    refine rf_loadR (n := 2) rfl rfl rfl Try.underlying24 rfl Kx (fun w hw => Kn.hd0 (Kn.tl (Kn.tl (Kn.tl hw)))) rfl rfl ?_
    simp only [qz]
    refine rg_nil ?_
    refine ek_rt (sc _ (sc _ (sc _ (sc _ sn)))) ?_
    refine rt_soft (i := 1) rfl Kx (fun c d v a w h => by cases d <;> exact h) (sc _ (sc _ (sc _ (sc _ sn)))) ?_
    refine rg_move ?_
    simp only [qz]
    refine rg_nil ?_
    refine ek_rt (sc _ (sc _ (sc _ (sc _ sn)))) ?_
    refine rt_soft (i := 2) rfl Kx (fun c d v a w h => by cases d <;> exact h) (sc _ (sc _ (sc _ (sc _ sn)))) ?_
    refine rg_move ?_
    simp only [qz]
    refine rg_nil ?_
    refine ek_rt (sc _ (sc _ (sc _ (sc _ sn)))) ?_
    refine rt_soft (i := 4) rfl Kx (fun c d v a w h => by cases d <;> exact h) (sc _ (sc _ (sc _ (sc _ sn)))) ?_
    refine rf_loadR (n := 2) rfl rfl rfl Try.underlying24 rfl Kx (fun w hw => Kn.hd0 (Kn.tl (Kn.tl hw))) rfl rfl ?_
    simp only [qz]
    refine rg_nil ?_
    refine ek_rt (sc _ (sc _ (sc _ (sc _ sn)))) ?_
    refine rt_soft (i := 5) rfl Kx (fun c d v a w h => by cases d <;> exact h) (sc _ (sc _ (sc _ (sc _ sn)))) ?_
    refine rg_move ?_
    simp only [qz]
    refine rg_nil ?_
    refine ek_rt (sc _ (sc _ (sc _ (sc _ sn)))) ?_
    refine rt_soft (i := 6) rfl Kx (fun c d v a w h => by cases d <;> exact h) (sc _ (sc _ (sc _ (sc _ sn)))) ?_
    refine rg_move ?_
    simp only [qz]
    refine rg_nil ?_
    refine ek_rt (sc _ (sc _ (sc _ (sc _ sn)))) ?_
    refine rt_hard3 (i := 3) (j := 8) (k := 9) Kx rfl rfl rfl ?_ ?_ ?_
    ·apply rg_pure Rx Kx
     case hargs => exact Ax
     case h => exact fun w hw => rAt_any N i k xs a c hlx.out hN Ox Ox w (hA.kn0 hw)
     case hz => exact (fun _ h => by cases h; exact (sc _ (sc _ (sc _ (sc _ sn)))))
     simp only [qz]
     refine rg_nil ?_
     refine ek_rt (sc _ (sc _ (sc _ (sc _ sn)))) ?_
     refine rt_hard3 (i := 7) (j := 8) (k := 9) Kx rfl rfl rfl ?_ ?_ ?_
     ·apply rg_pure Rx Kx
      case hargs => exact Ax
      case h => exact fun w hw => rAt_any N i k ys a' c' hly.out hN Ox Ox w (hB.kn0 hw)
      case hz => exact (fun _ h => by cases h; exact (sc _ (sc _ (sc _ (sc _ sn)))))
      simp only [qz]
      refine rg_nil ?_
      refine ek_rt (sc _ (sc _ (sc _ (sc _ sn)))) ?_
      refine rt_hard2 (i := 8) (j := 9) Kx rfl rfl ?_ ?_
      ·refine rg_new (cs := ?_) (ty := ?_) Rx (fun w => ?_) (fun _ h => by cases h; exact (sc _ (sc _ (sc _ (sc _ sn))))) (fun g7 => ?_); rotate_left 2
       focus (go_simp; rfl)
       simp only [qz]
       refine rg_nil ?_
       refine ek_rt (sk _ (sc _ (sc _ (sc _ (sc _ sn))))) ?_
       refine rt_hard1 (i := 9) Kx rfl ?_
       refine rg_new (cs := ?_) (ty := ?_) Rx (fun w => ?_) (fun _ h => by cases h; exact (sk _ (sc _ (sc _ (sc _ (sc _ sn)))))) (fun g8 => ?_); rotate_left 2
       focus (go_simp; rfl)
       simp only [qz]
       refine rg_nil ?_
       refine ek_rt (sk _ (sk _ (sc _ (sc _ (sc _ (sc _ sn)))))) ?_
       refine rt_hard1 (i := 10) Kx rfl ?_
       refine rf_storeR (n := 5) rfl rfl Kx rfl rfl (UpdR.there _ (UpdR.here _ _ _ Nl)) (fun _ h => by cases h; exact (sk _ (sk _ (sc _ (sc _ (sc _ (sc _ sn))))))) ?_
       simp only [qz, Nat.reduceAdd]
       refine rg_nil ?_
       refine ek_rt (sk _ (sk _ (sc _ (sc _ (sc _ (sc _ sn)))))) ?_
       refine rt_hard1 (i := 11) Kx rfl ?_
       refine rf_storeR (n := 5) rfl rfl Kx rfl rfl (UpdR.here _ _ _ Nl) (fun _ h => by cases h; exact (sk _ (sk _ (sc _ (sc _ (sc _ (sc _ sn))))))) ?_
       simp only [qz, Nat.reduceAdd]
       refine rg_nil ?_
       refine ek_rt (sk _ (sk _ (sc _ (sc _ (sc _ (sc _ sn)))))) ?_
       refine rt_nil Kx ?_
       refine ek_perm (perm_at (l := [_]) (List.Perm.refl _)) ?_
       refine ek_midF Kx ?_
       exact ⟨g7, g8, rfl, rfl, by rfl⟩
      refine rg_new (cs := ?_) (ty := ?_) Rx (fun w => ?_) (fun _ h => by cases h; exact (sc _ (sc _ (sc _ (sc _ sn))))) (fun g9 => ?_); rotate_left 2
      focus (go_simp; rfl)
      simp only [qz]
      refine rg_nil ?_
      refine ek_rt (sk _ (sc _ (sc _ (sc _ (sc _ sn))))) ?_
      refine rt_hard1 (i := 8) Kx rfl ?_
      refine rg_new (cs := ?_) (ty := ?_) Rx (fun w => ?_) (fun _ h => by cases h; exact (sk _ (sc _ (sc _ (sc _ (sc _ sn)))))) (fun g10 => ?_); rotate_left 2
      focus (go_simp; rfl)
      simp only [qz]
      refine rg_nil ?_
      refine ek_rt (sk _ (sk _ (sc _ (sc _ (sc _ (sc _ sn)))))) ?_
      refine rt_hard1 (i := 10) Kx rfl ?_
      refine rf_storeR (n := 5) rfl rfl Kx rfl rfl (UpdR.here _ _ _ Nl) (fun _ h => by cases h; exact (sk _ (sk _ (sc _ (sc _ (sc _ (sc _ sn))))))) ?_
      simp only [qz, Nat.reduceAdd]
      refine rg_nil ?_
      refine ek_rt (sk _ (sk _ (sc _ (sc _ (sc _ (sc _ sn)))))) ?_
      refine rt_hard1 (i := 11) Kx rfl ?_
      refine rf_storeR (n := 5) rfl rfl Kx rfl rfl (UpdR.there _ (UpdR.here _ _ _ Nl)) (fun _ h => by cases h; exact (sk _ (sk _ (sc _ (sc _ (sc _ (sc _ sn))))))) ?_
      simp only [qz, Nat.reduceAdd]
      refine rg_nil ?_
      refine ek_rt (sk _ (sk _ (sc _ (sc _ (sc _ (sc _ sn)))))) ?_
      refine rt_nil Kx ?_
      refine ek_midF Kx ?_
      exact ⟨g10, g9, rfl, rfl, by rfl⟩
     ·refine rg_new (cs := ?_) (ty := ?_) Rx (fun w => ?_) (fun _ h => by cases h; exact (sc _ (sc _ (sc _ (sc _ sn))))) (fun g11 => ?_); rotate_left 2
      focus (go_simp; rfl)
      simp only [qz]
      refine rg_nil ?_
      refine ek_rt (sk _ (sc _ (sc _ (sc _ (sc _ sn))))) ?_
      refine rt_hard2 (i := 7) (j := 9) Kx rfl rfl ?_ ?_
      ·apply rg_pure Rx Kx
       case hargs => exact Ax
       case h => exact fun w hw => rAt_any N i k ys a' c' hly.out hN Ox Ox w (hB.kn0 hw)
       case hz => exact (fun _ h => by cases h; exact (sk _ (sc _ (sc _ (sc _ (sc _ sn))))))
       simp only [qz]
       refine rg_nil ?_
       refine ek_rt (sk _ (sc _ (sc _ (sc _ (sc _ sn))))) ?_
       refine rt_hard1 (i := 9) Kx rfl ?_
       refine rg_new (cs := ?_) (ty := ?_) Rx (fun w => ?_) (fun _ h => by cases h; exact (sk _ (sc _ (sc _ (sc _ (sc _ sn)))))) (fun g12 => ?_); rotate_left 2
       focus (go_simp; rfl)
       simp only [qz]
       refine rg_nil ?_
       refine ek_rt (sk _ (sk _ (sc _ (sc _ (sc _ (sc _ sn)))))) ?_
       refine rt_hard1 (i := 10) Kx rfl ?_
       refine rf_storeR (n := 5) rfl rfl Kx rfl rfl (UpdR.there _ (UpdR.here _ _ _ Nl)) (fun _ h => by cases h; exact (sk _ (sk _ (sc _ (sc _ (sc _ (sc _ sn))))))) ?_
       simp only [qz, Nat.reduceAdd]
       refine rg_nil ?_
       refine ek_rt (sk _ (sk _ (sc _ (sc _ (sc _ (sc _ sn)))))) ?_
       refine rt_hard1 (i := 11) Kx rfl ?_
       refine rf_storeR (n := 5) rfl rfl Kx rfl rfl (UpdR.here _ _ _ Nl) (fun _ h => by cases h; exact (sk _ (sk _ (sc _ (sc _ (sc _ (sc _ sn))))))) ?_
       simp only [qz, Nat.reduceAdd]
       refine rg_nil ?_
       refine ek_rt (sk _ (sk _ (sc _ (sc _ (sc _ (sc _ sn)))))) ?_
       refine rt_nil Kx ?_
       refine ek_perm (perm_at (l := [_]) (List.Perm.refl _)) ?_
       refine ek_midF Kx ?_
       exact ⟨g11, g12, rfl, rfl, by rfl⟩
      refine rg_new (cs := ?_) (ty := ?_) Rx (fun w => ?_) (fun _ h => by cases h; exact (sk _ (sc _ (sc _ (sc _ (sc _ sn)))))) (fun g13 => ?_); rotate_left 2
      focus (go_simp; rfl)
      simp only [qz]
      refine rg_nil ?_
      refine ek_rt (sk _ (sk _ (sc _ (sc _ (sc _ (sc _ sn)))))) ?_
      refine rt_hard1 (i := 7) Kx rfl ?_
      apply rg_pure Rx Kx
      case hargs => exact Ax
      case h => exact fun w hw => rAt_any N i k ys a' c' hly.out hN Ox Ox w (hB.kn0 hw)
      case hz => exact (fun _ h => by cases h; exact (sk _ (sk _ (sc _ (sc _ (sc _ (sc _ sn)))))))
      simp only [qz]
      refine rg_nil ?_
      refine ek_rt (sk _ (sk _ (sc _ (sc _ (sc _ (sc _ sn)))))) ?_
      refine rt_hard1 (i := 10) Kx rfl ?_
      refine rf_storeR (n := 5) rfl rfl Kx rfl rfl (UpdR.there _ (UpdR.here _ _ _ Nl)) (fun _ h => by cases h; exact (sk _ (sk _ (sc _ (sc _ (sc _ (sc _ sn))))))) ?_
      simp only [qz, Nat.reduceAdd]
      refine rg_nil ?_
      refine ek_rt (sk _ (sk _ (sc _ (sc _ (sc _ (sc _ sn)))))) ?_
      refine rt_hard1 (i := 11) Kx rfl ?_
      refine rf_storeR (n := 5) rfl rfl Kx rfl rfl (UpdR.here _ _ _ Nl) (fun _ h => by cases h; exact (sk _ (sk _ (sc _ (sc _ (sc _ (sc _ sn))))))) ?_
      simp only [qz, Nat.reduceAdd]
      refine rg_nil ?_
      refine ek_rt (sk _ (sk _ (sc _ (sc _ (sc _ (sc _ sn)))))) ?_
      refine rt_nil Kx ?_
      refine ek_perm (perm_at (l := [_]) (List.Perm.refl _)) ?_
      refine ek_midF Kx ?_
      exact ⟨g11, g13, rfl, rfl, by rfl⟩
     refine rg_new (cs := ?_) (ty := ?_) Rx (fun w => ?_) (fun _ h => by cases h; exact (sc _ (sc _ (sc _ (sc _ sn))))) (fun g14 => ?_); rotate_left 2
     focus (go_simp; rfl)
     simp only [qz]
     refine rg_nil ?_
     refine ek_rt (sk _ (sc _ (sc _ (sc _ (sc _ sn))))) ?_
     refine rt_hard2 (i := 7) (j := 8) Kx rfl rfl ?_ ?_
     ·apply rg_pure Rx Kx
      case hargs => exact Ax
      case h => exact fun w hw => rAt_any N i k ys a' c' hly.out hN Ox Ox w (hB.kn0 hw)
      case hz => exact (fun _ h => by cases h; exact (sk _ (sc _ (sc _ (sc _ (sc _ sn))))))
      simp only [qz]
      refine rg_nil ?_
      refine ek_rt (sk _ (sc _ (sc _ (sc _ (sc _ sn))))) ?_
      refine rt_hard1 (i := 8) Kx rfl ?_
      refine rg_new (cs := ?_) (ty := ?_) Rx (fun w => ?_) (fun _ h => by cases h; exact (sk _ (sc _ (sc _ (sc _ (sc _ sn)))))) (fun g15 => ?_); rotate_left 2
      focus (go_simp; rfl)
      simp only [qz]
      refine rg_nil ?_
      refine ek_rt (sk _ (sk _ (sc _ (sc _ (sc _ (sc _ sn)))))) ?_
      refine rt_hard1 (i := 10) Kx rfl ?_
      refine rf_storeR (n := 5) rfl rfl Kx rfl rfl (UpdR.here _ _ _ Nl) (fun _ h => by cases h; exact (sk _ (sk _ (sc _ (sc _ (sc _ (sc _ sn))))))) ?_
      simp only [qz, Nat.reduceAdd]
      refine rg_nil ?_
      refine ek_rt (sk _ (sk _ (sc _ (sc _ (sc _ (sc _ sn)))))) ?_
      refine rt_hard1 (i := 11) Kx rfl ?_
      refine rf_storeR (n := 5) rfl rfl Kx rfl rfl (UpdR.there _ (UpdR.here _ _ _ Nl)) (fun _ h => by cases h; exact (sk _ (sk _ (sc _ (sc _ (sc _ (sc _ sn))))))) ?_
      simp only [qz, Nat.reduceAdd]
      refine rg_nil ?_
      refine ek_rt (sk _ (sk _ (sc _ (sc _ (sc _ (sc _ sn)))))) ?_
      refine rt_nil Kx ?_
      refine ek_midF Kx ?_
      exact ⟨g15, g14, rfl, rfl, by rfl⟩
     refine rg_new (cs := ?_) (ty := ?_) Rx (fun w => ?_) (fun _ h => by cases h; exact (sk _ (sc _ (sc _ (sc _ (sc _ sn)))))) (fun g16 => ?_); rotate_left 2
     focus (go_simp; rfl)
     simp only [qz]
     refine rg_nil ?_
     refine ek_rt (sk _ (sk _ (sc _ (sc _ (sc _ (sc _ sn)))))) ?_
     refine rt_hard1 (i := 7) Kx rfl ?_
     apply rg_pure Rx Kx
     case hargs => exact Ax
     case h => exact fun w hw => rAt_any N i k ys a' c' hly.out hN Ox Ox w (hB.kn0 hw)
     case hz => exact (fun _ h => by cases h; exact (sk _ (sk _ (sc _ (sc _ (sc _ (sc _ sn)))))))
     simp only [qz]
     refine rg_nil ?_
     refine ek_rt (sk _ (sk _ (sc _ (sc _ (sc _ (sc _ sn)))))) ?_
     refine rt_hard1 (i := 10) Kx rfl ?_
     refine rf_storeR (n := 5) rfl rfl Kx rfl rfl (UpdR.here _ _ _ Nl) (fun _ h => by cases h; exact (sk _ (sk _ (sc _ (sc _ (sc _ (sc _ sn))))))) ?_
     simp only [qz, Nat.reduceAdd]
     refine rg_nil ?_
     refine ek_rt (sk _ (sk _ (sc _ (sc _ (sc _ (sc _ sn)))))) ?_
     refine rt_hard1 (i := 11) Kx rfl ?_
     refine rf_storeR (n := 5) rfl rfl Kx rfl rfl (UpdR.there _ (UpdR.here _ _ _ Nl)) (fun _ h => by cases h; exact (sk _ (sk _ (sc _ (sc _ (sc _ (sc _ sn))))))) ?_
     simp only [qz, Nat.reduceAdd]
     refine rg_nil ?_
     refine ek_rt (sk _ (sk _ (sc _ (sc _ (sc _ (sc _ sn)))))) ?_
     refine rt_nil Kx ?_
     refine ek_midF Kx ?_
     exact ⟨g16, g14, rfl, rfl, by rfl⟩
    ·refine rg_new (cs := ?_) (ty := ?_) Rx (fun w => ?_) (fun _ h => by cases h; exact (sc _ (sc _ (sc _ (sc _ sn))))) (fun g17 => ?_); rotate_left 2
     focus (go_simp; rfl)
     simp only [qz]
     refine rg_nil ?_
     refine ek_rt (sk _ (sc _ (sc _ (sc _ (sc _ sn))))) ?_
     refine rt_hard2 (i := 3) (j := 9) Kx rfl rfl ?_ ?_
     ·apply rg_pure Rx Kx
      case hargs => exact Ax
      case h => exact fun w hw => rAt_any N i k xs a c hlx.out hN Ox Ox w (hA.kn0 hw)
      case hz => exact (fun _ h => by cases h; exact (sk _ (sc _ (sc _ (sc _ (sc _ sn))))))
      simp only [qz]
      refine rg_nil ?_
      refine ek_rt (sk _ (sc _ (sc _ (sc _ (sc _ sn))))) ?_
      refine rt_hard2 (i := 7) (j := 9) Kx rfl rfl ?_ ?_
      ·apply rg_pure Rx Kx
       case hargs => exact Ax
       case h => exact fun w hw => rAt_any N i k ys a' c' hly.out hN Ox Ox w (hB.kn0 hw)
       case hz => exact (fun _ h => by cases h; exact (sk _ (sc _ (sc _ (sc _ (sc _ sn))))))
       simp only [qz]
       refine rg_nil ?_
       refine ek_rt (sk _ (sc _ (sc _ (sc _ (sc _ sn))))) ?_
       refine rt_hard1 (i := 9) Kx rfl ?_
       refine rg_new (cs := ?_) (ty := ?_) Rx (fun w => ?_) (fun _ h => by cases h; exact (sk _ (sc _ (sc _ (sc _ (sc _ sn)))))) (fun g18 => ?_); rotate_left 2
       focus (go_simp; rfl)
       simp only [qz]
       refine rg_nil ?_
       refine ek_rt (sk _ (sk _ (sc _ (sc _ (sc _ (sc _ sn)))))) ?_
       refine rt_hard1 (i := 10) Kx rfl ?_
       refine rf_storeR (n := 5) rfl rfl Kx rfl rfl (UpdR.there _ (UpdR.here _ _ _ Nl)) (fun _ h => by cases h; exact (sk _ (sk _ (sc _ (sc _ (sc _ (sc _ sn))))))) ?_
       simp only [qz, Nat.reduceAdd]
       refine rg_nil ?_
       refine ek_rt (sk _ (sk _ (sc _ (sc _ (sc _ (sc _ sn)))))) ?_
       refine rt_hard1 (i := 11) Kx rfl ?_
       refine rf_storeR (n := 5) rfl rfl Kx rfl rfl (UpdR.here _ _ _ Nl) (fun _ h => by cases h; exact (sk _ (sk _ (sc _ (sc _ (sc _ (sc _ sn))))))) ?_
       simp only [qz, Nat.reduceAdd]
       refine rg_nil ?_
       refine ek_rt (sk _ (sk _ (sc _ (sc _ (sc _ (sc _ sn)))))) ?_
       refine rt_nil Kx ?_
       refine ek_perm (perm_at (l := [_]) (List.Perm.refl _)) ?_
       refine ek_midF Kx ?_
       exact ⟨g17, g18, rfl, rfl, by rfl⟩
      refine rg_new (cs := ?_) (ty := ?_) Rx (fun w => ?_) (fun _ h => by cases h; exact (sk _ (sc _ (sc _ (sc _ (sc _ sn)))))) (fun g19 => ?_); rotate_left 2
      focus (go_simp; rfl)
      simp only [qz]
      refine rg_nil ?_
      refine ek_rt (sk _ (sk _ (sc _ (sc _ (sc _ (sc _ sn)))))) ?_
      refine rt_hard1 (i := 7) Kx rfl ?_
      apply rg_pure Rx Kx
      case hargs => exact Ax
      case h => exact fun w hw => rAt_any N i k ys a' c' hly.out hN Ox Ox w (hB.kn0 hw)
      case hz => exact (fun _ h => by cases h; exact (sk _ (sk _ (sc _ (sc _ (sc _ (sc _ sn)))))))
      simp only [qz]
      refine rg_nil ?_
      refine ek_rt (sk _ (sk _ (sc _ (sc _ (sc _ (sc _ sn)))))) ?_
      refine rt_hard1 (i := 10) Kx rfl ?_
      refine rf_storeR (n := 5) rfl rfl Kx rfl rfl (UpdR.there _ (UpdR.here _ _ _ Nl)) (fun _ h => by cases h; exact (sk _ (sk _ (sc _ (sc _ (sc _ (sc _ sn))))))) ?_
      simp only [qz, Nat.reduceAdd]
      refine rg_nil ?_
      refine ek_rt (sk _ (sk _ (sc _ (sc _ (sc _ (sc _ sn)))))) ?_
      refine rt_hard1 (i := 11) Kx rfl ?_
      refine rf_storeR (n := 5) rfl rfl Kx rfl rfl (UpdR.here _ _ _ Nl) (fun _ h => by cases h; exact (sk _ (sk _ (sc _ (sc _ (sc _ (sc _ sn))))))) ?_
      simp only [qz, Nat.reduceAdd]
      refine rg_nil ?_
      refine ek_rt (sk _ (sk _ (sc _ (sc _ (sc _ (sc _ sn)))))) ?_
      refine rt_nil Kx ?_
      refine ek_perm (perm_at (l := [_]) (List.Perm.refl _)) ?_
      refine ek_midF Kx ?_
      exact ⟨g17, g19, rfl, rfl, by rfl⟩
     refine rg_new (cs := ?_) (ty := ?_) Rx (fun w => ?_) (fun _ h => by cases h; exact (sk _ (sc _ (sc _ (sc _ (sc _ sn)))))) (fun g20 => ?_); rotate_left 2
     focus (go_simp; rfl)
     simp only [qz]
     refine rg_nil ?_
     refine ek_rt (sk _ (sk _ (sc _ (sc _ (sc _ (sc _ sn)))))) ?_
     refine rt_hard1 (i := 3) Kx rfl ?_
     apply rg_pure Rx Kx
     case hargs => exact Ax
     case h => exact fun w hw => rAt_any N i k xs a c hlx.out hN Ox Ox w (hA.kn0 hw)
     case hz => exact (fun _ h => by cases h; exact (sk _ (sk _ (sc _ (sc _ (sc _ (sc _ sn)))))))
     simp only [qz]
     refine rg_nil ?_
     refine ek_rt (sk _ (sk _ (sc _ (sc _ (sc _ (sc _ sn)))))) ?_
     refine rt_hard1 (i := 7) Kx rfl ?_
     apply rg_pure Rx Kx
     case hargs => exact Ax
     case h => exact fun w hw => rAt_any N i k ys a' c' hly.out hN Ox Ox w (hB.kn0 hw)
     case hz => exact (fun _ h => by cases h; exact (sk _ (sk _ (sc _ (sc _ (sc _ (sc _ sn)))))))
     simp only [qz]
     refine rg_nil ?_
     refine ek_rt (sk _ (sk _ (sc _ (sc _ (sc _ (sc _ sn)))))) ?_
     refine rt_hard1 (i := 10) Kx rfl ?_
     refine rf_storeR (n := 5) rfl rfl Kx rfl rfl (UpdR.there _ (UpdR.here _ _ _ Nl)) (fun _ h => by cases h; exact (sk _ (sk _ (sc _ (sc _ (sc _ (sc _ sn))))))) ?_
     simp only [qz, Nat.reduceAdd]
     refine rg_nil ?_
     refine ek_rt (sk _ (sk _ (sc _ (sc _ (sc _ (sc _ sn)))))) ?_
     refine rt_hard1 (i := 11) Kx rfl ?_
     refine rf_storeR (n := 5) rfl rfl Kx rfl rfl (UpdR.here _ _ _ Nl) (fun _ h => by cases h; exact (sk _ (sk _ (sc _ (sc _ (sc _ (sc _ sn))))))) ?_
     simp only [qz, Nat.reduceAdd]
     refine rg_nil ?_
     refine ek_rt (sk _ (sk _ (sc _ (sc _ (sc _ (sc _ sn)))))) ?_
     refine rt_nil Kx ?_
     refine ek_perm (perm_at (l := [_]) (List.Perm.refl _)) ?_
     refine ek_midF Kx ?_
     exact ⟨g17, g20, rfl, rfl, by rfl⟩
    refine rg_new (cs := ?_) (ty := ?_) Rx (fun w => ?_) (fun _ h => by cases h; exact (sc _ (sc _ (sc _ (sc _ sn))))) (fun g21 => ?_); rotate_left 2
    focus (go_simp; rfl)
    simp only [qz]
    refine rg_nil ?_
    refine ek_rt (sk _ (sc _ (sc _ (sc _ (sc _ sn))))) ?_
    refine rt_hard2 (i := 3) (j := 8) Kx rfl rfl ?_ ?_
    ·apply rg_pure Rx Kx
     case hargs => exact Ax
     case h => exact fun w hw => rAt_any N i k xs a c hlx.out hN Ox Ox w (hA.kn0 hw)
     case hz => exact (fun _ h => by cases h; exact (sk _ (sc _ (sc _ (sc _ (sc _ sn))))))
     simp only [qz]
     refine rg_nil ?_
     refine ek_rt (sk _ (sc _ (sc _ (sc _ (sc _ sn))))) ?_
     refine rt_hard2 (i := 7) (j := 8) Kx rfl rfl ?_ ?_
     ·apply rg_pure Rx Kx
      case hargs => exact Ax
      case h => exact fun w hw => rAt_any N i k ys a' c' hly.out hN Ox Ox w (hB.kn0 hw)
      case hz => exact (fun _ h => by cases h; exact (sk _ (sc _ (sc _ (sc _ (sc _ sn))))))
      simp only [qz]
      refine rg_nil ?_
      refine ek_rt (sk _ (sc _ (sc _ (sc _ (sc _ sn))))) ?_
      refine rt_hard1 (i := 8) Kx rfl ?_
      refine rg_new (cs := ?_) (ty := ?_) Rx (fun w => ?_) (fun _ h => by cases h; exact (sk _ (sc _ (sc _ (sc _ (sc _ sn)))))) (fun g22 => ?_); rotate_left 2
      focus (go_simp; rfl)
      simp only [qz]
      refine rg_nil ?_
      refine ek_rt (sk _ (sk _ (sc _ (sc _ (sc _ (sc _ sn)))))) ?_
      refine rt_hard1 (i := 10) Kx rfl ?_
      refine rf_storeR (n := 5) rfl rfl Kx rfl rfl (UpdR.here _ _ _ Nl) (fun _ h => by cases h; exact (sk _ (sk _ (sc _ (sc _ (sc _ (sc _ sn))))))) ?_
      simp only [qz, Nat.reduceAdd]
      refine rg_nil ?_
      refine ek_rt (sk _ (sk _ (sc _ (sc _ (sc _ (sc _ sn)))))) ?_
      refine rt_hard1 (i := 11) Kx rfl ?_
      refine rf_storeR (n := 5) rfl rfl Kx rfl rfl (UpdR.there _ (UpdR.here _ _ _ Nl)) (fun _ h => by cases h; exact (sk _ (sk _ (sc _ (sc _ (sc _ (sc _ sn))))))) ?_
      simp only [qz, Nat.reduceAdd]
      refine rg_nil ?_
      refine ek_rt (sk _ (sk _ (sc _ (sc _ (sc _ (sc _ sn)))))) ?_
      refine rt_nil Kx ?_
      refine ek_midF Kx ?_
      exact ⟨g22, g21, rfl, rfl, by rfl⟩
     refine rg_new (cs := ?_) (ty := ?_) Rx (fun w => ?_) (fun _ h => by cases h; exact (sk _ (sc _ (sc _ (sc _ (sc _ sn)))))) (fun g23 => ?_); rotate_left 2
     focus (go_simp; rfl)
     simp only [qz]
     refine rg_nil ?_
     refine ek_rt (sk _ (sk _ (sc _ (sc _ (sc _ (sc _ sn)))))) ?_
     refine rt_hard1 (i := 7) Kx rfl ?_
     apply rg_pure Rx Kx
     case hargs => exact Ax
     case h => exact fun w hw => rAt_any N i k ys a' c' hly.out hN Ox Ox w (hB.kn0 hw)
     case hz => exact (fun _ h => by cases h; exact (sk _ (sk _ (sc _ (sc _ (sc _ (sc _ sn)))))))
     simp only [qz]
     refine rg_nil ?_
     refine ek_rt (sk _ (sk _ (sc _ (sc _ (sc _ (sc _ sn)))))) ?_
     refine rt_hard1 (i := 10) Kx rfl ?_
     refine rf_storeR (n := 5) rfl rfl Kx rfl rfl (UpdR.here _ _ _ Nl) (fun _ h => by cases h; exact (sk _ (sk _ (sc _ (sc _ (sc _ (sc _ sn))))))) ?_
     simp only [qz, Nat.reduceAdd]
     refine rg_nil ?_
     refine ek_rt (sk _ (sk _ (sc _ (sc _ (sc _ (sc _ sn)))))) ?_
     refine rt_hard1 (i := 11) Kx rfl ?_
     refine rf_storeR (n := 5) rfl rfl Kx rfl rfl (UpdR.there _ (UpdR.here _ _ _ Nl)) (fun _ h => by cases h; exact (sk _ (sk _ (sc _ (sc _ (sc _ (sc _ sn))))))) ?_
     simp only [qz, Nat.reduceAdd]
     refine rg_nil ?_
     refine ek_rt (sk _ (sk _ (sc _ (sc _ (sc _ (sc _ sn)))))) ?_
     refine rt_nil Kx ?_
     refine ek_midF Kx ?_
     exact ⟨g23, g21, rfl, rfl, by rfl⟩
    refine rg_new (cs := ?_) (ty := ?_) Rx (fun w => ?_) (fun _ h => by cases h; exact (sk _ (sc _ (sc _ (sc _ (sc _ sn)))))) (fun g24 => ?_); rotate_left 2
    focus (go_simp; rfl)
    simp only [qz]
    refine rg_nil ?_
    refine ek_rt (sk _ (sk _ (sc _ (sc _ (sc _ (sc _ sn)))))) ?_
    refine rt_hard1 (i := 3) Kx rfl ?_
    apply rg_pure Rx Kx
    case hargs => exact Ax
    case h => exact fun w hw => rAt_any N i k xs a c hlx.out hN Ox Ox w (hA.kn0 hw)
    case hz => exact (fun _ h => by cases h; exact (sk _ (sk _ (sc _ (sc _ (sc _ (sc _ sn)))))))
    simp only [qz]
    refine rg_nil ?_
    refine ek_rt (sk _ (sk _ (sc _ (sc _ (sc _ (sc _ sn)))))) ?_
    refine rt_hard1 (i := 7) Kx rfl ?_
    apply rg_pure Rx Kx
    case hargs => exact Ax
    case h => exact fun w hw => rAt_any N i k ys a' c' hly.out hN Ox Ox w (hB.kn0 hw)
    case hz => exact (fun _ h => by cases h; exact (sk _ (sk _ (sc _ (sc _ (sc _ (sc _ sn)))))))
    simp only [qz]
    refine rg_nil ?_
    refine ek_rt (sk _ (sk _ (sc _ (sc _ (sc _ (sc _ sn)))))) ?_
    refine rt_hard1 (i := 10) Kx rfl ?_
    refine rf_storeR (n := 5) rfl rfl Kx rfl rfl (UpdR.here _ _ _ Nl) (fun _ h => by cases h; exact (sk _ (sk _ (sc _ (sc _ (sc _ (sc _ sn))))))) ?_
    simp only [qz, Nat.reduceAdd]
    refine rg_nil ?_
    refine ek_rt (sk _ (sk _ (sc _ (sc _ (sc _ (sc _ sn)))))) ?_
    refine rt_hard1 (i := 11) Kx rfl ?_
    refine rf_storeR (n := 5) rfl rfl Kx rfl rfl (UpdR.there _ (UpdR.here _ _ _ Nl)) (fun _ h => by cases h; exact (sk _ (sk _ (sc _ (sc _ (sc _ (sc _ sn))))))) ?_
    simp only [qz, Nat.reduceAdd]
    refine rg_nil ?_
    refine ek_rt (sk _ (sk _ (sc _ (sc _ (sc _ (sc _ sn)))))) ?_
    refine rt_nil Kx ?_
    refine ek_midF Kx ?_
    exact ⟨g24, g21, rfl, rfl, by rfl⟩
   rintro f8 s ⟨gx, gy, hs8_13, hs8_14, rfl⟩
   simp only [Act.putF, List.foldl_cons, List.foldl_nil, hs8_13, hs8_14, Act.put, Act.eval, q1, q2, q3, q4, q5, q6, q7, q8, q9, q10, q11, q12, q13, q14, q15, q16, q17, q18, Nat.reduceAdd, Bool.not_true, Bool.not_false]
   clear hs8_13 hs8_14
   refine wk_seq (wk_seq ?_)
   refine wk_region [0, 0, 0, 0, 0, 0, 0, 0, 0, 0, 0, 0, 0, 0, 0, 0, 0, 0, 0, 0, 0, 0] rfl Kx ?_
   simp only [qy]
   refine rf_loadR (n := 5) rfl rfl rfl Try.underlying29 rfl Kx (fun w hw => Kn.hd0 hw) rfl rfl ?_
   simp only [qz]
   refine rf_build (cs := fun a => #[.int .i64 0, .int .i64 0, .int .i64 0, .int .i64 0, .int .i64 0]) rfl rfl Kx ?_
   simp only [qz]
   refine rfb_eqN (nm xs (i * N + k)) (Nm.zero) rfl rfl rfl rfl ?_
   intro x h9
   cases x
   ·(try simp only [qd, ne_eq] at h9)
    simp only [qz]
    refine rg_move ?_
    simp only [qz]
    refine rg_skip Rx ?_
    simp only [qz]
    refine rg_skip Rx ?_
    simp only [qz]
    refine rg_skip Rx ?_
    simp only [qz]
    refine rf_pick rfl rfl rfl ?_
    simp only [qz]
    refine rg_move ?_
    simp only [qz]
    apply rg_soft_g
    case hg => rfl
    case hy => (intro w hw; go_simp; (try go_bits); exact Yld.mk _ _)
    simp only [qz]
    apply rg_soft_g
    case hg => rfl
    case hy => (intro w hw; go_simp; (try go_bits); exact Yld.mk _ _)
    simp only [qz]
    refine rf_indexS (n := i) (sz := 1) (j := i) rfl rfl rfl rfl Try.underlying37 Kx Ox Ox Ox ?_
    simp only [qz]
    refine rf_load (v := .int .i64 (T4 i)) rfl rfl rfl Try.underlying3 rfl (fun w hw => tz_cell (Kn.hd0 (Kn.tl (Kn.tl hw))) (i := i) Ox) ?_
    simp only [qz]
    refine rfb_lss rfl rfl rfl rfl ?_
    intro x h10
    cases x
    ·(try simp only [qd, ne_eq] at h10)
     simp only [qz]
     apply rg_soft_g
     case hg => rfl
     case hy => (intro w hw; go_simp; (try go_bits); exact Yld.mk _ _)
     simp only [qz]
     refine rg_skip Rx ?_
     simp only [qz]
     refine rg_skip Rx ?_
     simp only [qz]
     refine rg_skip Rx ?_
     simp only [qz]
     refine rg_skip Rx ?_
     simp only [qz]
     refine rg_skip Rx ?_
     simp only [qz]
     refine rf_pick rfl rfl rfl ?_
     simp only [qz]
     refine rf_pick rfl rfl rfl ?_
     simp only [qz]
     refine rg_nil (ek_next (wk_cond_f rfl (wk_skip (ek_next (wk_seq ?_)))))
     have hnz : NotZ (nm xs (i * N + k)) (nm ys (i * N + k)) := (fun h => h9 h.1)
     refine wk_region [0] rfl Kx ?_
     simp only [qy]
     refine rg_assign ?_
     simp only [qz]
     refine rg_nil (ek_next (wk_seq (wk_seq ?_)))
     refine wk_region [0] rfl Kx ?_
     simp only [qy]
     refine rg_assign ?_
     simp only [qz]
     refine rg_nil (ek_next (wk_block ?_))
     refine wk_loopF [15, 16, 105, 106, 107, 108, 109, 110, 111, 112, 113, 114, 115, 116, 117, 118, 119] (fun mz f s => ∃ (t : Nat) (v : Int), f 15 = .int .i64 v ∧ f 16 = .int .i64 t ∧ s = ((gx, .cells #[.int .i64 (nm xs (i * N + k)).a, .int .i64 (nm xs (i * N + k)).b, .int .i64 (nm xs (i * N + k)).c, .int .i64 (nm xs (i * N + k)).d, .int .i64 (nm xs (i * N + k)).k] 29) :: ((gy, .cells #[.int .i64 (nm ys (i * N + k)).a, .int .i64 (nm ys (i * N + k)).b, .int .i64 (nm ys (i * N + k)).c, .int .i64 (nm ys (i * N + k)).d, .int .i64 (nm ys (i * N + k)).k] 29) :: ((gr, .cells (tzC (T4) N).toArray 3) :: ((gc, .cells (tzC (shA N T4) N).toArray 3) :: ((g2, .cells #[.int .i64 N, .slice a' ys.length c'] 24) :: ((g1, .cells #[.int .i64 N, .slice a xs.length c] 24) :: [])))))) ∧ mz = 8 - t ∧ t ≤ 8 ∧ Hid (btI (btK (nm xs (i * N + k)) (nm ys (i * N + k)) t) = v)) ((fun (t : Nat) (v : Int) => 8 - t) (0) ((-1))) ?_ Kx ?_
     ·exact ⟨0, (-1), rfl, rfl, rfl, rfl, by omega, (Lib.hid rfl)⟩
     rintro mz f9 s ⟨t, v, hs9_15, hs9_16, rfl, hn, hk1, hk2⟩
     simp only [Act.putF, List.foldl_cons, List.foldl_nil, hs9_15, hs9_16, Act.put, Act.eval, q1, q2, q3, q4, q5, q6, q7, q8, q9, q10, q11, q12, q13, q14, q15, q16, q17, q18, Nat.reduceAdd, Bool.not_true, Bool.not_false]
     clear hs9_15 hs9_16
     refine wk_seq (wk_seq ?_)
     refine wk_region [0, 0] rfl Kx ?_
     simp only [qy]
     refine rg_move ?_
     simp only [qz]
     refine rfb_lss rfl rfl rfl rfl ?_
     intro x h11
     cases x
     ·(try simp only [qd, ne_eq] at h11)
      simp only [qz]
      refine rg_nil (ek_next (wk_cond_f rfl (wk_exit (ek_then_exit (ek_then_exit (ek_block_exit (ek_next (wk_seq (wk_seq ?_)))))))))
      obtain rfl : t = 8 := by omega
      refine wk_region [0, 0] rfl Kx ?_
      simp only [qy]
      refine rg_move ?_
      simp only [qz]
      refine rfb_lss rfl rfl rfl rfl ?_
      intro x h12
      cases x
      ·(try simp only [qd, ne_eq] at h12)
       simp only [qz]
       obtain ⟨et, hbw, rfl⟩ := btI_some hk2.out Ox
       have hes := edM_some (N := N) (xs := xs) (ys := ys) (i := i) (k := k) hnz
       rw [show btw (nm xs (i * N + k)) (nm ys (i * N + k)) = some et from hbw] at hes
       have het := btw_lt (show btw (nm xs (i * N + k)) (nm ys (i * N + k)) = some et from hbw)
       have hr1 := hg3.rng i Ox
       have hr2 := hg3.rng (N + k) Ox
       refine rg_nil (ek_next (wk_cond_f rfl (wk_skip (ek_next (wk_block (wk_seq ?_))))))
       refine wk_region [0, 0, 0, 0, 0, 0] rfl Kx ?_
       simp only [qy]
       refine rg_move ?_
       simp only [qz]
       refine rg_move ?_
       simp only [qz]
       refine rf_indexS (n := i) (sz := 1) (j := i) rfl rfl rfl rfl Try.underlying37 Kx Ox Ox Ox ?_
       simp only [qz]
       refine rf_load (v := .int .i64 (T4 i)) rfl rfl rfl Try.underlying3 rfl (fun w hw => tz_cell (Kn.hd0 (Kn.tl (Kn.tl hw))) (i := i) Ox) ?_
       simp only [qz]
       refine rfb_lss rfl rfl rfl rfl ?_
       intro x h13
       cases x
       ·(try simp only [qd, ne_eq] at h13)
        simp only [qz]
        refine rg_assign ?_
        simp only [qz]
        refine rg_nil (ek_next (wk_cond_f rfl (wk_seq ?_)))
        refine wk_region [0, 0, 0, 0, 0, 0] rfl Kx ?_
        simp only [qy]
        refine rg_move ?_
        simp only [qz]
        refine rg_move ?_
        simp only [qz]
        refine rf_indexS (n := k) (sz := 1) (j := k) rfl rfl rfl rfl Try.underlying37 Kx Ox Ox Ox ?_
        simp only [qz]
        refine rf_load (v := .int .i64 (T4 (N + k))) rfl rfl rfl Try.underlying3 rfl (fun w hw => tz_cell (Kn.hd0 (Kn.tl (Kn.tl (Kn.tl hw)))) (i := k) Ox) ?_
        simp only [qz]
        refine rfb_lss rfl rfl rfl rfl ?_
        intro x h14
        cases x
        ·(try simp only [qd, ne_eq] at h14)
         simp only [qz]
         refine rg_assign ?_
         simp only [qz]
         refine rg_nil (ek_next (wk_cond_f rfl (wk_seq ?_)))
         refine wk_draws _ _ [(0, 0), (1, 0), (2, 0), (3, 0), (4, 0), (5, 0), (6, 0), (7, 0), (8, 0), (9, 0), (10, 0), (11, 0), (12, 0)] [] Kx Kx (fun c d v a w h => by cases d <;> exact h) ((sc _ (sc _ (sc _ (sc _ (sc _ (sc _ sn))))))) (fun e => by first | exact absurd e (by decide) | rfl) ?_
         simp only [List.map_cons, List.map_nil, List.getD_cons_zero, List.getD_cons_succ]
         refine rg_move ?_
         simp only [qz]
         refine rg_move ?_
         simp only [qz]
         refine rf_indexS (n := i) (sz := 1) (j := i) rfl rfl rfl rfl Try.underlying37 Kx Ox Ox Ox ?_
         simp only [qz]
         refine rf_load (v := .int .i64 (T4 i)) rfl rfl rfl Try.underlying3 rfl (fun w hw => tz_cell (Kn.hd0 (Kn.tl (Kn.tl hw))) (i := i) Ox) ?_
         simp only [qz]
         refine rg_move ?_
         simp only [qz]
         refine rg_move ?_
         simp only [qz]
         refine rf_indexS (n := k) (sz := 1) (j := k) rfl rfl rfl rfl Try.underlying37 Kx Ox Ox Ox ?_
         simp only [qz]
         refine rf_load (v := .int .i64 (T4 (N + k))) rfl rfl rfl Try.underlying3 rfl (fun w hw => tz_cell (Kn.hd0 (Kn.tl (Kn.tl (Kn.tl hw)))) (i := k) Ox) ?_
         simp only [qz]
         refine rf_add rfl rfl rfl rfl (wrap_ok Ox Ox) ?_
         simp only [qz]
         refine rf_rem (r := (T4 i + T4 (N + k)) % 8) rfl rfl rfl rfl Ox (Int.tmod_eq_emod_of_nonneg Ox) ?_
         simp only [qz]
         refine rg_move ?_
         simp only [qz]
         refine rfb_neq rfl rfl rfl rfl ?_
         intro x h15
         cases x
         ·(try simp only [qd, ne_eq] at h15)
          simp only [qz]
          refine rg_assign ?_
          simp only [qz]
          refine rg_nil (ek_next (wk_cond_f rfl (wk_skip (ek_block (ek_block (ek_next ?_))))))
          refine wk_region [0, 0, 0] rfl Kx ?_
          simp only [qy]
          refine rg_move ?_
          simp only [qz]
          refine rf_add rfl rfl rfl rfl (wrap_ok Ox Ox) ?_
          simp only [qz]
          refine rg_assign ?_
          simp only [qz]
          refine rg_nil ?_
          refine ek_sub (sk _ (sk _ (sc _ (sc _ (sc _ (sc _ sn)))))) ?_
          refine ek_roundF (N - (k + 1)) Ox Kx ?_
          exact ⟨k + 1, T4, ag2, rfl, rfl, by rfl, by rfl, Ox, Ox, hg3, hg4, (Lib.hid (hg5.out.next (okP_told hes Ox Ox Ox)))⟩
         (try simp only [qd, ne_eq] at h15)
         simp only [qz]
         refine rg_assign ?_
         simp only [qz]
         refine rg_nil (ek_next (wk_cond_t rfl (wk_seq ?_)))
         refine wk_region [0, 0] rfl Kx ?_
         simp only [qy]
         refine rg_assign ?_
         simp only [qz]
         refine rg_assign ?_
         simp only [qz]
         refine rg_nil (ek_next (wk_ret (ek_block_ret (ek_block_ret (ek_then_ret (ek_then_ret (ek_block_ret (ek_block_ret (ek_then_ret (ek_then_ret (ek_block_ret (ek_block_ret (ek_then_ret (ek_block_ret (ek_block_ret (ek_then_ret (ek_then_ret (ek_block_ret (ek_then_ret ?_)))))))))))))))))))
         refine ek_ret (fun w hw => ⟨rfl, _, res_tt _ _ rfl, ?_⟩)
         (try simp only [qz])
         have ha := hg3.fo.no Ox Ox hes Ox Ox Ox
         exact ⟨by rw [e1.out, e2.out, ha], hw.below⟩
        (try simp only [qd, ne_eq] at h14)
        simp only [qz]
        refine rg_assign ?_
        simp only [qz]
        refine rg_nil (ek_next (wk_cond_t rfl ?_))
        refine wk_region [0, 0, 0, 0, 0, 0, 0, 0, 0, 0, 0, 1, 0] rfl Kx ?_
        simp only [qy]
        refine rg_move ?_
        simp only [qz]
        refine rg_move ?_
        simp only [qz]
        refine rg_move ?_
        simp only [qz]
        refine rg_move ?_
        simp only [qz]
        refine rg_move ?_
        simp only [qz]
        refine rf_indexS (n := i) (sz := 1) (j := i) rfl rfl rfl rfl Try.underlying37 Kx Ox Ox Ox ?_
        simp only [qz]
        refine rf_load (v := .int .i64 (T4 i)) rfl rfl rfl Try.underlying3 rfl (fun w hw => tz_cell (Kn.hd0 (Kn.tl (Kn.tl hw))) (i := i) Ox) ?_
        simp only [qz]
        refine rf_sub rfl rfl rfl rfl (wrap_ok Ox Ox) ?_
        simp only [qz]
        refine rf_add rfl rfl rfl rfl (wrap_ok Ox Ox) ?_
        simp only [qz]
        refine rf_rem (r := ((et : Int) - T4 i + 8) % 8) rfl rfl rfl rfl Ox (Int.tmod_eq_emod_of_nonneg Ox) ?_
        simp only [qz]
        refine rf_indexS (n := k) (sz := 1) (j := k) rfl rfl rfl rfl Try.underlying37 Kx Ox Ox Ox ?_
        simp only [qz]
        refine rf_storeT (i := k) (z := ((et : Int) - T4 i + 8) % 8) (N := N) (R0 := shA N T4) (R' := shA N (updA T4 (N + k) (((et : Int) - T4 i + 8) % 8))) rfl rfl Ox (sh_col N T4 k _) (Rep.there _ (Rep.there _ (Rep.there _ (Rep.here _)))) Nz ?_
        simp only [qz]
        refine rg_assign ?_
        simp only [qz]
        refine rg_nil (ek_block (ek_block (ek_next ?_)))
        refine wk_region [0, 0, 0] rfl Kx ?_
        simp only [qy]
        refine rg_move ?_
        simp only [qz]
        refine rf_add rfl rfl rfl rfl (wrap_ok Ox Ox) ?_
        simp only [qz]
        refine rg_assign ?_
        simp only [qz]
        refine rg_nil ?_
        refine ek_sub (sk _ (sk _ (sc _ (sc _ (sc _ (sc _ sn)))))) ?_
        refine ek_roundF (N - (k + 1)) Ox Kx ?_
        exact ⟨k + 1, updA T4 (N + k) (((et : Int) - T4 i + 8) % 8), true, rfl, rfl, by rw [col_row], by rfl, Ox, Ox, (hg3.col Ox Ox hes Ox rfl), (by have h := unk_less (N := N) (T := T4) (v := N + k) (x := ((et : Int) - T4 i + 8) % 8) Ox Ox (2 * N) Ox; show _ + 1 ≤ _; omega), (Lib.hid sw_true)⟩
       (try simp only [qd, ne_eq] at h13)
       simp only [qz]
       exfalso; omega
      (try simp only [qd, ne_eq] at h12)
      simp only [qz]
      refine rg_nil (ek_next (wk_cond_t rfl (wk_seq ?_)))
      refine wk_region [0, 0] rfl Kx ?_
      simp only [qy]
      refine rg_assign ?_
      simp only [qz]
      refine rg_assign ?_
      simp only [qz]
      refine rg_nil (ek_next (wk_ret (ek_then_ret (ek_block_ret (ek_then_ret (ek_then_ret (ek_block_ret (ek_block_ret (ek_then_ret (ek_then_ret (ek_block_ret (ek_block_ret (ek_then_ret (ek_block_ret (ek_block_ret (ek_then_ret (ek_then_ret (ek_block_ret (ek_then_ret ?_)))))))))))))))))))
      refine ek_ret (fun w hw => ⟨rfl, _, res_tt _ _ rfl, ?_⟩)
      (try simp only [qz])
      have hbn := btI_neg hk2.out h12
      have hes := edM_some (N := N) (xs := xs) (ys := ys) (i := i) (k := k) hnz
      rw [show btw (nm xs (i * N + k)) (nm ys (i * N + k)) = none from hbn] at hes
      have ha := none_no Ox Ox hes
      exact ⟨by rw [e1.out, e2.out, ha], hw.below⟩
     (try simp only [qd, ne_eq] at h11)
     simp only [qz]
     refine rg_nil (ek_next (wk_cond_t rfl (wk_skip (ek_next (wk_seq (wk_block (wk_seq ?_)))))))
     refine wk_draws _ _ [(0, 0), (1, 0), (3, 0), (2, 1), (4, 0), (5, 0), (6, 0), (7, 0), (8, 0), (9, 0)] [] Kx Kx (fun c d v a w h => by cases d <;> exact h) ((sc _ (sc _ (sc _ (sc _ (sc _ (sc _ sn))))))) (fun e => by first | exact absurd e (by decide) | rfl) ?_
     simp only [List.map_cons, List.map_nil, List.getD_cons_zero, List.getD_cons_succ]
     refine rf_loadR (n := 5) rfl rfl rfl Try.underlying29 rfl Kx (fun w hw => Kn.hd0 hw) rfl rfl ?_
     simp only [qz]
     refine rg_move ?_
     simp only [qz]
     refine rf_loadR (n := 5) rfl rfl rfl Try.underlying29 rfl Kx (fun w hw => Kn.hd0 (Kn.tl hw)) rfl rfl ?_
     simp only [qz]
     apply rg_pure Rx Kx
     case hargs => exact Ax
     case h => exact fun w hw => rTurned_any (nm xs (i * N + k)) t (ok_at hox (by have := ix_lt (show i < N by omega) (show k < N by omega); have := hlx.out; omega)) Ox w
     case hz => exact (fun _ h => by cases h; exact (sc _ (sc _ (sc _ (sc _ (sc _ (sc _ sn)))))))
     simp only [qz]
     refine rfb_eqN (Nm.turn t (nm xs (i * N + k))) (nm ys (i * N + k)) rfl rfl rfl rfl ?_
     intro x h16
     cases x
     ·(try simp only [qd, ne_eq] at h16)
      simp only [qz]
      refine rg_move ?_
      simp only [qz]
      refine rg_skip Rx ?_
      simp only [qz]
      refine rg_skip Rx ?_
      simp only [qz]
      refine rg_skip Rx ?_
      simp only [qz]
      refine rf_pick rfl rfl rfl ?_
      simp only [qz]
      refine rg_nil (ek_next (wk_cond_f rfl (wk_skip (ek_block (ek_next ?_)))))
      refine wk_region [0, 0, 0] rfl Kx ?_
      simp only [qy]
      refine rg_move ?_
      simp only [qz]
      refine rf_add rfl rfl rfl rfl (wrap_ok Ox Ox) ?_
      simp only [qz]
      refine rg_assign ?_
      simp only [qz]
      refine rg_nil ?_
      refine ek_roundF (8 - (t + 1)) Ox Kx ?_
      exact ⟨t + 1, v, rfl, rfl, by rfl, by rfl, Ox, (Lib.hid ((btI_no h16).trans hk2.out))⟩
     (try simp only [qd, ne_eq] at h16)
     simp only [qz]
     refine rg_move ?_
     simp only [qz]
     refine rf_loadR (n := 5) rfl rfl rfl Try.underlying29 rfl Kx (fun w hw => Kn.hd0 hw) rfl rfl ?_
     simp only [qz]
     refine rf_build (cs := fun a => #[.int .i64 0, .int .i64 0, .int .i64 0, .int .i64 0, .int .i64 0]) rfl rfl Kx ?_
     simp only [qz]
     refine rfb_neN (nm xs (i * N + k)) (Nm.zero) rfl rfl rfl rfl ?_
     intro x h17
     cases x
     ·(try simp only [qd, ne_eq] at h17)
      simp only [qz]
      exact absurd ⟨h17, by rw [← h16, h17, turn_zero]⟩ hnz
     (try simp only [qd, ne_eq] at h17)
     simp only [qz]
     refine rf_pick rfl rfl rfl ?_
     simp only [qz]
     refine rg_nil (ek_next (wk_cond_t rfl ?_))
     refine wk_region [0, 0] rfl Kx ?_
     simp only [qy]
     refine rg_move ?_
     simp only [qz]
     refine rg_assign ?_
     simp only [qz]
     refine rg_nil (ek_block (ek_next ?_))
     refine wk_region [0, 0, 0] rfl Kx ?_
     simp only [qy]
     refine rg_move ?_
     simp only [qz]
     refine rf_add rfl rfl rfl rfl (wrap_ok Ox Ox) ?_
     simp only [qz]
     refine rg_assign ?_
     simp only [qz]
     refine rg_nil ?_
     refine ek_roundF (8 - (t + 1)) Ox Kx ?_
     exact ⟨t + 1, (t : Int), rfl, rfl, by rfl, by rfl, Ox, (Lib.hid (btI_yes h16))⟩
    (try simp only [qd, ne_eq] at h10)
    simp only [qz]
    apply rg_soft_g
    case hg => rfl
    case hy => (intro w hw; go_simp; (try go_bits); exact Yld.mk _ _)
    simp only [qz]
    apply rg_soft_g
    case hg => rfl
    case hy => (intro w hw; go_simp; (try go_bits); exact Yld.mk _ _)
    simp only [qz]
    apply rg_soft_g
    case hg => rfl
    case hy => (intro w hw; go_simp; (try go_bits); exact Yld.mk _ _)
    simp only [qz]
    refine rf_indexS (n := k) (sz := 1) (j := k) rfl rfl rfl rfl Try.underlying37 Kx Ox Ox Ox ?_
    simp only [qz]
    refine rf_load (v := .int .i64 (T4 (N + k))) rfl rfl rfl Try.underlying3 rfl (fun w hw => tz_cell (Kn.hd0 (Kn.tl (Kn.tl (Kn.tl hw)))) (i := k) Ox) ?_
    simp only [qz]
    refine rfb_lss rfl rfl rfl rfl ?_
    intro x h18
    cases x
    ·(try simp only [qd, ne_eq] at h18)
     simp only [qz]
     refine rf_pick rfl rfl rfl ?_
     simp only [qz]
     refine rf_pick rfl rfl rfl ?_
     simp only [qz]
     refine rg_nil (ek_next (wk_cond_f rfl (wk_skip (ek_next (wk_seq ?_)))))
     have hnz : NotZ (nm xs (i * N + k)) (nm ys (i * N + k)) := (fun h => h9 h.1)
     refine wk_region [0] rfl Kx ?_
     simp only [qy]
     refine rg_assign ?_
     simp only [qz]
     refine rg_nil (ek_next (wk_seq (wk_seq ?_)))
     refine wk_region [0] rfl Kx ?_
     simp only [qy]
     refine rg_assign ?_
     simp only [qz]
     refine rg_nil (ek_next (wk_block ?_))
     refine wk_loopF [15, 16, 105, 106, 107, 108, 109, 110, 111, 112, 113, 114, 115, 116, 117, 118, 119] (fun mz f s => ∃ (t : Nat) (v : Int), f 15 = .int .i64 v ∧ f 16 = .int .i64 t ∧ s = ((gx, .cells #[.int .i64 (nm xs (i * N + k)).a, .int .i64 (nm xs (i * N + k)).b, .int .i64 (nm xs (i * N + k)).c, .int .i64 (nm xs (i * N + k)).d, .int .i64 (nm xs (i * N + k)).k] 29) :: ((gy, .cells #[.int .i64 (nm ys (i * N + k)).a, .int .i64 (nm ys (i * N + k)).b, .int .i64 (nm ys (i * N + k)).c, .int .i64 (nm ys (i * N + k)).d, .int .i64 (nm ys (i * N + k)).k] 29) :: ((gr, .cells (tzC (T4) N).toArray 3) :: ((gc, .cells (tzC (shA N T4) N).toArray 3) :: ((g2, .cells #[.int .i64 N, .slice a' ys.length c'] 24) :: ((g1, .cells #[.int .i64 N, .slice a xs.length c] 24) :: [])))))) ∧ mz = 8 - t ∧ t ≤ 8 ∧ Hid (btI (btK (nm xs (i * N + k)) (nm ys (i * N + k)) t) = v)) ((fun (t : Nat) (v : Int) => 8 - t) (0) ((-1))) ?_ Kx ?_
     ·exact ⟨0, (-1), rfl, rfl, rfl, rfl, by omega, (Lib.hid rfl)⟩
     rintro mz f9 s ⟨t, v, hs9_15, hs9_16, rfl, hn, hk1, hk2⟩
     simp only [Act.putF, List.foldl_cons, List.foldl_nil, hs9_15, hs9_16, Act.put, Act.eval, q1, q2, q3, q4, q5, q6, q7, q8, q9, q10, q11, q12, q13, q14, q15, q16, q17, q18, Nat.reduceAdd, Bool.not_true, Bool.not_false]
     clear hs9_15 hs9_16
     refine wk_seq (wk_seq ?_)
     refine wk_region [0, 0] rfl Kx ?_
     simp only [qy]
     refine rg_move ?_
     simp only [qz]
     refine rfb_lss rfl rfl rfl rfl ?_
     intro x h19
     cases x
     ·(try simp only [qd, ne_eq] at h19)
      simp only [qz]
      refine rg_nil (ek_next (wk_cond_f rfl (wk_exit (ek_then_exit (ek_then_exit (ek_block_exit (ek_next (wk_seq (wk_seq ?_)))))))))
      obtain rfl : t = 8 := by omega
      refine wk_region [0, 0] rfl Kx ?_
      simp only [qy]
      refine rg_move ?_
      simp only [qz]
      refine rfb_lss rfl rfl rfl rfl ?_
      intro x h20
      cases x
      ·(try simp only [qd, ne_eq] at h20)
       simp only [qz]
       obtain ⟨et, hbw, rfl⟩ := btI_some hk2.out Ox
       have hes := edM_some (N := N) (xs := xs) (ys := ys) (i := i) (k := k) hnz
       rw [show btw (nm xs (i * N + k)) (nm ys (i * N + k)) = some et from hbw] at hes
       have het := btw_lt (show btw (nm xs (i * N + k)) (nm ys (i * N + k)) = some et from hbw)
       have hr1 := hg3.rng i Ox
       have hr2 := hg3.rng (N + k) Ox
       refine rg_nil (ek_next (wk_cond_f rfl (wk_skip (ek_next (wk_block (wk_seq ?_))))))
       refine wk_region [0, 0, 0, 0, 0, 0] rfl Kx ?_
       simp only [qy]
       refine rg_move ?_
       simp only [qz]
       refine rg_move ?_
       simp only [qz]
       refine rf_indexS (n := i) (sz := 1) (j := i) rfl rfl rfl rfl Try.underlying37 Kx Ox Ox Ox ?_
       simp only [qz]
       refine rf_load (v := .int .i64 (T4 i)) rfl rfl rfl Try.underlying3 rfl (fun w hw => tz_cell (Kn.hd0 (Kn.tl (Kn.tl hw))) (i := i) Ox) ?_
       simp only [qz]
       refine rfb_lss rfl rfl rfl rfl ?_
       intro x h21
       cases x
       ·(try simp only [qd, ne_eq] at h21)
        simp only [qz]
        exfalso; omega
       (try simp only [qd, ne_eq] at h21)
       simp only [qz]
       refine rg_assign ?_
       simp only [qz]
       refine rg_nil (ek_next (wk_cond_t rfl ?_))
       refine wk_region [0, 0, 0, 0, 0, 0, 0, 0, 0, 0, 0, 1, 0] rfl Kx ?_
       simp only [qy]
       refine rg_move ?_
       simp only [qz]
       refine rg_move ?_
       simp only [qz]
       refine rg_move ?_
       simp only [qz]
       refine rg_move ?_
       simp only [qz]
       refine rg_move ?_
       simp only [qz]
       refine rf_indexS (n := k) (sz := 1) (j := k) rfl rfl rfl rfl Try.underlying37 Kx Ox Ox Ox ?_
       simp only [qz]
       refine rf_load (v := .int .i64 (T4 (N + k))) rfl rfl rfl Try.underlying3 rfl (fun w hw => tz_cell (Kn.hd0 (Kn.tl (Kn.tl (Kn.tl hw)))) (i := k) Ox) ?_
       simp only [qz]
       refine rf_sub rfl rfl rfl rfl (wrap_ok Ox Ox) ?_
       simp only [qz]
       refine rf_add rfl rfl rfl rfl (wrap_ok Ox Ox) ?_
       simp only [qz]
       refine rf_rem (r := ((et : Int) - T4 (N + k) + 8) % 8) rfl rfl rfl rfl Ox (Int.tmod_eq_emod_of_nonneg Ox) ?_
       simp only [qz]
       refine rf_indexS (n := i) (sz := 1) (j := i) rfl rfl rfl rfl Try.underlying37 Kx Ox Ox Ox ?_
       simp only [qz]
       refine rf_storeT (i := i) (z := ((et : Int) - T4 (N + k) + 8) % 8) (N := N) (R0 := T4) (R' := updA T4 i (((et : Int) - T4 (N + k) + 8) % 8)) rfl rfl Ox (fun _ => rfl) (Rep.there _ (Rep.there _ (Rep.here _))) Nz ?_
       simp only [qz]
       refine rg_assign ?_
       simp only [qz]
       refine rg_nil (ek_block (ek_block (ek_next ?_)))
       refine wk_region [0, 0, 0] rfl Kx ?_
       simp only [qy]
       refine rg_move ?_
       simp only [qz]
       refine rf_add rfl rfl rfl rfl (wrap_ok Ox Ox) ?_
       simp only [qz]
       refine rg_assign ?_
       simp only [qz]
       refine rg_nil ?_
       refine ek_sub (sk _ (sk _ (sc _ (sc _ (sc _ (sc _ sn)))))) ?_
       refine ek_roundF (N - (k + 1)) Ox Kx ?_
       exact ⟨k + 1, updA T4 i (((et : Int) - T4 (N + k) + 8) % 8), true, rfl, rfl, by rw [sh_row _ _ Ox], by rfl, Ox, Ox, (hg3.row Ox Ox hes Ox rfl), (by have h := unk_less (N := N) (T := T4) (v := i) (x := ((et : Int) - T4 (N + k) + 8) % 8) h10 Ox (2 * N) Ox; show _ + 1 ≤ _; omega), (Lib.hid sw_true)⟩
      (try simp only [qd, ne_eq] at h20)
      simp only [qz]
      refine rg_nil (ek_next (wk_cond_t rfl (wk_seq ?_)))
      refine wk_region [0, 0] rfl Kx ?_
      simp only [qy]
      refine rg_assign ?_
      simp only [qz]
      refine rg_assign ?_
      simp only [qz]
      refine rg_nil (ek_next (wk_ret (ek_then_ret (ek_block_ret (ek_then_ret (ek_then_ret (ek_block_ret (ek_block_ret (ek_then_ret (ek_then_ret (ek_block_ret (ek_block_ret (ek_then_ret (ek_block_ret (ek_block_ret (ek_then_ret (ek_then_ret (ek_block_ret (ek_then_ret ?_)))))))))))))))))))
      refine ek_ret (fun w hw => ⟨rfl, _, res_tt _ _ rfl, ?_⟩)
      (try simp only [qz])
      have hbn := btI_neg hk2.out h20
      have hes := edM_some (N := N) (xs := xs) (ys := ys) (i := i) (k := k) hnz
      rw [show btw (nm xs (i * N + k)) (nm ys (i * N + k)) = none from hbn] at hes
      have ha := none_no Ox Ox hes
      exact ⟨by rw [e1.out, e2.out, ha], hw.below⟩
     (try simp only [qd, ne_eq] at h19)
     simp only [qz]
     refine rg_nil (ek_next (wk_cond_t rfl (wk_skip (ek_next (wk_seq (wk_block (wk_seq ?_)))))))
     refine wk_draws _ _ [(0, 0), (1, 0), (3, 0), (2, 1), (4, 0), (5, 0), (6, 0), (7, 0), (8, 0), (9, 0)] [] Kx Kx (fun c d v a w h => by cases d <;> exact h) ((sc _ (sc _ (sc _ (sc _ (sc _ (sc _ sn))))))) (fun e => by first | exact absurd e (by decide) | rfl) ?_
     simp only [List.map_cons, List.map_nil, List.getD_cons_zero, List.getD_cons_succ]
     refine rf_loadR (n := 5) rfl rfl rfl Try.underlying29 rfl Kx (fun w hw => Kn.hd0 hw) rfl rfl ?_
     simp only [qz]
     refine rg_move ?_
     simp only [qz]
     refine rf_loadR (n := 5) rfl rfl rfl Try.underlying29 rfl Kx (fun w hw => Kn.hd0 (Kn.tl hw)) rfl rfl ?_
     simp only [qz]
     apply rg_pure Rx Kx
     case hargs => exact Ax
     case h => exact fun w hw => rTurned_any (nm xs (i * N + k)) t (ok_at hox (by have := ix_lt (show i < N by omega) (show k < N by omega); have := hlx.out; omega)) Ox w
     case hz => exact (fun _ h => by cases h; exact (sc _ (sc _ (sc _ (sc _ (sc _ (sc _ sn)))))))
     simp only [qz]
     refine rfb_eqN (Nm.turn t (nm xs (i * N + k))) (nm ys (i * N + k)) rfl rfl rfl rfl ?_
     intro x h22
     cases x
     ·(try simp only [qd, ne_eq] at h22)
      simp only [qz]
      refine rg_move ?_
      simp only [qz]
      refine rg_skip Rx ?_
      simp only [qz]
      refine rg_skip Rx ?_
      simp only [qz]
      refine rg_skip Rx ?_
      simp only [qz]
      refine rf_pick rfl rfl rfl ?_
      simp only [qz]
      refine rg_nil (ek_next (wk_cond_f rfl (wk_skip (ek_block (ek_next ?_)))))
      refine wk_region [0, 0, 0] rfl Kx ?_
      simp only [qy]
      refine rg_move ?_
      simp only [qz]
      refine rf_add rfl rfl rfl rfl (wrap_ok Ox Ox) ?_
      simp only [qz]
      refine rg_assign ?_
      simp only [qz]
      refine rg_nil ?_
      refine ek_roundF (8 - (t + 1)) Ox Kx ?_
      exact ⟨t + 1, v, rfl, rfl, by rfl, by rfl, Ox, (Lib.hid ((btI_no h22).trans hk2.out))⟩
     (try simp only [qd, ne_eq] at h22)
     simp only [qz]
     refine rg_move ?_
     simp only [qz]
     refine rf_loadR (n := 5) rfl rfl rfl Try.underlying29 rfl Kx (fun w hw => Kn.hd0 hw) rfl rfl ?_
     simp only [qz]
     refine rf_build (cs := fun a => #[.int .i64 0, .int .i64 0, .int .i64 0, .int .i64 0, .int .i64 0]) rfl rfl Kx ?_
     simp only [qz]
     refine rfb_neN (nm xs (i * N + k)) (Nm.zero) rfl rfl rfl rfl ?_
     intro x h23
     cases x
     ·(try simp only [qd, ne_eq] at h23)
      simp only [qz]
      exact absurd ⟨h23, by rw [← h22, h23, turn_zero]⟩ hnz
     (try simp only [qd, ne_eq] at h23)
     simp only [qz]
     refine rf_pick rfl rfl rfl ?_
     simp only [qz]
     refine rg_nil (ek_next (wk_cond_t rfl ?_))
     refine wk_region [0, 0] rfl Kx ?_
     simp only [qy]
     refine rg_move ?_
     simp only [qz]
     refine rg_assign ?_
     simp only [qz]
     refine rg_nil (ek_block (ek_next ?_))
     refine wk_region [0, 0, 0] rfl Kx ?_
     simp only [qy]
     refine rg_move ?_
     simp only [qz]
     refine rf_add rfl rfl rfl rfl (wrap_ok Ox Ox) ?_
     simp only [qz]
     refine rg_assign ?_
     simp only [qz]
     refine rg_nil ?_
     refine ek_roundF (8 - (t + 1)) Ox Kx ?_
     exact ⟨t + 1, (t : Int), rfl, rfl, by rfl, by rfl, Ox, (Lib.hid (btI_yes h22))⟩
    (try simp only [qd, ne_eq] at h18)
    simp only [qz]
    refine rf_pick rfl rfl rfl ?_
    simp only [qz]
    refine rf_pick rfl rfl rfl ?_
    simp only [qz]
    refine rg_nil (ek_next (wk_cond_t rfl (wk_exit (ek_then_exit (ek_block_exit (ek_next ?_))))))
    refine wk_region [0, 0, 0] rfl Kx ?_
    simp only [qy]
    refine rg_move ?_
    simp only [qz]
    refine rf_add rfl rfl rfl rfl (wrap_ok Ox Ox) ?_
    simp only [qz]
    refine rg_assign ?_
    simp only [qz]
    refine rg_nil ?_
    refine ek_sub (sk _ (sk _ (sc _ (sc _ (sc _ (sc _ sn)))))) ?_
    refine ek_roundF (N - (k + 1)) Ox Kx ?_
    exact ⟨k + 1, T4, ag2, rfl, rfl, by rfl, by rfl, Ox, Ox, hg3, hg4, (Lib.hid (hg5.out.next (okP_unk h10 h18)))⟩
   (try simp only [qd, ne_eq] at h9)
   simp only [qz]
   refine rg_move ?_
   simp only [qz]
   refine rf_loadR (n := 5) rfl rfl rfl Try.underlying29 rfl Kx (fun w hw => Kn.hd0 (Kn.tl hw)) rfl rfl ?_
   simp only [qz]
   refine rf_loadR (n := 5) rfl rfl rfl Try.underlying29 rfl Kx (fun w hw => Kn.hd0 hw) rfl rfl ?_
   simp only [qz]
   refine rfb_eqN (nm ys (i * N + k)) (nm xs (i * N + k)) rfl rfl rfl rfl ?_
   intro x h24
   cases x
   ·(try simp only [qd, ne_eq] at h24)
    simp only [qz]
    refine rf_pick rfl rfl rfl ?_
    simp only [qz]
    refine rg_move ?_
    simp only [qz]
    apply rg_soft_g
    case hg => rfl
    case hy => (intro w hw; go_simp; (try go_bits); exact Yld.mk _ _)
    simp only [qz]
    apply rg_soft_g
    case hg => rfl
    case hy => (intro w hw; go_simp; (try go_bits); exact Yld.mk _ _)
    simp only [qz]
    refine rf_indexS (n := i) (sz := 1) (j := i) rfl rfl rfl rfl Try.underlying37 Kx Ox Ox Ox ?_
    simp only [qz]
    refine rf_load (v := .int .i64 (T4 i)) rfl rfl rfl Try.underlying3 rfl (fun w hw => tz_cell (Kn.hd0 (Kn.tl (Kn.tl hw))) (i := i) Ox) ?_
    simp only [qz]
    refine rfb_lss rfl rfl rfl rfl ?_
    intro x h25
    cases x
    ·(try simp only [qd, ne_eq] at h25)
     simp only [qz]
     apply rg_soft_g
     case hg => rfl
     case hy => (intro w hw; go_simp; (try go_bits); exact Yld.mk _ _)
     simp only [qz]
     refine rg_skip Rx ?_
     simp only [qz]
     refine rg_skip Rx ?_
     simp only [qz]
     refine rg_skip Rx ?_
     simp only [qz]
     refine rg_skip Rx ?_
     simp only [qz]
     refine rg_skip Rx ?_
     simp only [qz]
     refine rf_pick rfl rfl rfl ?_
     simp only [qz]
     refine rf_pick rfl rfl rfl ?_
     simp only [qz]
     refine rg_nil (ek_next (wk_cond_f rfl (wk_skip (ek_next (wk_seq ?_)))))
     have hnz : NotZ (nm xs (i * N + k)) (nm ys (i * N + k)) := (fun h => h24 (h.2.trans h.1.symm))
     refine wk_region [0] rfl Kx ?_
     simp only [qy]
     refine rg_assign ?_
     simp only [qz]
     refine rg_nil (ek_next (wk_seq (wk_seq ?_)))
     refine wk_region [0] rfl Kx ?_
     simp only [qy]
     refine rg_assign ?_
     simp only [qz]
     refine rg_nil (ek_next (wk_block ?_))
     refine wk_loopF [15, 16, 105, 106, 107, 108, 109, 110, 111, 112, 113, 114, 115, 116, 117, 118, 119] (fun mz f s => ∃ (t : Nat) (v : Int), f 15 = .int .i64 v ∧ f 16 = .int .i64 t ∧ s = ((gx, .cells #[.int .i64 (nm xs (i * N + k)).a, .int .i64 (nm xs (i * N + k)).b, .int .i64 (nm xs (i * N + k)).c, .int .i64 (nm xs (i * N + k)).d, .int .i64 (nm xs (i * N + k)).k] 29) :: ((gy, .cells #[.int .i64 (nm ys (i * N + k)).a, .int .i64 (nm ys (i * N + k)).b, .int .i64 (nm ys (i * N + k)).c, .int .i64 (nm ys (i * N + k)).d, .int .i64 (nm ys (i * N + k)).k] 29) :: ((gr, .cells (tzC (T4) N).toArray 3) :: ((gc, .cells (tzC (shA N T4) N).toArray 3) :: ((g2, .cells #[.int .i64 N, .slice a' ys.length c'] 24) :: ((g1, .cells #[.int .i64 N, .slice a xs.length c] 24) :: [])))))) ∧ mz = 8 - t ∧ t ≤ 8 ∧ Hid (btI (btK (nm xs (i * N + k)) (nm ys (i * N + k)) t) = v)) ((fun (t : Nat) (v : Int) => 8 - t) (0) ((-1))) ?_ Kx ?_
     ·exact ⟨0, (-1), rfl, rfl, rfl, rfl, by omega, (Lib.hid rfl)⟩
     rintro mz f9 s ⟨t, v, hs9_15, hs9_16, rfl, hn, hk1, hk2⟩
     simp only [Act.putF, List.foldl_cons, List.foldl_nil, hs9_15, hs9_16, Act.put, Act.eval, q1, q2, q3, q4, q5, q6, q7, q8, q9, q10, q11, q12, q13, q14, q15, q16, q17, q18, Nat.reduceAdd, Bool.not_true, Bool.not_false]
     clear hs9_15 hs9_16
     refine wk_seq (wk_seq ?_)
     refine wk_region [0, 0] rfl Kx ?_
     simp only [qy]
     refine rg_move ?_
     simp only [qz]
     refine rfb_lss rfl rfl rfl rfl ?_
     intro x h26
     cases x
     ·(try simp only [qd, ne_eq] at h26)
      simp only [qz]
      refine rg_nil (ek_next (wk_cond_f rfl (wk_exit (ek_then_exit (ek_then_exit (ek_block_exit (ek_next (wk_seq (wk_seq ?_)))))))))
      obtain rfl : t = 8 := by omega
      refine wk_region [0, 0] rfl Kx ?_
      simp only [qy]
      refine rg_move ?_
      simp only [qz]
      refine rfb_lss rfl rfl rfl rfl ?_
      intro x h27
      cases x
      ·(try simp only [qd, ne_eq] at h27)
       simp only [qz]
       obtain ⟨et, hbw, rfl⟩ := btI_some hk2.out Ox
       have hes := edM_some (N := N) (xs := xs) (ys := ys) (i := i) (k := k) hnz
       rw [show btw (nm xs (i * N + k)) (nm ys (i * N + k)) = some et from hbw] at hes
       have het := btw_lt (show btw (nm xs (i * N + k)) (nm ys (i * N + k)) = some et from hbw)
       have hr1 := hg3.rng i Ox
       have hr2 := hg3.rng (N + k) Ox
       refine rg_nil (ek_next (wk_cond_f rfl (wk_skip (ek_next (wk_block (wk_seq ?_))))))
       refine wk_region [0, 0, 0, 0, 0, 0] rfl Kx ?_
       simp only [qy]
       refine rg_move ?_
       simp only [qz]
       refine rg_move ?_
       simp only [qz]
       refine rf_indexS (n := i) (sz := 1) (j := i) rfl rfl rfl rfl Try.underlying37 Kx Ox Ox Ox ?_
       simp only [qz]
       refine rf_load (v := .int .i64 (T4 i)) rfl rfl rfl Try.underlying3 rfl (fun w hw => tz_cell (Kn.hd0 (Kn.tl (Kn.tl hw))) (i := i) Ox) ?_
       simp only [qz]
       refine rfb_lss rfl rfl rfl rfl ?_
       intro x h28
       cases x
       ·(try simp only [qd, ne_eq] at h28)
        simp only [qz]
        refine rg_assign ?_
        simp only [qz]
        refine rg_nil (ek_next (wk_cond_f rfl (wk_seq ?_)))
        refine wk_region [0, 0, 0, 0, 0, 0] rfl Kx ?_
        simp only [qy]
        refine rg_move ?_
        simp only [qz]
        refine rg_move ?_
        simp only [qz]
        refine rf_indexS (n := k) (sz := 1) (j := k) rfl rfl rfl rfl Try.underlying37 Kx Ox Ox Ox ?_
        simp only [qz]
        refine rf_load (v := .int .i64 (T4 (N + k))) rfl rfl rfl Try.underlying3 rfl (fun w hw => tz_cell (Kn.hd0 (Kn.tl (Kn.tl (Kn.tl hw)))) (i := k) Ox) ?_
        simp only [qz]
        refine rfb_lss rfl rfl rfl rfl ?_
        intro x h29
        cases x
        ·(try simp only [qd, ne_eq] at h29)
         simp only [qz]
         refine rg_assign ?_
         simp only [qz]
         refine rg_nil (ek_next (wk_cond_f rfl (wk_seq ?_)))
         refine wk_draws _ _ [(0, 0), (1, 0), (2, 0), (3, 0), (4, 0), (5, 0), (6, 0), (7, 0), (8, 0), (9, 0), (10, 0), (11, 0), (12, 0)] [] Kx Kx (fun c d v a w h => by cases d <;> exact h) ((sc _ (sc _ (sc _ (sc _ (sc _ (sc _ sn))))))) (fun e => by first | exact absurd e (by decide) | rfl) ?_
         simp only [List.map_cons, List.map_nil, List.getD_cons_zero, List.getD_cons_succ]
         refine rg_move ?_
         simp only [qz]
         refine rg_move ?_
         simp only [qz]
         refine rf_indexS (n := i) (sz := 1) (j := i) rfl rfl rfl rfl Try.underlying37 Kx Ox Ox Ox ?_
         simp only [qz]
         refine rf_load (v := .int .i64 (T4 i)) rfl rfl rfl Try.underlying3 rfl (fun w hw => tz_cell (Kn.hd0 (Kn.tl (Kn.tl hw))) (i := i) Ox) ?_
         simp only [qz]
         refine rg_move ?_
         simp only [qz]
         refine rg_move ?_
         simp only [qz]
         refine rf_indexS (n := k) (sz := 1) (j := k) rfl rfl rfl rfl Try.underlying37 Kx Ox Ox Ox ?_
         simp only [qz]
         refine rf_load (v := .int .i64 (T4 (N + k))) rfl rfl rfl Try.underlying3 rfl (fun w hw => tz_cell (Kn.hd0 (Kn.tl (Kn.tl (Kn.tl hw)))) (i := k) Ox) ?_
         simp only [qz]
         refine rf_add rfl rfl rfl rfl (wrap_ok Ox Ox) ?_
         simp only [qz]
         refine rf_rem (r := (T4 i + T4 (N + k)) % 8) rfl rfl rfl rfl Ox (Int.tmod_eq_emod_of_nonneg Ox) ?_
         simp only [qz]
         refine rg_move ?_
         simp only [qz]
         refine rfb_neq rfl rfl rfl rfl ?_
         intro x h30
         cases x
         ·(try simp only [qd, ne_eq] at h30)
          simp only [qz]
          refine rg_assign ?_
          simp only [qz]
          refine rg_nil (ek_next (wk_cond_f rfl (wk_skip (ek_block (ek_block (ek_next ?_))))))
          refine wk_region [0, 0, 0] rfl Kx ?_
          simp only [qy]
          refine rg_move ?_
          simp only [qz]
          refine rf_add rfl rfl rfl rfl (wrap_ok Ox Ox) ?_
          simp only [qz]
          refine rg_assign ?_
          simp only [qz]
          refine rg_nil ?_
          refine ek_sub (sk _ (sk _ (sc _ (sc _ (sc _ (sc _ sn)))))) ?_
          refine ek_roundF (N - (k + 1)) Ox Kx ?_
          exact ⟨k + 1, T4, ag2, rfl, rfl, by rfl, by rfl, Ox, Ox, hg3, hg4, (Lib.hid (hg5.out.next (okP_told hes Ox Ox Ox)))⟩
         (try simp only [qd, ne_eq] at h30)
         simp only [qz]
         refine rg_assign ?_
         simp only [qz]
         refine rg_nil (ek_next (wk_cond_t rfl (wk_seq ?_)))
         refine wk_region [0, 0] rfl Kx ?_
         simp only [qy]
         refine rg_assign ?_
         simp only [qz]
         refine rg_assign ?_
         simp only [qz]
         refine rg_nil (ek_next (wk_ret (ek_block_ret (ek_block_ret (ek_then_ret (ek_then_ret (ek_block_ret (ek_block_ret (ek_then_ret (ek_then_ret (ek_block_ret (ek_block_ret (ek_then_ret (ek_block_ret (ek_block_ret (ek_then_ret (ek_then_ret (ek_block_ret (ek_then_ret ?_)))))))))))))))))))
         refine ek_ret (fun w hw => ⟨rfl, _, res_tt _ _ rfl, ?_⟩)
         (try simp only [qz])
         have ha := hg3.fo.no Ox Ox hes Ox Ox Ox
         exact ⟨by rw [e1.out, e2.out, ha], hw.below⟩
        (try simp only [qd, ne_eq] at h29)
        simp only [qz]
        refine rg_assign ?_
        simp only [qz]
        refine rg_nil (ek_next (wk_cond_t rfl ?_))
        refine wk_region [0, 0, 0, 0, 0, 0, 0, 0, 0, 0, 0, 1, 0] rfl Kx ?_
        simp only [qy]
        refine rg_move ?_
        simp only [qz]
        refine rg_move ?_
        simp only [qz]
        refine rg_move ?_
        simp only [qz]
        refine rg_move ?_
        simp only [qz]
        refine rg_move ?_
        simp only [qz]
        refine rf_indexS (n := i) (sz := 1) (j := i) rfl rfl rfl rfl Try.underlying37 Kx Ox Ox Ox ?_
        simp only [qz]
        refine rf_load (v := .int .i64 (T4 i)) rfl rfl rfl Try.underlying3 rfl (fun w hw => tz_cell (Kn.hd0 (Kn.tl (Kn.tl hw))) (i := i) Ox) ?_
        simp only [qz]
        refine rf_sub rfl rfl rfl rfl (wrap_ok Ox Ox) ?_
        simp only [qz]
        refine rf_add rfl rfl rfl rfl (wrap_ok Ox Ox) ?_
        simp only [qz]
        refine rf_rem (r := ((et : Int) - T4 i + 8) % 8) rfl rfl rfl rfl Ox (Int.tmod_eq_emod_of_nonneg Ox) ?_
        simp only [qz]
        refine rf_indexS (n := k) (sz := 1) (j := k) rfl rfl rfl rfl Try.underlying37 Kx Ox Ox Ox ?_
        simp only [qz]
        refine rf_storeT (i := k) (z := ((et : Int) - T4 i + 8) % 8) (N := N) (R0 := shA N T4) (R' := shA N (updA T4 (N + k) (((et : Int) - T4 i + 8) % 8))) rfl rfl Ox (sh_col N T4 k _) (Rep.there _ (Rep.there _ (Rep.there _ (Rep.here _)))) Nz ?_
        simp only [qz]
        refine rg_assign ?_
        simp only [qz]
        refine rg_nil (ek_block (ek_block (ek_next ?_)))
        refine wk_region [0, 0, 0] rfl Kx ?_
        simp only [qy]
        refine rg_move ?_
        simp only [qz]
        refine rf_add rfl rfl rfl rfl (wrap_ok Ox Ox) ?_
        simp only [qz]
        refine rg_assign ?_
        simp only [qz]
        refine rg_nil ?_
        refine ek_sub (sk _ (sk _ (sc _ (sc _ (sc _ (sc _ sn)))))) ?_
        refine ek_roundF (N - (k + 1)) Ox Kx ?_
        exact ⟨k + 1, updA T4 (N + k) (((et : Int) - T4 i + 8) % 8), true, rfl, rfl, by rw [col_row], by rfl, Ox, Ox, (hg3.col Ox Ox hes Ox rfl), (by have h := unk_less (N := N) (T := T4) (v := N + k) (x := ((et : Int) - T4 i + 8) % 8) Ox Ox (2 * N) Ox; show _ + 1 ≤ _; omega), (Lib.hid sw_true)⟩
       (try simp only [qd, ne_eq] at h28)
       simp only [qz]
       exfalso; omega
      (try simp only [qd, ne_eq] at h27)
      simp only [qz]
      refine rg_nil (ek_next (wk_cond_t rfl (wk_seq ?_)))
      refine wk_region [0, 0] rfl Kx ?_
      simp only [qy]
      refine rg_assign ?_
      simp only [qz]
      refine rg_assign ?_
      simp only [qz]
      refine rg_nil (ek_next (wk_ret (ek_then_ret (ek_block_ret (ek_then_ret (ek_then_ret (ek_block_ret (ek_block_ret (ek_then_ret (ek_then_ret (ek_block_ret (ek_block_ret (ek_then_ret (ek_block_ret (ek_block_ret (ek_then_ret (ek_then_ret (ek_block_ret (ek_then_ret ?_)))))))))))))))))))
      refine ek_ret (fun w hw => ⟨rfl, _, res_tt _ _ rfl, ?_⟩)
      (try simp only [qz])
      have hbn := btI_neg hk2.out h27
      have hes := edM_some (N := N) (xs := xs) (ys := ys) (i := i) (k := k) hnz
      rw [show btw (nm xs (i * N + k)) (nm ys (i * N + k)) = none from hbn] at hes
      have ha := none_no Ox Ox hes
      exact ⟨by rw [e1.out, e2.out, ha], hw.below⟩
     (try simp only [qd, ne_eq] at h26)
     simp only [qz]
     refine rg_nil (ek_next (wk_cond_t rfl (wk_skip (ek_next (wk_seq (wk_block (wk_seq ?_)))))))
     refine wk_draws _ _ [(0, 0), (1, 0), (3, 0), (2, 1), (4, 0), (5, 0), (6, 0), (7, 0), (8, 0), (9, 0)] [] Kx Kx (fun c d v a w h => by cases d <;> exact h) ((sc _ (sc _ (sc _ (sc _ (sc _ (sc _ sn))))))) (fun e => by first | exact absurd e (by decide) | rfl) ?_
     simp only [List.map_cons, List.map_nil, List.getD_cons_zero, List.getD_cons_succ]
     refine rf_loadR (n := 5) rfl rfl rfl Try.underlying29 rfl Kx (fun w hw => Kn.hd0 hw) rfl rfl ?_
     simp only [qz]
     refine rg_move ?_
     simp only [qz]
     refine rf_loadR (n := 5) rfl rfl rfl Try.underlying29 rfl Kx (fun w hw => Kn.hd0 (Kn.tl hw)) rfl rfl ?_
     simp only [qz]
     apply rg_pure Rx Kx
     case hargs => exact Ax
     case h => exact fun w hw => rTurned_any (nm xs (i * N + k)) t (ok_at hox (by have := ix_lt (show i < N by omega) (show k < N by omega); have := hlx.out; omega)) Ox w
     case hz => exact (fun _ h => by cases h; exact (sc _ (sc _ (sc _ (sc _ (sc _ (sc _ sn)))))))
     simp only [qz]
     refine rfb_eqN (Nm.turn t (nm xs (i * N + k))) (nm ys (i * N + k)) rfl rfl rfl rfl ?_
     intro x h31
     cases x
     ·(try simp only [qd, ne_eq] at h31)
      simp only [qz]
      refine rg_move ?_
      simp only [qz]
      refine rg_skip Rx ?_
      simp only [qz]
      refine rg_skip Rx ?_
      simp only [qz]
      refine rg_skip Rx ?_
      simp only [qz]
      refine rf_pick rfl rfl rfl ?_
      simp only [qz]
      refine rg_nil (ek_next (wk_cond_f rfl (wk_skip (ek_block (ek_next ?_)))))
      refine wk_region [0, 0, 0] rfl Kx ?_
      simp only [qy]
      refine rg_move ?_
      simp only [qz]
      refine rf_add rfl rfl rfl rfl (wrap_ok Ox Ox) ?_
      simp only [qz]
      refine rg_assign ?_
      simp only [qz]
      refine rg_nil ?_
      refine ek_roundF (8 - (t + 1)) Ox Kx ?_
      exact ⟨t + 1, v, rfl, rfl, by rfl, by rfl, Ox, (Lib.hid ((btI_no h31).trans hk2.out))⟩
     (try simp only [qd, ne_eq] at h31)
     simp only [qz]
     refine rg_move ?_
     simp only [qz]
     refine rf_loadR (n := 5) rfl rfl rfl Try.underlying29 rfl Kx (fun w hw => Kn.hd0 hw) rfl rfl ?_
     simp only [qz]
     refine rf_build (cs := fun a => #[.int .i64 0, .int .i64 0, .int .i64 0, .int .i64 0, .int .i64 0]) rfl rfl Kx ?_
     simp only [qz]
     refine rfb_neN (nm xs (i * N + k)) (Nm.zero) rfl rfl rfl rfl ?_
     intro x h32
     cases x
     ·(try simp only [qd, ne_eq] at h32)
      simp only [qz]
      exact absurd ⟨h32, by rw [← h31, h32, turn_zero]⟩ hnz
     (try simp only [qd, ne_eq] at h32)
     simp only [qz]
     refine rf_pick rfl rfl rfl ?_
     simp only [qz]
     refine rg_nil (ek_next (wk_cond_t rfl ?_))
     refine wk_region [0, 0] rfl Kx ?_
     simp only [qy]
     refine rg_move ?_
     simp only [qz]
     refine rg_assign ?_
     simp only [qz]
     refine rg_nil (ek_block (ek_next ?_))
     refine wk_region [0, 0, 0] rfl Kx ?_
     simp only [qy]
     refine rg_move ?_
     simp only [qz]
     refine rf_add rfl rfl rfl rfl (wrap_ok Ox Ox) ?_
     simp only [qz]
     refine rg_assign ?_
     simp only [qz]
     refine rg_nil ?_
     refine ek_roundF (8 - (t + 1)) Ox Kx ?_
     exact ⟨t + 1, (t : Int), rfl, rfl, by rfl, by rfl, Ox, (Lib.hid (btI_yes h31))⟩
    (try simp only [qd, ne_eq] at h25)
    simp only [qz]
    apply rg_soft_g
    case hg => rfl
    case hy => (intro w hw; go_simp; (try go_bits); exact Yld.mk _ _)
    simp only [qz]
    apply rg_soft_g
    case hg => rfl
    case hy => (intro w hw; go_simp; (try go_bits); exact Yld.mk _ _)
    simp only [qz]
    apply rg_soft_g
    case hg => rfl
    case hy => (intro w hw; go_simp; (try go_bits); exact Yld.mk _ _)
    simp only [qz]
    refine rf_indexS (n := k) (sz := 1) (j := k) rfl rfl rfl rfl Try.underlying37 Kx Ox Ox Ox ?_
    simp only [qz]
    refine rf_load (v := .int .i64 (T4 (N + k))) rfl rfl rfl Try.underlying3 rfl (fun w hw => tz_cell (Kn.hd0 (Kn.tl (Kn.tl (Kn.tl hw)))) (i := k) Ox) ?_
    simp only [qz]
    refine rfb_lss rfl rfl rfl rfl ?_
    intro x h33
    cases x
    ·(try simp only [qd, ne_eq] at h33)
     simp only [qz]
     refine rf_pick rfl rfl rfl ?_
     simp only [qz]
     refine rf_pick rfl rfl rfl ?_
     simp only [qz]
     refine rg_nil (ek_next (wk_cond_f rfl (wk_skip (ek_next (wk_seq ?_)))))
     have hnz : NotZ (nm xs (i * N + k)) (nm ys (i * N + k)) := (fun h => h24 (h.2.trans h.1.symm))
     refine wk_region [0] rfl Kx ?_
     simp only [qy]
     refine rg_assign ?_
     simp only [qz]
     refine rg_nil (ek_next (wk_seq (wk_seq ?_)))
     refine wk_region [0] rfl Kx ?_
     simp only [qy]
     refine rg_assign ?_
     simp only [qz]
     refine rg_nil (ek_next (wk_block ?_))
     refine wk_loopF [15, 16, 105, 106, 107, 108, 109, 110, 111, 112, 113, 114, 115, 116, 117, 118, 119] (fun mz f s => ∃ (t : Nat) (v : Int), f 15 = .int .i64 v ∧ f 16 = .int .i64 t ∧ s = ((gx, .cells #[.int .i64 (nm xs (i * N + k)).a, .int .i64 (nm xs (i * N + k)).b, .int .i64 (nm xs (i * N + k)).c, .int .i64 (nm xs (i * N + k)).d, .int .i64 (nm xs (i * N + k)).k] 29) :: ((gy, .cells #[.int .i64 (nm ys (i * N + k)).a, .int .i64 (nm ys (i * N + k)).b, .int .i64 (nm ys (i * N + k)).c, .int .i64 (nm ys (i * N + k)).d, .int .i64 (nm ys (i * N + k)).k] 29) :: ((gr, .cells (tzC (T4) N).toArray 3) :: ((gc, .cells (tzC (shA N T4) N).toArray 3) :: ((g2, .cells #[.int .i64 N, .slice a' ys.length c'] 24) :: ((g1, .cells #[.int .i64 N, .slice a xs.length c] 24) :: [])))))) ∧ mz = 8 - t ∧ t ≤ 8 ∧ Hid (btI (btK (nm xs (i * N + k)) (nm ys (i * N + k)) t) = v)) ((fun (t : Nat) (v : Int) => 8 - t) (0) ((-1))) ?_ Kx ?_
     ·exact ⟨0, (-1), rfl, rfl, rfl, rfl, by omega, (Lib.hid rfl)⟩
     rintro mz f9 s ⟨t, v, hs9_15, hs9_16, rfl, hn, hk1, hk2⟩
     simp only [Act.putF, List.foldl_cons, List.foldl_nil, hs9_15, hs9_16, Act.put, Act.eval, q1, q2, q3, q4, q5, q6, q7, q8, q9, q10, q11, q12, q13, q14, q15, q16, q17, q18, Nat.reduceAdd, Bool.not_true, Bool.not_false]
     clear hs9_15 hs9_16
     refine wk_seq (wk_seq ?_)
     refine wk_region [0, 0] rfl Kx ?_
     simp only [qy]
     refine rg_move ?_
     simp only [qz]
     refine rfb_lss rfl rfl rfl rfl ?_
     intro x h34
     cases x
     ·(try simp only [qd, ne_eq] at h34)
      simp only [qz]
      refine rg_nil (ek_next (wk_cond_f rfl (wk_exit (ek_then_exit (ek_then_exit (ek_block_exit (ek_next (wk_seq (wk_seq ?_)))))))))
      obtain rfl : t = 8 := by omega
      refine wk_region [0, 0] rfl Kx ?_
      simp only [qy]
      refine rg_move ?_
      simp only [qz]
      refine rfb_lss rfl rfl rfl rfl ?_
      intro x h35
      cases x
      ·(try simp only [qd, ne_eq] at h35)
       simp only [qz]
       obtain ⟨et, hbw, rfl⟩ := btI_some hk2.out Ox
       have hes := edM_some (N := N) (xs := xs) (ys := ys) (i := i) (k := k) hnz
       rw [show btw (nm xs (i * N + k)) (nm ys (i * N + k)) = some et from hbw] at hes
       have het := btw_lt (show btw (nm xs (i * N + k)) (nm ys (i * N + k)) = some et from hbw)
       have hr1 := hg3.rng i Ox
       have hr2 := hg3.rng (N + k) Ox
       refine rg_nil (ek_next (wk_cond_f rfl (wk_skip (ek_next (wk_block (wk_seq ?_))))))
       refine wk_region [0, 0, 0, 0, 0, 0] rfl Kx ?_
       simp only [qy]
       refine rg_move ?_
       simp only [qz]
       refine rg_move ?_
       simp only [qz]
       refine rf_indexS (n := i) (sz := 1) (j := i) rfl rfl rfl rfl Try.underlying37 Kx Ox Ox Ox ?_
       simp only [qz]
       refine rf_load (v := .int .i64 (T4 i)) rfl rfl rfl Try.underlying3 rfl (fun w hw => tz_cell (Kn.hd0 (Kn.tl (Kn.tl hw))) (i := i) Ox) ?_
       simp only [qz]
       refine rfb_lss rfl rfl rfl rfl ?_
       intro x h36
       cases x
       ·(try simp only [qd, ne_eq] at h36)
        simp only [qz]
        exfalso; omega
       (try simp only [qd, ne_eq] at h36)
       simp only [qz]
       refine rg_assign ?_
       simp only [qz]
       refine rg_nil (ek_next (wk_cond_t rfl ?_))
       refine wk_region [0, 0, 0, 0, 0, 0, 0, 0, 0, 0, 0, 1, 0] rfl Kx ?_
       simp only [qy]
       refine rg_move ?_
       simp only [qz]
       refine rg_move ?_
       simp only [qz]
       refine rg_move ?_
       simp only [qz]
       refine rg_move ?_
       simp only [qz]
       refine rg_move ?_
       simp only [qz]
       refine rf_indexS (n := k) (sz := 1) (j := k) rfl rfl rfl rfl Try.underlying37 Kx Ox Ox Ox ?_
       simp only [qz]
       refine rf_load (v := .int .i64 (T4 (N + k))) rfl rfl rfl Try.underlying3 rfl (fun w hw => tz_cell (Kn.hd0 (Kn.tl (Kn.tl (Kn.tl hw)))) (i := k) Ox) ?_
       simp only [qz]
       refine rf_sub rfl rfl rfl rfl (wrap_ok Ox Ox) ?_
       simp only [qz]
       refine rf_add rfl rfl rfl rfl (wrap_ok Ox Ox) ?_
       simp only [qz]
       refine rf_rem (r := ((et : Int) - T4 (N + k) + 8) % 8) rfl rfl rfl rfl Ox (Int.tmod_eq_emod_of_nonneg Ox) ?_
       simp only [qz]
       refine rf_indexS (n := i) (sz := 1) (j := i) rfl rfl rfl rfl Try.underlying37 Kx Ox Ox Ox ?_
       simp only [qz]
       refine rf_storeT (i := i) (z := ((et : Int) - T4 (N + k) + 8) % 8) (N := N) (R0 := T4) (R' := updA T4 i (((et : Int) - T4 (N + k) + 8) % 8)) rfl rfl Ox (fun _ => rfl) (Rep.there _ (Rep.there _ (Rep.here _))) Nz ?_
       simp only [qz]
       refine rg_assign ?_
       simp only [qz]
       refine rg_nil (ek_block (ek_block (ek_next ?_)))
       refine wk_region [0, 0, 0] rfl Kx ?_
       simp only [qy]
       refine rg_move ?_
       simp only [qz]
       refine rf_add rfl rfl rfl rfl (wrap_ok Ox Ox) ?_
       simp only [qz]
       refine rg_assign ?_
       simp only [qz]
       refine rg_nil ?_
       refine ek_sub (sk _ (sk _ (sc _ (sc _ (sc _ (sc _ sn)))))) ?_
       refine ek_roundF (N - (k + 1)) Ox Kx ?_
       exact ⟨k + 1, updA T4 i (((et : Int) - T4 (N + k) + 8) % 8), true, rfl, rfl, by rw [sh_row _ _ Ox], by rfl, Ox, Ox, (hg3.row Ox Ox hes Ox rfl), (by have h := unk_less (N := N) (T := T4) (v := i) (x := ((et : Int) - T4 (N + k) + 8) % 8) h25 Ox (2 * N) Ox; show _ + 1 ≤ _; omega), (Lib.hid sw_true)⟩
      (try simp only [qd, ne_eq] at h35)
      simp only [qz]
      refine rg_nil (ek_next (wk_cond_t rfl (wk_seq ?_)))
      refine wk_region [0, 0] rfl Kx ?_
      simp only [qy]
      refine rg_assign ?_
      simp only [qz]
      refine rg_assign ?_
      simp only [qz]
      refine rg_nil (ek_next (wk_ret (ek_then_ret (ek_block_ret (ek_then_ret (ek_then_ret (ek_block_ret (ek_block_ret (ek_then_ret (ek_then_ret (ek_block_ret (ek_block_ret (ek_then_ret (ek_block_ret (ek_block_ret (ek_then_ret (ek_then_ret (ek_block_ret (ek_then_ret ?_)))))))))))))))))))
      refine ek_ret (fun w hw => ⟨rfl, _, res_tt _ _ rfl, ?_⟩)
      (try simp only [qz])
      have hbn := btI_neg hk2.out h35
      have hes := edM_some (N := N) (xs := xs) (ys := ys) (i := i) (k := k) hnz
      rw [show btw (nm xs (i * N + k)) (nm ys (i * N + k)) = none from hbn] at hes
      have ha := none_no Ox Ox hes
      exact ⟨by rw [e1.out, e2.out, ha], hw.below⟩
     (try simp only [qd, ne_eq] at h34)
     simp only [qz]
     refine rg_nil (ek_next (wk_cond_t rfl (wk_skip (ek_next (wk_seq (wk_block (wk_seq ?_)))))))
     refine wk_draws _ _ [(0, 0), (1, 0), (3, 0), (2, 1), (4, 0), (5, 0), (6, 0), (7, 0), (8, 0), (9, 0)] [] Kx Kx (fun c d v a w h => by cases d <;> exact h) ((sc _ (sc _ (sc _ (sc _ (sc _ (sc _ sn))))))) (fun e => by first | exact absurd e (by decide) | rfl) ?_
     simp only [List.map_cons, List.map_nil, List.getD_cons_zero, List.getD_cons_succ]
     refine rf_loadR (n := 5) rfl rfl rfl Try.underlying29 rfl Kx (fun w hw => Kn.hd0 hw) rfl rfl ?_
     simp only [qz]
     refine rg_move ?_
     simp only [qz]
     refine rf_loadR (n := 5) rfl rfl rfl Try.underlying29 rfl Kx (fun w hw => Kn.hd0 (Kn.tl hw)) rfl rfl ?_
     simp only [qz]
     apply rg_pure Rx Kx
     case hargs => exact Ax
     case h => exact fun w hw => rTurned_any (nm xs (i * N + k)) t (ok_at hox (by have := ix_lt (show i < N by omega) (show k < N by omega); have := hlx.out; omega)) Ox w
     case hz => exact (fun _ h => by cases h; exact (sc _ (sc _ (sc _ (sc _ (sc _ (sc _ sn)))))))
     simp only [qz]
     refine rfb_eqN (Nm.turn t (nm xs (i * N + k))) (nm ys (i * N + k)) rfl rfl rfl rfl ?_
     intro x h37
     cases x
     ·(try simp only [qd, ne_eq] at h37)
      simp only [qz]
      refine rg_move ?_
      simp only [qz]
      refine rg_skip Rx ?_
      simp only [qz]
      refine rg_skip Rx ?_
      simp only [qz]
      refine rg_skip Rx ?_
      simp only [qz]
      refine rf_pick rfl rfl rfl ?_
      simp only [qz]
      refine rg_nil (ek_next (wk_cond_f rfl (wk_skip (ek_block (ek_next ?_)))))
      refine wk_region [0, 0, 0] rfl Kx ?_
      simp only [qy]
      refine rg_move ?_
      simp only [qz]
      refine rf_add rfl rfl rfl rfl (wrap_ok Ox Ox) ?_
      simp only [qz]
      refine rg_assign ?_
      simp only [qz]
      refine rg_nil ?_
      refine ek_roundF (8 - (t + 1)) Ox Kx ?_
      exact ⟨t + 1, v, rfl, rfl, by rfl, by rfl, Ox, (Lib.hid ((btI_no h37).trans hk2.out))⟩
     (try simp only [qd, ne_eq] at h37)
     simp only [qz]
     refine rg_move ?_
     simp only [qz]
     refine rf_loadR (n := 5) rfl rfl rfl Try.underlying29 rfl Kx (fun w hw => Kn.hd0 hw) rfl rfl ?_
     simp only [qz]
     refine rf_build (cs := fun a => #[.int .i64 0, .int .i64 0, .int .i64 0, .int .i64 0, .int .i64 0]) rfl rfl Kx ?_
     simp only [qz]
     refine rfb_neN (nm xs (i * N + k)) (Nm.zero) rfl rfl rfl rfl ?_
     intro x h38
     cases x
     ·(try simp only [qd, ne_eq] at h38)
      simp only [qz]
      exact absurd ⟨h38, by rw [← h37, h38, turn_zero]⟩ hnz
     (try simp only [qd, ne_eq] at h38)
     simp only [qz]
     refine rf_pick rfl rfl rfl ?_
     simp only [qz]
     refine rg_nil (ek_next (wk_cond_t rfl ?_))
     refine wk_region [0, 0] rfl Kx ?_
     simp only [qy]
     refine rg_move ?_
     simp only [qz]
     refine rg_assign ?_
     simp only [qz]
     refine rg_nil (ek_block (ek_next ?_))
     refine wk_region [0, 0, 0] rfl Kx ?_
     simp only [qy]
     refine rg_move ?_
     simp only [qz]
     refine rf_add rfl rfl rfl rfl (wrap_ok Ox Ox) ?_
     simp only [qz]
     refine rg_assign ?_
     simp only [qz]
     refine rg_nil ?_
     refine ek_roundF (8 - (t + 1)) Ox Kx ?_
     exact ⟨t + 1, (t : Int), rfl, rfl, by rfl, by rfl, Ox, (Lib.hid (btI_yes h37))⟩
    (try simp only [qd, ne_eq] at h33)
    simp only [qz]
    refine rf_pick rfl rfl rfl ?_
    simp only [qz]
    refine rf_pick rfl rfl rfl ?_
    simp only [qz]
    refine rg_nil (ek_next (wk_cond_t rfl (wk_exit (ek_then_exit (ek_block_exit (ek_next ?_))))))
    refine wk_region [0, 0, 0] rfl Kx ?_
    simp only [qy]
    refine rg_move ?_
    simp only [qz]
    refine rf_add rfl rfl rfl rfl (wrap_ok Ox Ox) ?_
    simp only [qz]
    refine rg_assign ?_
    simp only [qz]
    refine rg_nil ?_
    refine ek_sub (sk _ (sk _ (sc _ (sc _ (sc _ (sc _ sn)))))) ?_
    refine ek_roundF (N - (k + 1)) Ox Kx ?_
    exact ⟨k + 1, T4, ag2, rfl, rfl, by rfl, by rfl, Ox, Ox, hg3, hg4, (Lib.hid (hg5.out.next (okP_unk h25 h33)))⟩
   (try simp only [qd, ne_eq] at h24)
   simp only [qz]
   refine rf_pick rfl rfl rfl ?_
   simp only [qz]
   refine rg_move ?_
   simp only [qz]
   refine rg_skip Rx ?_
   simp only [qz]
   refine rg_skip Rx ?_
   simp only [qz]
   refine rg_skip Rx ?_
   simp only [qz]
   refine rg_skip Rx ?_
   simp only [qz]
   refine rg_skip Rx ?_
   simp only [qz]
   refine rg_skip Rx ?_
   simp only [qz]
   refine rg_skip Rx ?_
   simp only [qz]
   refine rg_skip Rx ?_
   simp only [qz]
   refine rg_skip Rx ?_
   simp only [qz]
   refine rg_skip Rx ?_
   simp only [qz]
   refine rg_skip Rx ?_
   simp only [qz]
   refine rg_skip Rx ?_
   simp only [qz]
   refine rf_pick rfl rfl rfl ?_
   simp only [qz]
   refine rg_nil (ek_next (wk_cond_t rfl (wk_exit (ek_then_exit (ek_block_exit (ek_next ?_))))))
   refine wk_region [0, 0, 0] rfl Kx ?_
   simp only [qy]
   refine rg_move ?_
   simp only [qz]
   refine rf_add rfl rfl rfl rfl (wrap_ok Ox Ox) ?_
   simp only [qz]
   refine rg_assign ?_
   simp only [qz]
   refine rg_nil ?_
   refine ek_sub (sk _ (sk _ (sc _ (sc _ (sc _ (sc _ sn)))))) ?_
   refine ek_roundF (N - (k + 1)) Ox Kx ?_
   exact ⟨k + 1, T4, ag2, rfl, rfl, by rfl, by rfl, Ox, Ox, hg3, hg4, (Lib.hid (hg5.out.next (okP_none (edM_none h9 (by rw [h24]; exact h9)))))⟩
  (try simp only [qd, ne_eq] at h4)
  simp only [qz]
  refine rg_nil (ek_next (wk_cond_t rfl (wk_skip (ek_next (wk_seq (wk_block ?_))))))
  refine wk_region [0, 0, 0, 0, 0, 1, 0, 1] rfl Kx ?_
  simp only [qy]
  refine rg_move ?_
  simp only [qz]
  refine rg_move ?_
  simp only [qz]
  refine rg_move ?_
  simp only [qz]
  refine rg_move ?_
  simp only [qz]
  refine rf_indexS (n := j) (sz := 1) (j := j) rfl rfl rfl rfl Try.underlying37 Kx Ox Ox Ox ?_
  simp only [qz]
  refine rf_storeT (i := j) (z := -1) (N := N) (R0 := iniA j) (R' := iniA (j + 1)) rfl rfl Ox (ini_step j) (Rep.here _) Nz ?_
  simp only [qz]
  refine rf_indexS (n := j) (sz := 1) (j := j) rfl rfl rfl rfl Try.underlying37 Kx Ox Ox Ox ?_
  simp only [qz]
  refine rf_storeT (i := j) (z := -1) (N := N) (R0 := iniA j) (R' := iniA (j + 1)) rfl rfl Ox (ini_step j) (Rep.there _ (Rep.here _)) Nz ?_
  simp only [qz]
  refine rg_nil (ek_block (ek_next ?_))
  refine wk_region [0, 0, 0] rfl Kx ?_
  simp only [qy]
  refine rg_move ?_
  simp only [qz]
  refine rf_add rfl rfl rfl rfl (wrap_ok Ox Ox) ?_
  simp only [qz]
  refine rg_assign ?_
  simp only [qz]
  refine rg_nil ?_
  refine ek_roundF (N - (j + 1)) Ox Kx ?_
  exact ⟨j + 1, rfl, by rfl, by rfl, Ox⟩
 (try simp only [qd, ne_eq] at h3)
 simp only [qz]
 refine rg_nil (ek_next (wk_cond_t rfl (wk_seq ?_)))
 refine wk_region [0, 0] rfl Kx ?_
 simp only [qy]
 refine rg_assign ?_
 simp only [qz]
 refine rg_assign ?_
 simp only [qz]
 refine rg_nil (ek_next (wk_ret (ek_then_ret ?_)))
 refine ek_ret (fun w hw => ⟨rfl, _, res_tt _ _ rfl, ?_⟩)
 (try simp only [qz])
 obtain ⟨e1, e2⟩ := alk_size (n := (N : Int)) (m := (M : Int)) (xs := xs) (ys := ys) (by rw [hv, hv2]; rfl) Ox
 exact ⟨by rw [e1, e2], hw.below⟩
section
variable {R : Option Nat} {P : Program} {ops : Array Oper} {Q : Exit → Act → World → Prop} {B : World} {F : List Nat} {fuel : Nat} {listed : Array Bool} {a : Act} {s : List Blk}
def RR (R : Option Nat) (P : Program) (ops : Array Oper) (Q : Exit → Act → World → Prop) (B : World) (F : List Nat) (fuel : Nat) (listed : Array Bool) (a : Act) (s : List Blk) : Prop :=
  ∀ w, Kn B F s w → wpAnyIn (FR R) 0 P .any ops Q fuel listed a w
abbrev QR (R : Option Nat) (P : Program) (ops : Array Oper) (Q : Exit → Act → World → Prop) (fuel : Nat) (listed : Array Bool) : Exit → Act → World → Prop :=
  Exit.then (wpAnyIn (FR R) 0 P .any ops Q fuel listed) Q
theorem ek_rr (h : RR R P ops Q B F fuel listed a s) : Ek B F (QR R P ops Q fuel listed) .normal a s := h
theorem oper_out {K : Act → World → Prop} {o : Oper} {w : World} (h : o.wpIn (FR R) 0 P a w K (Exit.then K Q)) : o.wpIn (FR R) 0 P a w K Q := by
 unfold Oper.wpIn at *
 refine ⟨h.1, ?_⟩
 have h := h.2
 generalize (o.semAt (FR R).round a.eval).run P w = r at *
 cases r with
 | ok n w' =>
  cases n <;> simp only [Oper.uponIn] at h ⊢ <;>
   first
    | exact h
    | exact ⟨h.1, CallsIn.mono h.2 (fun e w'' he => by cases e <;> first | exact he | (obtain ⟨a₀, w₀, h₀⟩ := he; exact ⟨a₀, w₀, h₀⟩))⟩
    | exact ⟨h.1, RoundIn.mono h.2 (fun e w'' he => by cases e <;> first | exact he | (obtain ⟨a₀, w₀, h₀⟩ := he; exact ⟨a₀, w₀, h₀⟩))⟩
 | halt x w' => cases x <;> simp only [Oper.uponIn] at h ⊢ <;> exact h
theorem op_one {i : Nat} {o : Oper} {K : Act → World → Prop} {w : World} (ho : ops[i]? = some o) (h : wpListIn (FR R) 0 P ops (Exit.then K Q) [o] a w) : wpOpIn (FR R) 0 P ops Q i K a w := by
 unfold wpOpIn
 simp only [ho]
 unfold wpListIn at h
 split
 ·next hw =>
  rw [if_pos hw] at h
  exact oper_out h
 ·next hw =>
  rw [if_neg hw] at h
  exact h
theorem rr_step {f : Nat} {o : Oper} {listed' : Array Bool} (hd : noDefer [o] = true) (h : Rg R P ops (QR R P ops Q fuel listed') B F none [(o, f)] a s) (w : World) (K : Kn B F s w) :
    wpListIn (FR R) 0 P ops (QR R P ops Q fuel listed') [o] a w := rg_text [(o, f)] a s hd h w K
theorem any_ready {rs : List Nat} {w : World} (hr : Region.ready .any ops listed = rs) (hne : rs ≠ []) (h : ∀ i ∈ rs, wpOpIn (FR R) 0 P ops Q i (wpAnyIn (FR R) 0 P .any ops Q fuel (listed.setIfInBounds i true)) a w) : wpAnyIn (FR R) 0 P .any ops Q (fuel + 1) listed a w :=
  ⟨fun h0 => absurd (hr ▸ h0) hne, hr ▸ h⟩
theorem rr_hard1 {i f : Nat} {o : Oper} (hr : Region.ready .any ops listed = [i]) (ho : ops[i]? = some o) (hd : noDefer [o] = true)
    (h : Rg R P ops (QR R P ops Q fuel (listed.setIfInBounds i true)) B F none [(o, f)] a s) : RR R P ops Q B F (fuel + 1) listed a s := fun w K =>
  any_ready hr (by simp) fun k hk => by
    obtain rfl : k = i := by simpa using hk
    exact op_one ho (rr_step hd h w K)
theorem rr_hard2 {i j f g : Nat} {o u : Oper} (hr : Region.ready .any ops listed = [i, j]) (ho : ops[i]? = some o) (hu : ops[j]? = some u) (hd : noDefer [o] = true) (hd' : noDefer [u] = true)
    (h : Rg R P ops (QR R P ops Q fuel (listed.setIfInBounds i true)) B F none [(o, f)] a s)
    (h' : Rg R P ops (QR R P ops Q fuel (listed.setIfInBounds j true)) B F none [(u, g)] a s) : RR R P ops Q B F (fuel + 1) listed a s := fun w K =>
  any_ready hr (by simp) fun k hk => by
    rcases (by simpa using hk : k = i ∨ k = j) with rfl | rfl
    · exact op_one ho (rr_step hd h w K)
    · exact op_one hu (rr_step hd' h' w K)
theorem rr_hard3 {i j k f g e : Nat} {o u v : Oper} (hr : Region.ready .any ops listed = [i, j, k]) (ho : ops[i]? = some o) (hu : ops[j]? = some u) (hv : ops[k]? = some v) (hd : noDefer [o] = true) (hd' : noDefer [u] = true) (hd'' : noDefer [v] = true)
    (h : Rg R P ops (QR R P ops Q fuel (listed.setIfInBounds i true)) B F none [(o, f)] a s)
    (h' : Rg R P ops (QR R P ops Q fuel (listed.setIfInBounds j true)) B F none [(u, g)] a s)
    (h'' : Rg R P ops (QR R P ops Q fuel (listed.setIfInBounds k true)) B F none [(v, e)] a s) : RR R P ops Q B F (fuel + 1) listed a s := fun w K =>
  any_ready hr (by simp) fun x hx => by
    rcases (by simpa using hx : x = i ∨ x = j ∨ x = k) with rfl | rfl | rfl
    · exact op_one ho (rr_step hd h w K)
    · exact op_one hu (rr_step hd' h' w K)
    · exact op_one hv (rr_step hd'' h'' w K)
theorem rr_nil (hr : (Region.ready .any ops listed).isEmpty = true) (h : Ek B F Q .normal a s) : RR R P ops Q B F 0 listed a s := fun w K => ⟨by simpa using hr, h w K⟩
theorem wk_rr {id : Nat} {l : List Oper} (hm : P.follows .mixedOrders = true) (h : RR R P l.toArray Q B F l.length (Array.replicate l.length false) a s) :
    Wk R P B F Q a s (Code.region id l.toArray true) := fun w K => wpIn_region_any hm (by
      have := h w.drew K.drew
      simpa using this)
end
theorem sInfo : (Try.prog.info? 37).map (fun i => (i.zero, i.size, i.bytes)) = some (some (.slice none 0 0), 1, 24) := by kernel_rfl
inductive RowsZ : List Blk → List Value → List (List Int) → Prop
  | nil : RowsZ [] [] []
  | snoc {us : List Blk} {hs : List Value} {rows : List (List Int)} {u : List Blk} {h : Value} {row : List Int} : RowsZ us hs rows → OwnZ u h row → RowsZ (u ++ us) (hs ++ [h]) (rows ++ [row])
theorem RowsZ.len {us : List Blk} {hs : List Value} {rows : List (List Int)} (h : RowsZ us hs rows) : hs.length = rows.length := by
 induction h with
 | nil => rfl
 | snoc _ _ ih => simp [ih]
theorem RowsZ.cells {us : List Blk} {hs : List Value} {rows : List (List Int)} (h : RowsZ us hs rows) : ∀ v ∈ hs, v.oneCell' = true := by
 induction h with
 | nil => intro v hv; simp at hv
 | snoc _ hO ih =>
  intro v hv
  rcases List.mem_append.1 hv with hv | hv
  ·exact ih v hv
  ·obtain ⟨a, c, e, _⟩ := Own.val hO
   simp at hv
   rw [hv, e]
   rfl
theorem RowsZ.as {us : List Blk} {hs : List Value} {rows : List (List Int)} (h : RowsZ us hs rows) : ∀ {B w : World} {F : List Nat} {s : List Blk}, Kn B F s w → us.Sublist s → ∀ k, k < rows.length → ∃ a c, hs[k]? = some (.slice a (rows.getD k []).length c) ∧ AS w a (zs (rows.getD k [])) := by
 induction h with
 | nil => intro B w F s K hs k hk; simp at hk
 | @snoc us hs rows u h row h0 hO ih =>
  intro B w F s K hsub k hk
  have hl := h0.len
  rcases (by simp at hk; omega : k < rows.length ∨ k = rows.length) with hk | rfl
  ·obtain ⟨a, c, h1, h2⟩ := ih K ((List.sublist_append_right _ _).trans hsub) k hk
   have e : (rows ++ [row]).getD k [] = rows.getD k [] := by rw [List.getD_eq_getElem?_getD, List.getElem?_append_left hk, ← List.getD_eq_getElem?_getD]
   rw [e]
   exact ⟨a, c, by rw [List.getElem?_append_left Ox]; exact h1, h2⟩
  ·have e : (rows ++ [row]).getD rows.length [] = row := by simp [List.getD_eq_getElem?_getD]
   rw [e]
   have K' := K.sub ((List.sublist_append_left u us).trans hsub)
   obtain ⟨a, c, e1, e2⟩ := Own.as (s := []) hO (by rw [List.append_nil]; exact K')
   refine ⟨a, c, ?_, e2⟩
   rw [List.getElem?_append_right Ox]
   simp [hl, e1]
theorem RowsZ.row {us : List Blk} {hs : List Value} {rows : List (List Int)} (h : RowsZ us hs rows) : ∀ k, k < rows.length → ∃ a c u, hs[k]? = some (.slice a (rows.getD k []).length c) ∧ OwnZ u (.slice a (rows.getD k []).length c) (rows.getD k []) ∧ u.Sublist us := by
 induction h with
 | nil => intro k hk; simp at hk
 | @snoc us hs rows u h row h0 hO ih =>
  intro k hk
  have hl := h0.len
  rcases (by simp at hk; omega : k < rows.length ∨ k = rows.length) with hk | rfl
  ·obtain ⟨a, c, u', h1, h2, h3⟩ := ih k hk
   have e : (rows ++ [row]).getD k [] = rows.getD k [] := by rw [List.getD_eq_getElem?_getD, List.getElem?_append_left hk, ← List.getD_eq_getElem?_getD]
   rw [e]
   exact ⟨a, c, u', by rw [List.getElem?_append_left Ox]; exact h1, h2, h3.trans (List.sublist_append_right _ _)⟩
  ·have e : (rows ++ [row]).getD rows.length [] = row := by simp [List.getD_eq_getElem?_getD]
   rw [e]
   obtain ⟨a, c, rfl, _⟩ := Own.val hO
   exact ⟨a, c, u, by rw [List.getElem?_append_right Ox]; simp [hl], hO, List.sublist_append_left _ _⟩
def OwnL (U : List Blk) (v : Value) (rows : List (List Int)) : Prop := ∃ u us hs, U = u ++ us ∧ Own 37 1 u v rows.length hs ∧ RowsZ us hs rows
theorem OwnL.nil : OwnL [] (.slice none 0 0) [] := ⟨[], [], [], rfl, Own.nil _ _, .nil⟩
def RetL (w : World) (rows : List (List Int)) (c : Int) (e : Ending) (w' : World) : Prop := ∃ v U, e = .returned (.tuple #[v, .int .i64 c]) ∧ OwnL U v rows ∧ Made w U w'
def RoundsP (L M lp : Nat) (r : Loop) (C : List (List Int) → List Blk → Prop) : Prop :=
  r.params.size = 1 ∧ (∀ ys s, C ys s → (lp, Obj.loop r) ∈ s) ∧
  ∀ (R : Option Nat) (B : World) (F : List Nat) (ys : List (List Int)) (row : List Int) (u : List Blk) (v : Value) (s rest : List Blk) (w : World), 0 < row.length → row.length = M → ys.length < L → C ys s → OwnZ u v row → Kn B F (u ++ (s ++ rest)) w →
    RoundIn (FR R) 0 Try.prog lp r.fn ((r.params.zip #[v]).foldl (fun tmps (t, a) => tmps.setIfInBounds t a) r.tmps) r.assign r.body w
      (fun e w' => ∃ s', e = .returned (.bool true) ∧ C (ys ++ [row]) s' ∧ Kn B F (s' ++ rest) w')
section
variable {R : Option Nat} {ops : Array Oper} {Q : Exit → Act → World → Prop} {B : World} {F : List Nat} {s0 : Option (List Blk × List Blk)}
variable {l lst : List (Oper × Nat)} {a : Act} {s S : List Blk} {d : Option Tmp} {op : Op} {t : TypeId} {p : String} {af : Array Edge} {v : Value}
theorem rg_yieldP {C : List (List Int) → List Blk → Prop} {L M lp : Nat} {r : Loop} {ys : List (List Int)} {row : List Int} {u sC rest : List Blk} {fo : Operand} {cargs : Array Operand} {at_ : Array TypeId} {gd : Option (Nat × Bool)}
    (hR : RoundsP L M lp r C) (hC : C ys sC) (hl0 : 0 < row.length) (hl1 : row.length = M) (hy : ys.length < L) (hO : OwnZ u v row) (hp : S.Perm (u ++ (sC ++ rest)))
    (hg : Region.wanted ⟨d, .call ⟨.value fo, cargs, at_⟩, t, p, af, gd⟩ (yielded ops a.tmps) = true)
    (hf : a.eval fo = .func (.yield lp) #[] #[]) (hargs : cargs.map a.eval = #[v])
    (h : ∀ s', C (ys ++ [row]) s' → Rg R Try.prog ops Q B F none lst (a.put d (.bool true)) (s' ++ rest)) :
    Rg R Try.prog ops Q B F none ((⟨d, .call ⟨.value fo, cargs, at_⟩, t, p, af, gd⟩, 1) :: lst) a S := by
  refine rg_yield (r := r) hg hf hargs hR.1.symm (hp.mem_iff.2 (List.mem_append_right _ (List.mem_append_left _ (hR.2.1 ys sC hC)))) fun w K => ?_
  exact (hR.2.2 R B F ys row u v sC rest w hl0 hl1 hy hC hO (K.perm hp)).mono fun e w' ⟨s', he, hC', hK⟩ => ⟨_, _, he, hK, h s' hC'⟩
theorem rg_consZ {so xo : Operand} {row : List Int} {g : Nat} {x : Int} {gd : Option (Nat × Bool)} (hg : Region.wanted ⟨d, .call ⟨.builtin .append, #[so, xo], #[37, 37]⟩, t, p, af, gd⟩ (yielded ops a.tmps) = true)
    (hs : a.eval so = .slice (some ⟨g, 0, none⟩) 1 1) {ad : Addr} {c : Nat} (hx : a.eval xo = .slice (some ad) row.length c) (hA : ∀ w, Kn B F S w → AS w (some ad) (zs row)) (hn : row.length ≤ 1000) (hne : 0 < row.length)
    (hp : S.Perm ((g, .cells #[.int .i64 x] 3) :: s)) (hzz : ∀ z ∈ s0, z.1.Sublist s)
    (h : ∀ u' a' c', OwnZ u' (.slice a' (row.length + 1) c') (x :: row) → Rg R Try.prog ops Q B F s0 l (a.put d (.slice a' (row.length + 1) c')) (u' ++ s)) :
    Rg R Try.prog ops Q B F s0 ((⟨d, .call ⟨.builtin .append, #[so, xo], #[37, 37]⟩, t, p, af, gd⟩, 1) :: l) a S := by
  obtain ⟨i, hi, hz, hsz, hb⟩ := info_partsN zInfo
  refine rg_append (u := [(g, .cells #[.int .i64 x] 3)]) (s := s) (i := i) (z := .int .i64 0) (size := 1) (bytes := 8) (n := 1) (m := row.length) (xs := [.int .i64 x]) (news := zs row) (ad := ad) hg
    Try.underlying37 hi hz hsz hb rfl (by decide) hs (Own.whole (cur := #[.int .i64 x]) rfl (by simp only [maxLen]; omega)) hx (by simp) ?_ (by simp [Value.oneCell']) (by simp only [maxLen]; omega) Ox hp hzz ?_
  · intro w K j y hj
    have hne' : zs row ≠ [] := by intro e; simp at e; subst e; simp at hne
    obtain ⟨b, off, e, _, hc⟩ := hA w K hne'
    cases e
    have hj' : j < (zs row).length := by
      rcases Nat.lt_or_ge j (zs row).length with h | h
      · exact h
      · rw [List.getElem?_eq_none h] at hj; cases hj
    have hq := hc j hj'
    have e1 : (⟨b, off, none⟩ : Addr).add j = ⟨b, off + j, none⟩ := Addr.add_mid ..
    rw [e1, hq, hj]
  · intro u' v' hO _
    obtain ⟨a', c', rfl, -⟩ := Own.val hO
    have e : 1 + row.length = row.length + 1 := by omega
    rw [e] at hO ⊢
    exact h u' a' c' hO
theorem rg_appL {so xo : Operand} {u : List Blk} {hs : List Value} {n g : Nat} {h : Value} {gd : Option (Nat × Bool)} (hg : Region.wanted ⟨d, .call ⟨.builtin .append, #[so, xo], #[33, 33]⟩, t, p, af, gd⟩ (yielded ops a.tmps) = true)
    (hs0 : a.eval so = v) (hown : Own 37 1 u v n hs) (hx : a.eval xo = .slice (some ⟨g, 0, none⟩) 1 1) (hn : n ≤ 1000000) (h1 : h.oneCell' = true) (hp : S.Perm (u ++ s))
    (hnews : ∀ w, Kn B F S w → Hd w g 37 #[h]) (hzz : ∀ z ∈ s0, z.1.Sublist s)
    (k : ∀ u' a' c', Own 37 1 u' (.slice a' (n + 1) c') (n + 1) (hs ++ [h]) → Rg R Try.prog ops Q B F s0 l (a.put d (.slice a' (n + 1) c')) (u' ++ s)) :
    Rg R Try.prog ops Q B F s0 ((⟨d, .call ⟨.builtin .append, #[so, xo], #[33, 33]⟩, t, p, af, gd⟩, 1) :: l) a S := by
  obtain ⟨i, hi, hz, hsz, hb⟩ := info_partsN sInfo
  refine rg_append (u := u) (s := s) (i := i) (z := .slice none 0 0) (size := 1) (bytes := 24) (n := n) (m := 1) (c := 1) (xs := hs) (news := [h]) (ad := ⟨g, 0, none⟩) hg
    Try.underlying33 hi hz hsz hb rfl (by decide) hs0 hown hx Rx ?_ (by simpa using h1) (by simp only [maxLen]; omega) Ox hp hzz ?_
  · intro w K j y hj
    have hd := (hnews w K).cell
    match j, hj with
    | 0, hj => simp only [List.getElem?_cons_zero, Option.some.injEq] at hj; subst hj; exact hd 0
    | j + 1, hj => simp at hj
  · intro u' v' hO _
    obtain ⟨a', c', rfl, -⟩ := Own.val hO
    exact k u' a' c' hO
end
section
variable {R : Option Nat} {ops : Array Oper} {Q : Exit → Act → World → Prop} {B : World} {F : List Nat} {s0 : Option (List Blk × List Blk)}
variable {l : List (Oper × Nat)} {a : Act} {s S : List Blk} {d : Option Tmp} {op : Op} {t : TypeId} {p : String} {af : Array Edge} {v : Value}
theorem rg_retL {f : Nat} {cargs : Array Operand} {at_ : Array TypeId} {args : Array Value} {c : Int} {rows : List (List Int)} {P : Program} {gd : Option (Nat × Bool)} (hg : Region.wanted ⟨d, .call ⟨.value (.func f), cargs, at_⟩, t, p, af, gd⟩ (yielded ops a.tmps) = true) (hgo : isGo P f = true)
    (h : ∀ w, Kn B F s w → Calls P f args w (RetL w rows c)) (hargs : cargs.map a.eval = args)
    (hz : ∀ z ∈ s0, z.1.Sublist s) (k : ∀ (va : Option Addr) (vc : Nat) (u : List Blk), OwnL u (.slice va rows.length vc) rows → Rg R P ops Q B F s0 l (a.put d (.tuple #[.slice va rows.length vc, .int .i64 c])) (u ++ s)) :
    Rg R P ops Q B F s0 ((⟨d, .call ⟨.value (.func f), cargs, at_⟩, t, p, af, gd⟩, 1) :: l) a s :=
  rg_call hg hgo hargs fun w K => (h w K).mono fun e w' ⟨v, u, he, hO, hm⟩ => by
    obtain ⟨u1, us, hs, e1, hO1, hR1⟩ := hO
    obtain ⟨a', c', rfl, -⟩ := Own.val hO1
    exact ⟨_, u ++ s, he, K.add hm, fun z hz' => (hz z hz').trans (List.sublist_append_right _ _), k a' c' u ⟨u1, us, hs, e1, hO1, hR1⟩⟩
end
def marksD (ds : List Nat) : List Blk := ds.map fun d => (d, .deferred (some []))
def collD (ds : List Nat) : List Deferred := ds.map fun d => ⟨.collected d, #[]⟩
section
variable {R : Option Nat} {P : Program} {Q : Exit → Act → World → Prop} {B : World} {F : List Nat} {a : Act} {s : List Blk} {X : Ending → World → Prop}
theorem leaves_marks {fn : Func} {tmps : Array Value} (h : ∀ w, Kn B F s w → ∃ v, (results fn tmps).run P w = .ok v w ∧ X (.returned v) w) : ∀ (ds : List Nat) (w : World), Kn B F (marksD ds ++ s) w → LeavesInM (FR none) 0 P fn tmps X (collD ds) .returning w
  | [], w, K => h w K
  | d :: ds, w, K => ⟨by simp, .inl ⟨d, _, rfl, run_takeDeferred (K.own (d, .deferred (some [])) (by simp [marksD])), leaves_marks h ds _ ((K.rep (Rep.here _)).tl)⟩⟩
theorem ek_normMn {fn : Func} {tmps : Array Value} (ds : List Nat) (h : ∀ w, Kn B F s w → ∃ v, (results fn tmps).run P w = .ok v w ∧ X (.returned v) w) :
    Ek B F (bodyPostM (FR none) 0 P fn X) .normal ⟨tmps, collD ds⟩ (marksD ds ++ s) := fun w K => leaves_marks h ds w K
theorem ek_retMn {fn : Func} {tmps : Array Value} (ds : List Nat) (h : ∀ w, Kn B F s w → ∃ v, (results fn tmps).run P w = .ok v w ∧ X (.returned v) w) :
    Ek B F (bodyPostM (FR none) 0 P fn X) .ret ⟨tmps, collD ds⟩ (marksD ds ++ s) := fun w K => leaves_marks h ds w K
def RelD (W : List Nat) (a0 : Act) (J : Nat → (Nat → Value) → List Deferred → List Blk → Prop) : Nat → Act → List Blk → Prop := fun n a s => ∃ f, a = ⟨(Act.putF a0 W f).tmps, a.defers⟩ ∧ J n f a.defers s
theorem wk_loopD {c : Code} (W : List Nat) (J : Nat → (Nat → Value) → List Deferred → List Blk → Prop) (n : Nat) (h0 : J n (Act.valF a) a.defers s) (ha : a = Act.putF a W (Act.valF a))
    (round : ∀ n f ds s, J n f ds s → Wk R P B F (Exit.then (Rnd B F (RelD W a J) n) Q) ⟨(Act.putF a W f).tmps, ds⟩ s c) : Wk R P B F Q a s (.loop c) :=
  wk_loop (RelD W a J) n ⟨_, ha, h0⟩ fun n a' s' h => by
    obtain ⟨f, ha', hJ⟩ := h
    rw [ha']
    exact round n f a'.defers s' hJ
theorem ek_roundD {W : List Nat} {a0 : Act} {J : Nat → (Nat → Value) → List Deferred → List Blk → Prop} {n : Nat} (m : Nat) (hm : m < n) (ha : a = ⟨(Act.putF a0 W (Act.valF a)).tmps, a.defers⟩) (h : J m (Act.valF a) a.defers s) :
    Ek B F (Exit.then (Rnd B F (RelD W a0 J) n) Q) .normal a s := ek_round m hm ⟨_, ha, h⟩
end
end Go.Proofs.Ytjeijnjaleldkaa
