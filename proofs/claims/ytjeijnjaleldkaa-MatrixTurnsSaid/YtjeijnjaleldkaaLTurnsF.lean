/- Texts in one: Ws3, Pe1, Pe2, Pe3, Pe4, Pe5, LtPl, La0, La2. -/
import Derived.Test.YtjeijnjaleldkaaLTurnsE
namespace Go.Proofs.Ytjeijnjaleldkaa
set_option linter.all false
set_option maxRecDepth 100000
set_option maxHeartbeats 1000000
open Go.RowKit
theorem ar_idx {Y : Nat → Int} {k : Nat} (h : k < 4) : (#[.int .i64 (Y 0), .int .i64 (Y 1), .int .i64 (Y 2), .int .i64 (Y 3)] : Array Value)[k]? = some (.int .i64 (Y k)) := by
 rcases lt4 h with rfl | rfl | rfl | rfl <;> rfl
theorem smtimes_any (X Y : Nat → Int) (hY : ∀ k, k < 4 → -9223372036854775807 ≤ Y k ∧ Y k ≤ 9223372036854775807) (w : World) : Calls Try.prog 85 #[.agg (smC X), .agg #[.int .i64 (Y 0), .int .i64 (Y 1), .int .i64 (Y 2), .int .i64 (Y 3)]] w fun e w' => e = .returned (.agg (smC (acc X Y 16))) ∧ Below w.heap.size w w' := by
 go_enter Try.func85, Try.ntmps85
 refine wk_start ?_
 refine wk_seq ?_
 refine wk_region [1, 1, 1] rfl Kx ?_
 simp only [qy]
 refine Rgn fun g1 => ?_
 simp only [qz]
 refine Rgn fun g2 => ?_
 simp only [qz]
 refine Rgn fun g3 => ?_
 simp only [qz]
 refine rg_nil (ek_next (wk_seq ?_))
 refine wk_region [1] rfl Kx ?_
 simp only [qy]
 refine Rgn fun g4 => ?_
 simp only [qz]
 refine rg_nil (ek_next (wk_seq (wk_seq ?_)))
 have hz24 := sm_zero
 rw [show ([(g4, Obj.cells (#[.int .u64 0, .int .u64 0, .int .u64 0, .int .u64 0, .int .u64 0, .int .u64 0, .int .u64 0, .int .u64 0, .int .u64 0, .int .u64 0, .int .u64 0, .int .u64 0, .int .u64 0, .int .u64 0, .int .u64 0, .int .u64 0, .int .u64 0, .int .u64 0, .int .u64 0, .int .u64 0, .int .u64 0, .int .u64 0, .int .u64 0, .int .u64 0]) 107), (g3, Obj.cells (#[.int .u64 0, .int .u64 0, .int .u64 0, .int .u64 0, .int .u64 0, .int .u64 0, .int .u64 0, .int .u64 0, .int .u64 0, .int .u64 0, .int .u64 0, .int .u64 0, .int .u64 0, .int .u64 0, .int .u64 0, .int .u64 0, .int .u64 0, .int .u64 0, .int .u64 0, .int .u64 0, .int .u64 0, .int .u64 0, .int .u64 0, .int .u64 0]) 107), (g2, Obj.cells (#[.int .i64 (Y 0), .int .i64 (Y 1), .int .i64 (Y 2), .int .i64 (Y 3)]) 27), (g1, Obj.cells (smC X) 107)] : List Blk) = [(g4, Obj.cells (smC fun _ => 0) 107), (g3, Obj.cells (#[.int .u64 0, .int .u64 0, .int .u64 0, .int .u64 0, .int .u64 0, .int .u64 0, .int .u64 0, .int .u64 0, .int .u64 0, .int .u64 0, .int .u64 0, .int .u64 0, .int .u64 0, .int .u64 0, .int .u64 0, .int .u64 0, .int .u64 0, .int .u64 0, .int .u64 0, .int .u64 0, .int .u64 0, .int .u64 0, .int .u64 0, .int .u64 0]) 107), (g2, Obj.cells (#[.int .i64 (Y 0), .int .i64 (Y 1), .int .i64 (Y 2), .int .i64 (Y 3)]) 27), (g1, Obj.cells (smC X) 107)] from congrArg (fun c => [(g4, Obj.cells c 107), (g3, Obj.cells (#[.int .u64 0, .int .u64 0, .int .u64 0, .int .u64 0, .int .u64 0, .int .u64 0, .int .u64 0, .int .u64 0, .int .u64 0, .int .u64 0, .int .u64 0, .int .u64 0, .int .u64 0, .int .u64 0, .int .u64 0, .int .u64 0, .int .u64 0, .int .u64 0, .int .u64 0, .int .u64 0, .int .u64 0, .int .u64 0, .int .u64 0, .int .u64 0]) 107), (g2, Obj.cells (#[.int .i64 (Y 0), .int .i64 (Y 1), .int .i64 (Y 2), .int .i64 (Y 3)]) 27), (g1, Obj.cells (smC X) 107)]) hz24]
 clear hz24
 refine wk_region [0, 0] rfl Kx ?_
 simp only [qy]
 refine rf_loadC (n := 24) (vs := (smC X).toList) rfl rfl rfl Try.underlying107 rfl Kx rfl (fun w hw => sm_all (Kn.hd0 (Kn.tl (Kn.tl (Kn.tl hw))))) ?_
 rw [show (smC X).toList.toArray = smC X by simp]
 simp only [qz]
 refine rg_move ?_
 simp only [qz]
 refine rg_nil (ek_next (wk_block ?_))
 refine wk_loopF [6, 7, 8, 9, 11, 12, 13, 14, 15, 16, 17, 18, 19, 20, 21, 22, 23, 24, 25, 26, 27, 28, 29, 30, 31, 32, 33, 34, 35, 36, 37, 38, 39, 40, 41, 42] (fun mz f s => ∃ (i : Nat) (T : Nat → Int), f 11 = .int .i64 i ∧ s = ((g4, .cells (smC T) 107) :: ((g3, .cells #[.int .u64 0, .int .u64 0, .int .u64 0, .int .u64 0, .int .u64 0, .int .u64 0, .int .u64 0, .int .u64 0, .int .u64 0, .int .u64 0, .int .u64 0, .int .u64 0, .int .u64 0, .int .u64 0, .int .u64 0, .int .u64 0, .int .u64 0, .int .u64 0, .int .u64 0, .int .u64 0, .int .u64 0, .int .u64 0, .int .u64 0, .int .u64 0] 107) :: ((g2, .cells #[.int .i64 (Y 0), .int .i64 (Y 1), .int .i64 (Y 2), .int .i64 (Y 3)] 27) :: ((g1, .cells (smC X) 107) :: [])))) ∧ mz = 4 - i ∧ i ≤ 4 ∧ Hid (acc X Y (i * 4) = T)) ((fun (i : Nat) (T : Nat → Int) => 4 - i) (0) (fun _ => 0)) ?_ Kx ?_
 ·exact ⟨0, fun _ => 0, rfl, rfl, rfl, by omega, (Lib.hid rfl)⟩
 rintro mz f1 s ⟨i, T, hs1_11, rfl, hn, hd1, hd2⟩
 simp only [Act.putF, List.foldl_cons, List.foldl_nil, hs1_11, Act.put, Act.eval, q1, q2, q3, q4, q5, q6, q7, q8, q9, q10, q11, q12, q13, q14, q15, q16, q17, q18, Nat.reduceAdd, Bool.not_true, Bool.not_false]
 clear hs1_11
 have hac := hd2
 clear hd2
 refine wk_seq ?_
 refine wk_region [0] rfl Kx ?_
 simp only [qy]
 refine rfb_lss rfl rfl rfl rfl ?_
 intro x h1
 cases x
 ·(try simp only [qd, ne_eq] at h1)
  simp only [qz]
  refine rg_nil (ek_next (wk_seq (wk_cond_f rfl (wk_exit (ek_then_exit (ek_then_exit (ek_block_exit (ek_next (wk_seq ?_)))))))))
  obtain rfl : i = 4 := by omega
  refine wk_region [0, 1] rfl Kx ?_
  simp only [qy]
  refine rf_loadC (n := 24) (vs := (smC T).toList) rfl rfl rfl Try.underlying107 rfl Kx rfl (fun w hw => sm_all (Kn.hd0 hw)) ?_
  simp only [qz]
  refine rf_storeR (n := 24) (vs := (smC T).toList) rfl rfl Kx rfl rfl (UpdR.there _ (UpdR.here _ _ _ Nl)) Nz ?_
  rw [sm_whole]
  simp only [qz]
  refine rg_nil (ek_next (wk_ret ?_))
  refine ek_ret (fun w hw => ⟨rfl, _, run_results1 rfl rfl (Kn.hd0 (Kn.tl hw)) Try.underlying107 rfl Kx, ?_⟩)
  (try simp only [qz])
  exact ⟨by rw [show acc X Y 16 = T from hac.out], hw.below⟩
 (try simp only [qd, ne_eq] at h1)
 simp only [qz]
 refine rg_nil (ek_next (wk_seq (wk_cond_t rfl (wk_skip (ek_next (wk_seq (wk_block (wk_seq ?_))))))))
 refine wk_region [0, 0, 1, 0, 1] rfl Kx ?_
 simp only [qy]
 refine rg_move ?_
 simp only [qz]
 refine rf_idxR (n := i) (sz := 6) rfl rfl rfl rfl Try.underlying107 Try.underlying105 rfl Kx Ox (sm_idx Ox) ?_
 simp only [qz]
 refine Rgn fun g5 => ?_
 simp only [qz]
 refine rg_assign ?_
 simp only [qz]
 refine rf_storeR (n := 6) rfl rfl Kx rfl rfl (UpdR.here _ _ _ Nl) Nz ?_
 simp only [qz, Nat.reduceAdd]
 refine rg_nil (ek_next (wk_seq ?_))
 refine wk_region [0, 0] rfl Kx ?_
 simp only [qy]
 refine rf_loadR (n := 4) rfl rfl rfl Try.underlying27 rfl Kx (fun w hw => Kn.hd0 (Kn.tl (Kn.tl (Kn.tl hw)))) rfl rfl ?_
 simp only [qz]
 refine rg_move ?_
 simp only [qz]
 refine rg_nil (ek_next (wk_block ?_))
 refine wk_loopF [8, 9, 16, 17, 18, 19, 20, 21, 22, 23, 24, 25, 26, 27, 28, 29, 30, 31, 32, 33, 34, 35, 36, 37, 38, 39, 40, 41] (fun mz f s => ∃ (k : Nat) (T2 : Nat → Int), f 16 = .int .i64 k ∧ s = ((g5, .cells (w6L (W6.of (X i))).toArray 105) :: ((g4, .cells (smC T2) 107) :: ((g3, .cells #[.int .u64 0, .int .u64 0, .int .u64 0, .int .u64 0, .int .u64 0, .int .u64 0, .int .u64 0, .int .u64 0, .int .u64 0, .int .u64 0, .int .u64 0, .int .u64 0, .int .u64 0, .int .u64 0, .int .u64 0, .int .u64 0, .int .u64 0, .int .u64 0, .int .u64 0, .int .u64 0, .int .u64 0, .int .u64 0, .int .u64 0, .int .u64 0] 107) :: ((g2, .cells #[.int .i64 (Y 0), .int .i64 (Y 1), .int .i64 (Y 2), .int .i64 (Y 3)] 27) :: ((g1, .cells (smC X) 107) :: []))))) ∧ mz = 4 - k ∧ k ≤ 4 ∧ Hid (acc X Y (i * 4 + k) = T2)) ((fun (k : Nat) (T2 : Nat → Int) => 4 - k) (0) (T)) ?_ Kx ?_
 ·exact ⟨0, T, rfl, rfl, rfl, by omega, hac⟩
 rintro mz f2 s ⟨k, T2, hs2_16, rfl, hn, he1, he2⟩
 simp only [Act.putF, List.foldl_cons, List.foldl_nil, hs2_16, Act.put, Act.eval, q1, q2, q3, q4, q5, q6, q7, q8, q9, q10, q11, q12, q13, q14, q15, q16, q17, q18, Nat.reduceAdd, Bool.not_true, Bool.not_false]
 clear hs2_16
 have hac2 := he2
 clear he2
 refine wk_seq ?_
 refine wk_region [0] rfl Kx ?_
 simp only [qy]
 refine rfb_lss rfl rfl rfl rfl ?_
 intro x h2
 cases x
 ·(try simp only [qd, ne_eq] at h2)
  simp only [qz]
  refine rg_nil (ek_next (wk_seq (wk_cond_f rfl (wk_exit (ek_then_exit (ek_then_exit (ek_block_exit (ek_block (ek_next ?_)))))))))
  refine wk_region [0, 0] rfl Kx ?_
  simp only [qy]
  refine rf_add rfl rfl rfl rfl (wrap_ok Ox Ox) ?_
  simp only [qz]
  refine rg_move ?_
  simp only [qz]
  refine rg_nil ?_
  obtain rfl : k = 4 := by omega
  have hac' : acc X Y ((i + 1) * 4) = T2 := by rw [← hac2.out]; congr 1; omega
  refine ek_sub (sk _ (sc _ (sc _ (sc _ (sc _ sn))))) ?_
  refine ek_roundF (4 - (i + 1)) Ox Kx ?_
  exact ⟨i + 1, T2, rfl, by rfl, by rfl, Ox, (Lib.hid hac')⟩
 (try simp only [qd, ne_eq] at h2)
 simp only [qz]
 have hyk := hY k Ox
 refine rg_nil (ek_next (wk_seq (wk_cond_t rfl (wk_skip (ek_next (wk_seq (wk_block (wk_seq ?_))))))))
 refine wk_region [0, 0, 0, 0] rfl Kx ?_
 simp only [qy]
 refine rg_move ?_
 simp only [qz]
 refine rf_idx1 (n := k) rfl rfl rfl rfl Try.underlying27 Try.underlying3 rfl Kx Ox (ar_idx Ox) ?_
 simp only [qz]
 refine rg_assign ?_
 simp only [qz]
 refine rg_assign ?_
 simp only [qz]
 refine rg_nil (ek_next (wk_seq (wk_seq ?_)))
 refine wk_region [0, 0, 0, 0] rfl Kx ?_
 simp only [qy]
 refine rg_move ?_
 simp only [qz]
 refine rg_move ?_
 simp only [qz]
 refine rf_add rfl rfl rfl rfl (wrap_ok Ox Ox) ?_
 simp only [qz]
 refine rfb_geq rfl rfl rfl rfl ?_
 intro x h3
 cases x
 ·(try simp only [qd, ne_eq] at h3)
  simp only [qz]
  refine rg_nil (ek_next (wk_cond_f rfl (wk_skip (ek_next ?_))))
  refine wk_draws_m (hz1 := (sc _ (sk _ (sc _ (sc _ (sc _ sn)))))) [(0, 0), (1, 0), (2, 0), (3, 0), (4, 0), (5, 0), (6, 0), (7, 0), (8, 0), (9, 0), (10, 0), (11, 0), (12, 1), (13, 1), (14, 0), (15, 2)] 15 Kx Kx (fun c d v a w h => by cases d <;> exact h) ?_
  simp only [List.map_cons, List.map_nil, List.getD_cons_zero, List.getD_cons_succ]
  refine rg_move ?_
  simp only [qz]
  refine rg_move ?_
  simp only [qz]
  refine rf_add rfl rfl rfl rfl (wrap_ok Ox Ox) ?_
  simp only [qz]
  refine rf_rem (r := (((i + k) % 4 : Nat) : Int)) rfl rfl rfl rfl (by decide) ((rem_ok Ox).trans Ox) ?_
  simp only [qz]
  refine rg_move ?_
  simp only [qz]
  refine rg_move ?_
  simp only [qz]
  refine rf_add rfl rfl rfl rfl (wrap_ok Ox Ox) ?_
  simp only [qz]
  refine rf_rem (r := (((i + k) % 4 : Nat) : Int)) rfl rfl rfl rfl (by decide) ((rem_ok Ox).trans Ox) ?_
  simp only [qz]
  refine rf_indexA (n := (i + k) % 4) (sz := 6) (j := 0 + ((i + k) % 4) * 6) rfl rfl rfl rfl Try.underlying107 Kx Ox rfl ?_
  simp only [qz]
  refine rf_loadC (n := 6) (vs := w6L (W6.of (T2 ((i + k) % 4)))) rfl rfl rfl Try.underlying105 rfl Kx rfl (fun w hw => sm_row (Kn.hd0 (Kn.tl hw)) Ox) ?_
  simp only [qz]
  refine rf_loadR (n := 6) rfl rfl rfl Try.underlying105 rfl Kx (fun w hw => Kn.hd0 hw) rfl rfl ?_
  simp only [qz]
  refine rg_move ?_
  simp only [qz]
  apply rg_pure Rx Kx
  case hargs => exact Ax
  case h => exact fun w hw => w6times_any (X i) (Y k) Ox Ox w
  case hz => exact (fun _ h => by cases h; exact (sc _ (sc _ (sc _ (sc _ (sc _ sn))))))
  simp only [qz]
  apply rg_pure Rx Kx
  case hargs => exact Ax
  case h => exact fun w hw => w6add_any (T2 ((i + k) % 4)) (X i * Y k) w
  case hz => exact (fun _ h => by cases h; exact (sc _ (sc _ (sc _ (sc _ (sc _ sn))))))
  simp only [qz]
  refine rf_indexA (n := (i + k) % 4) (sz := 6) (j := 0 + ((i + k) % 4) * 6) rfl rfl rfl rfl Try.underlying107 Kx Ox rfl ?_
  simp only [qz]
  refine rf_storeRM (n := 6) (vs := w6L (W6.of (T2 ((i + k) % 4) + X i * Y k))) rfl rfl Kx rfl rfl (UpdR.there _ (UpdR.here _ _ _ (show 0 + ((i + k) % 4) * 6 + 6 ≤ 24 by omega))) (sc _ (sk _ (sc _ (sc _ (sc _ sn))))) ?_
  simp only [qz, Nat.reduceAdd]
  refine rg_nil (ek_block (ek_next ?_))
  refine wk_region [0, 0] rfl Kx ?_
  simp only [qy]
  refine rf_add rfl rfl rfl rfl (wrap_ok Ox Ox) ?_
  simp only [qz]
  refine rg_move ?_
  simp only [qz]
  refine rg_nil ?_
  refine ek_roundF (4 - (k + 1)) Ox Kx ?_
  exact ⟨k + 1, upd T2 ((i + k) % 4) (T2 ((i + k) % 4) + X i * Y k), rfl, (by rw [sm_set' Ox]), by rfl, Ox, (Lib.hid (by rw [acc_step Ox hac2.out, if_neg Ox]))⟩
 (try simp only [qd, ne_eq] at h3)
 simp only [qz]
 refine rg_nil (ek_next (wk_cond_t rfl ?_))
 refine wk_region [0, 0, 0] rfl Kx ?_
 simp only [qy]
 refine rg_move ?_
 simp only [qz]
 refine rf_neg rfl rfl rfl (wrap_ok Ox Ox) ?_
 simp only [qz]
 refine rg_assign ?_
 simp only [qz]
 refine rg_nil (ek_next ?_)
 refine wk_draws_m (hz1 := (sc _ (sk _ (sc _ (sc _ (sc _ sn)))))) [(0, 0), (1, 0), (2, 0), (3, 0), (4, 0), (5, 0), (6, 0), (7, 0), (8, 0), (9, 0), (10, 0), (11, 0), (12, 1), (13, 1), (14, 0), (15, 2)] 15 Kx Kx (fun c d v a w h => by cases d <;> exact h) ?_
 simp only [List.map_cons, List.map_nil, List.getD_cons_zero, List.getD_cons_succ]
 refine rg_move ?_
 simp only [qz]
 refine rg_move ?_
 simp only [qz]
 refine rf_add rfl rfl rfl rfl (wrap_ok Ox Ox) ?_
 simp only [qz]
 refine rf_rem (r := (((i + k) % 4 : Nat) : Int)) rfl rfl rfl rfl (by decide) ((rem_ok Ox).trans Ox) ?_
 simp only [qz]
 refine rg_move ?_
 simp only [qz]
 refine rg_move ?_
 simp only [qz]
 refine rf_add rfl rfl rfl rfl (wrap_ok Ox Ox) ?_
 simp only [qz]
 refine rf_rem (r := (((i + k) % 4 : Nat) : Int)) rfl rfl rfl rfl (by decide) ((rem_ok Ox).trans Ox) ?_
 simp only [qz]
 refine rf_indexA (n := (i + k) % 4) (sz := 6) (j := 0 + ((i + k) % 4) * 6) rfl rfl rfl rfl Try.underlying107 Kx Ox rfl ?_
 simp only [qz]
 refine rf_loadC (n := 6) (vs := w6L (W6.of (T2 ((i + k) % 4)))) rfl rfl rfl Try.underlying105 rfl Kx rfl (fun w hw => sm_row (Kn.hd0 (Kn.tl hw)) Ox) ?_
 simp only [qz]
 refine rf_loadR (n := 6) rfl rfl rfl Try.underlying105 rfl Kx (fun w hw => Kn.hd0 hw) rfl rfl ?_
 simp only [qz]
 refine rg_move ?_
 simp only [qz]
 apply rg_pure Rx Kx
 case hargs => exact Ax
 case h => exact fun w hw => by have := w6times_any (X i) (-(Y k)) Ox Ox w; rw [Int.mul_neg] at this; exact this
 case hz => exact (fun _ h => by cases h; exact (sc _ (sc _ (sc _ (sc _ (sc _ sn))))))
 simp only [qz]
 apply rg_pure Rx Kx
 case hargs => exact Ax
 case h => exact fun w hw => w6add_any (T2 ((i + k) % 4)) (-(X i * Y k)) w
 case hz => exact (fun _ h => by cases h; exact (sc _ (sc _ (sc _ (sc _ (sc _ sn))))))
 simp only [qz]
 refine rf_indexA (n := (i + k) % 4) (sz := 6) (j := 0 + ((i + k) % 4) * 6) rfl rfl rfl rfl Try.underlying107 Kx Ox rfl ?_
 simp only [qz]
 refine rf_storeRM (n := 6) (vs := w6L (W6.of (T2 ((i + k) % 4) + -(X i * Y k)))) rfl rfl Kx rfl rfl (UpdR.there _ (UpdR.here _ _ _ (show 0 + ((i + k) % 4) * 6 + 6 ≤ 24 by omega))) (sc _ (sk _ (sc _ (sc _ (sc _ sn))))) ?_
 simp only [qz, Nat.reduceAdd]
 refine rg_nil (ek_block (ek_next ?_))
 refine wk_region [0, 0] rfl Kx ?_
 simp only [qy]
 refine rf_add rfl rfl rfl rfl (wrap_ok Ox Ox) ?_
 simp only [qz]
 refine rg_move ?_
 simp only [qz]
 refine rg_nil ?_
 refine ek_roundF (4 - (k + 1)) Ox Kx ?_
 exact ⟨k + 1, upd T2 ((i + k) % 4) (T2 ((i + k) % 4) + -(X i * Y k)), rfl, (by rw [sm_set' Ox]), by rfl, Ox, (Lib.hid (by rw [acc_step Ox hac2.out, if_pos Ox]))⟩
theorem sm_one : (#[.int .u64 (W6.of 1).w0, .int .u64 (W6.of 1).w1, .int .u64 (W6.of 1).w2, .int .u64 (W6.of 1).w3, .int .u64 (W6.of 1).w4, .int .u64 (W6.of 1).w5, .int .u64 0, .int .u64 0, .int .u64 0, .int .u64 0, .int .u64 0, .int .u64 0, .int .u64 0, .int .u64 0, .int .u64 0, .int .u64 0, .int .u64 0, .int .u64 0, .int .u64 0, .int .u64 0, .int .u64 0, .int .u64 0, .int .u64 0, .int .u64 0] : Array Value) = smC (sel4 1 0 0 0) := by
 unfold smC
 simp only [sel4]
 rw [w6_zero]
 rfl
theorem smone_any  (w : World) : Calls Try.prog 84 #[] w fun e w' => e = .returned (.agg (smC (sel4 1 0 0 0))) ∧ Below w.heap.size w w' := by
 go_enter Try.func84, Try.ntmps84
 refine wk_start ?_
 refine wk_seq ?_
 refine wk_region [1] rfl Kx ?_
 simp only [qy]
 refine Rgn fun g1 => ?_
 simp only [qz]
 refine rg_nil (ek_next (wk_seq ?_))
 refine wk_region [1, 0, 1] rfl Kx ?_
 simp only [qy]
 apply rg_pure Rx Kx
 case hargs => exact Ax
 case h => exact fun w hw => w6whole_any 1 (by decide) (by decide) w
 case hz => exact Nz
 simp only [qz]
 refine rf_build (cs := fun a => #[cellAt (a.eval (.tmp 1)) 0, cellAt (a.eval (.tmp 1)) 1, cellAt (a.eval (.tmp 1)) 2, cellAt (a.eval (.tmp 1)) 3, cellAt (a.eval (.tmp 1)) 4, cellAt (a.eval (.tmp 1)) 5, .int .u64 0, .int .u64 0, .int .u64 0, .int .u64 0, .int .u64 0, .int .u64 0, .int .u64 0, .int .u64 0, .int .u64 0, .int .u64 0, .int .u64 0, .int .u64 0, .int .u64 0, .int .u64 0, .int .u64 0, .int .u64 0, .int .u64 0, .int .u64 0]) rfl rfl Kx ?_
 simp only [qz]
 refine rf_storeR (n := 24) rfl rfl Kx rfl rfl (UpdR.here _ _ _ Nl) Nz ?_
 simp only [qz, Nat.reduceAdd]
 refine rg_nil (ek_next (wk_ret ?_))
 refine ek_ret (fun w hw => ⟨rfl, _, run_results1 rfl rfl (Kn.hd0 hw) Try.underlying107 rfl Kx, ?_⟩)
 (try simp only [qz])
 exact ⟨by rw [sm_one], hw.below⟩
theorem bit1 (x : Int) : bits .and .u64 x 1 = x % 2 := by
 show IntKind.u64.wrap ((BitVec.ofInt 64 x &&& BitVec.ofInt 64 1).toNat : Int) = _
 have h1 : (BitVec.ofInt 64 (1 : Int)).toNat = 2 ^ 1 - 1 := by decide
 rw [BitVec.toNat_and, h1, Nat.and_two_pow_sub_one_eq_mod, BitVec.toNat_ofInt, IntKind.wrap_u64]
 omega
theorem or_high {x y : Int} (hx : 0 ≤ x) (hx1 : x < 9223372036854775808) (hy : y = 0 ∨ y = 9223372036854775808) : bits .or .u64 x y = x + y := by
 show IntKind.u64.wrap ((BitVec.ofInt 64 x ||| BitVec.ofInt 64 y).toNat : Int) = _
 rcases hy with rfl | rfl
 ·rw [show BitVec.ofInt 64 (0 : Int) = 0#64 from rfl, BitVec.or_zero, BitVec.toNat_ofInt, IntKind.wrap_u64]
  omega
 have h1 : (BitVec.ofInt 64 (9223372036854775808 : Int)).toNat = 2 ^ 63 * 1 := by decide
 have h2 : (BitVec.ofInt 64 x).toNat = x.toNat := by rw [BitVec.toNat_ofInt]; omega
 have h3 : x.toNat < 2 ^ 63 := by omega
 rw [BitVec.toNat_or, h1, h2, Nat.or_comm, ← Nat.two_pow_add_eq_or_of_lt h3, IntKind.wrap_u64]
 omega
theorem w6half_any (m : Int) (hm : In384 m) (he : m % 2 = 0) (w : World) : Calls Try.prog 146 #[w6V (W6.of m)] w fun e w' => e = .returned (w6V (W6.of (m / 2))) ∧ Below w.heap.size w w' := by
 obtain ⟨⟨x0, x1, x2, x3, x4, x5⟩, hx⟩ : ∃ r, W6.of m = r := ⟨_, rfl⟩
 have wx := W6.of_wf m
 rw [hx] at wx
 obtain ⟨xa0, xb0, xa1, xb1, xa2, xb2, xa3, xb3, xa4, xb4, xa5, xb5⟩ := wx
 dsimp only at xa0 xb0 xa1 xb1 xa2 xb2 xa3 xb3 xa4 xb4 xa5 xb5
 have heq : (⟨x0 / 2 + x1 % 2 * 9223372036854775808, x1 / 2 + x2 % 2 * 9223372036854775808, x2 / 2 + x3 % 2 * 9223372036854775808, x3 / 2 + x4 % 2 * 9223372036854775808, x4 / 2 + x5 % 2 * 9223372036854775808, x5 / 2 + x5 / 9223372036854775808 * 9223372036854775808⟩ : W6) = W6.of (m / 2) := by (have := W6.half_eq hm he; rw [hx] at this; exact this)
 rw [hx]
 replace heq := Lib.hid heq
 clear hx hm he
 go_enter Try.func146, Try.ntmps146
 refine wk_start ?_
 refine wk_seq ?_
 refine wk_region [1, 1] rfl Kx ?_
 simp only [qy]
 refine Rgn fun g1 => ?_
 simp only [qz]
 refine Rgn fun g2 => ?_
 simp only [qz]
 refine rg_nil (ek_next (wk_seq (wk_seq ?_)))
 refine wk_region [0] rfl Kx ?_
 simp only [qy]
 refine rg_move ?_
 simp only [qz]
 refine rg_nil (ek_next (wk_block ?_))
 refine wk_unroll 6 ?_
 refine wk_seq ?_
 refine wk_region [0] rfl Kx ?_
 simp only [qy]
 refine rf_lss (b := true) rfl rfl rfl rfl (by decide) ?_
 simp only [qz]
 refine rg_nil (ek_next (wk_seq (wk_cond_t rfl (wk_skip (ek_next (wk_seq (wk_block (wk_seq ?_))))))))
 refine wk_region [0, 0] rfl Kx ?_
 simp only [qy]
 refine rg_move ?_
 simp only [qz]
 refine rg_assign ?_
 simp only [qz]
 refine rg_nil (ek_next (wk_seq ?_))
 refine wk_region [0, 0, 0, 0, 0, 0] rfl Kx ?_
 simp only [qy]
 refine rg_move ?_
 simp only [qz]
 refine rf_indexA (n := 0) (sz := 1) (j := 0) rfl rfl rfl rfl Try.underlying105 Kx (by decide) rfl ?_
 simp only [qz]
 refine rf_load rfl rfl rfl Try.underlying103 rfl (fun w hw => (Kn.hd0 (Kn.tl hw)).at rfl) ?_
 simp only [qz]
 refine rf_shr (c := 63) (q := 9223372036854775808) rfl rfl rfl rfl rfl (by decide) ?_
 simp only [qz]
 refine rf_shl (c := 63) (q := 9223372036854775808) (r := x0 / 9223372036854775808 * 9223372036854775808) rfl rfl rfl rfl rfl (by decide) (wrap_okU Ox Ox) ?_
 simp only [qz]
 refine rg_assign ?_
 simp only [qz]
 refine rg_nil (ek_next (wk_seq (wk_seq ?_)))
 refine wk_region [0, 0, 0] rfl Kx ?_
 simp only [qy]
 refine rg_move ?_
 simp only [qz]
 refine rf_add (r := 1) rfl rfl rfl rfl (by decide) ?_
 simp only [qz]
 refine rf_lss (b := true) rfl rfl rfl rfl (by decide) ?_
 simp only [qz]
 refine rg_nil (ek_next (wk_cond_t rfl ?_))
 refine wk_region [0, 0, 0, 0, 0, 0] rfl Kx ?_
 simp only [qy]
 refine rg_move ?_
 simp only [qz]
 refine rf_add (r := 1) rfl rfl rfl rfl (by decide) ?_
 simp only [qz]
 refine rf_indexA (n := 1) (sz := 1) (j := 1) rfl rfl rfl rfl Try.underlying105 Kx (by decide) rfl ?_
 simp only [qz]
 refine rf_load rfl rfl rfl Try.underlying103 rfl (fun w hw => (Kn.hd0 (Kn.tl hw)).at rfl) ?_
 simp only [qz]
 refine rf_shl (c := 63) (q := 9223372036854775808) (r := x1 % 2 * 9223372036854775808) rfl rfl rfl rfl rfl (by decide) ((IntKind.wrap_u64 _).trans Ox) ?_
 simp only [qz]
 refine rg_assign ?_
 simp only [qz]
 refine rg_nil (ek_next ?_)
 refine wk_region [0, 0, 0, 0, 0, 0, 0, 0, 1] rfl Kx ?_
 simp only [qy]
 refine rg_move ?_
 simp only [qz]
 refine rg_move ?_
 simp only [qz]
 refine rf_indexA (n := 0) (sz := 1) (j := 0) rfl rfl rfl rfl Try.underlying105 Kx (by decide) rfl ?_
 simp only [qz]
 refine rf_load rfl rfl rfl Try.underlying103 rfl (fun w hw => (Kn.hd0 (Kn.tl hw)).at rfl) ?_
 simp only [qz]
 refine rf_shr (c := 1) (q := 2) rfl rfl rfl rfl rfl (by decide) ?_
 simp only [qz]
 refine rg_move ?_
 simp only [qz]
 refine rf_or (r := x0 / 2 + x1 % 2 * 9223372036854775808) rfl rfl rfl rfl (or_high Ox Ox Ox) ?_
 simp only [qz]
 refine rf_indexA (n := 0) (sz := 1) (j := 0) rfl rfl rfl rfl Try.underlying105 Kx (by decide) rfl ?_
 simp only [qz]
 refine rf_store rfl rfl Kx rfl rfl (UpdR.there _ (UpdR.here _ _ _ Nl)) Nz ?_
 simp only [qz]
 refine rg_nil (ek_block (ek_next ?_))
 refine wk_region [0, 0] rfl Kx ?_
 simp only [qy]
 refine rf_add (r := 1) rfl rfl rfl rfl (by decide) ?_
 simp only [qz]
 refine rg_move ?_
 simp only [qz]
 refine rg_nil (ek_again (wk_seq ?_))
 refine wk_region [0] rfl Kx ?_
 simp only [qy]
 refine rf_lss (b := true) rfl rfl rfl rfl (by decide) ?_
 simp only [qz]
 refine rg_nil (ek_next (wk_seq (wk_cond_t rfl (wk_skip (ek_next (wk_seq (wk_block (wk_seq ?_))))))))
 refine wk_region [0, 0] rfl Kx ?_
 simp only [qy]
 refine rg_move ?_
 simp only [qz]
 refine rg_assign ?_
 simp only [qz]
 refine rg_nil (ek_next (wk_seq ?_))
 refine wk_region [0, 0, 0, 0, 0, 0] rfl Kx ?_
 simp only [qy]
 refine rg_move ?_
 simp only [qz]
 refine rf_indexA (n := 1) (sz := 1) (j := 1) rfl rfl rfl rfl Try.underlying105 Kx (by decide) rfl ?_
 simp only [qz]
 refine rf_load rfl rfl rfl Try.underlying103 rfl (fun w hw => (Kn.hd0 (Kn.tl hw)).at rfl) ?_
 simp only [qz]
 refine rf_shr (c := 63) (q := 9223372036854775808) rfl rfl rfl rfl rfl (by decide) ?_
 simp only [qz]
 refine rf_shl (c := 63) (q := 9223372036854775808) (r := x1 / 9223372036854775808 * 9223372036854775808) rfl rfl rfl rfl rfl (by decide) (wrap_okU Ox Ox) ?_
 simp only [qz]
 refine rg_assign ?_
 simp only [qz]
 refine rg_nil (ek_next (wk_seq (wk_seq ?_)))
 refine wk_region [0, 0, 0] rfl Kx ?_
 simp only [qy]
 refine rg_move ?_
 simp only [qz]
 refine rf_add (r := 2) rfl rfl rfl rfl (by decide) ?_
 simp only [qz]
 refine rf_lss (b := true) rfl rfl rfl rfl (by decide) ?_
 simp only [qz]
 refine rg_nil (ek_next (wk_cond_t rfl ?_))
 refine wk_region [0, 0, 0, 0, 0, 0] rfl Kx ?_
 simp only [qy]
 refine rg_move ?_
 simp only [qz]
 refine rf_add (r := 2) rfl rfl rfl rfl (by decide) ?_
 simp only [qz]
 refine rf_indexA (n := 2) (sz := 1) (j := 2) rfl rfl rfl rfl Try.underlying105 Kx (by decide) rfl ?_
 simp only [qz]
 refine rf_load rfl rfl rfl Try.underlying103 rfl (fun w hw => (Kn.hd0 (Kn.tl hw)).at rfl) ?_
 simp only [qz]
 refine rf_shl (c := 63) (q := 9223372036854775808) (r := x2 % 2 * 9223372036854775808) rfl rfl rfl rfl rfl (by decide) ((IntKind.wrap_u64 _).trans Ox) ?_
 simp only [qz]
 refine rg_assign ?_
 simp only [qz]
 refine rg_nil (ek_next ?_)
 refine wk_region [0, 0, 0, 0, 0, 0, 0, 0, 1] rfl Kx ?_
 simp only [qy]
 refine rg_move ?_
 simp only [qz]
 refine rg_move ?_
 simp only [qz]
 refine rf_indexA (n := 1) (sz := 1) (j := 1) rfl rfl rfl rfl Try.underlying105 Kx (by decide) rfl ?_
 simp only [qz]
 refine rf_load rfl rfl rfl Try.underlying103 rfl (fun w hw => (Kn.hd0 (Kn.tl hw)).at rfl) ?_
 simp only [qz]
 refine rf_shr (c := 1) (q := 2) rfl rfl rfl rfl rfl (by decide) ?_
 simp only [qz]
 refine rg_move ?_
 simp only [qz]
 refine rf_or (r := x1 / 2 + x2 % 2 * 9223372036854775808) rfl rfl rfl rfl (or_high Ox Ox Ox) ?_
 simp only [qz]
 refine rf_indexA (n := 1) (sz := 1) (j := 1) rfl rfl rfl rfl Try.underlying105 Kx (by decide) rfl ?_
 simp only [qz]
 refine rf_store rfl rfl Kx rfl rfl (UpdR.there _ (UpdR.here _ _ _ Nl)) Nz ?_
 simp only [qz]
 refine rg_nil (ek_block (ek_next ?_))
 refine wk_region [0, 0] rfl Kx ?_
 simp only [qy]
 refine rf_add (r := 2) rfl rfl rfl rfl (by decide) ?_
 simp only [qz]
 refine rg_move ?_
 simp only [qz]
 refine rg_nil (ek_again (wk_seq ?_))
 refine wk_region [0] rfl Kx ?_
 simp only [qy]
 refine rf_lss (b := true) rfl rfl rfl rfl (by decide) ?_
 simp only [qz]
 refine rg_nil (ek_next (wk_seq (wk_cond_t rfl (wk_skip (ek_next (wk_seq (wk_block (wk_seq ?_))))))))
 refine wk_region [0, 0] rfl Kx ?_
 simp only [qy]
 refine rg_move ?_
 simp only [qz]
 refine rg_assign ?_
 simp only [qz]
 refine rg_nil (ek_next (wk_seq ?_))
 refine wk_region [0, 0, 0, 0, 0, 0] rfl Kx ?_
 simp only [qy]
 refine rg_move ?_
 simp only [qz]
 refine rf_indexA (n := 2) (sz := 1) (j := 2) rfl rfl rfl rfl Try.underlying105 Kx (by decide) rfl ?_
 simp only [qz]
 refine rf_load rfl rfl rfl Try.underlying103 rfl (fun w hw => (Kn.hd0 (Kn.tl hw)).at rfl) ?_
 simp only [qz]
 refine rf_shr (c := 63) (q := 9223372036854775808) rfl rfl rfl rfl rfl (by decide) ?_
 simp only [qz]
 refine rf_shl (c := 63) (q := 9223372036854775808) (r := x2 / 9223372036854775808 * 9223372036854775808) rfl rfl rfl rfl rfl (by decide) (wrap_okU Ox Ox) ?_
 simp only [qz]
 refine rg_assign ?_
 simp only [qz]
 refine rg_nil (ek_next (wk_seq (wk_seq ?_)))
 refine wk_region [0, 0, 0] rfl Kx ?_
 simp only [qy]
 refine rg_move ?_
 simp only [qz]
 refine rf_add (r := 3) rfl rfl rfl rfl (by decide) ?_
 simp only [qz]
 refine rf_lss (b := true) rfl rfl rfl rfl (by decide) ?_
 simp only [qz]
 refine rg_nil (ek_next (wk_cond_t rfl ?_))
 refine wk_region [0, 0, 0, 0, 0, 0] rfl Kx ?_
 simp only [qy]
 refine rg_move ?_
 simp only [qz]
 refine rf_add (r := 3) rfl rfl rfl rfl (by decide) ?_
 simp only [qz]
 refine rf_indexA (n := 3) (sz := 1) (j := 3) rfl rfl rfl rfl Try.underlying105 Kx (by decide) rfl ?_
 simp only [qz]
 refine rf_load rfl rfl rfl Try.underlying103 rfl (fun w hw => (Kn.hd0 (Kn.tl hw)).at rfl) ?_
 simp only [qz]
 refine rf_shl (c := 63) (q := 9223372036854775808) (r := x3 % 2 * 9223372036854775808) rfl rfl rfl rfl rfl (by decide) ((IntKind.wrap_u64 _).trans Ox) ?_
 simp only [qz]
 refine rg_assign ?_
 simp only [qz]
 refine rg_nil (ek_next ?_)
 refine wk_region [0, 0, 0, 0, 0, 0, 0, 0, 1] rfl Kx ?_
 simp only [qy]
 refine rg_move ?_
 simp only [qz]
 refine rg_move ?_
 simp only [qz]
 refine rf_indexA (n := 2) (sz := 1) (j := 2) rfl rfl rfl rfl Try.underlying105 Kx (by decide) rfl ?_
 simp only [qz]
 refine rf_load rfl rfl rfl Try.underlying103 rfl (fun w hw => (Kn.hd0 (Kn.tl hw)).at rfl) ?_
 simp only [qz]
 refine rf_shr (c := 1) (q := 2) rfl rfl rfl rfl rfl (by decide) ?_
 simp only [qz]
 refine rg_move ?_
 simp only [qz]
 refine rf_or (r := x2 / 2 + x3 % 2 * 9223372036854775808) rfl rfl rfl rfl (or_high Ox Ox Ox) ?_
 simp only [qz]
 refine rf_indexA (n := 2) (sz := 1) (j := 2) rfl rfl rfl rfl Try.underlying105 Kx (by decide) rfl ?_
 simp only [qz]
 refine rf_store rfl rfl Kx rfl rfl (UpdR.there _ (UpdR.here _ _ _ Nl)) Nz ?_
 simp only [qz]
 refine rg_nil (ek_block (ek_next ?_))
 refine wk_region [0, 0] rfl Kx ?_
 simp only [qy]
 refine rf_add (r := 3) rfl rfl rfl rfl (by decide) ?_
 simp only [qz]
 refine rg_move ?_
 simp only [qz]
 refine rg_nil (ek_again (wk_seq ?_))
 refine wk_region [0] rfl Kx ?_
 simp only [qy]
 refine rf_lss (b := true) rfl rfl rfl rfl (by decide) ?_
 simp only [qz]
 refine rg_nil (ek_next (wk_seq (wk_cond_t rfl (wk_skip (ek_next (wk_seq (wk_block (wk_seq ?_))))))))
 refine wk_region [0, 0] rfl Kx ?_
 simp only [qy]
 refine rg_move ?_
 simp only [qz]
 refine rg_assign ?_
 simp only [qz]
 refine rg_nil (ek_next (wk_seq ?_))
 refine wk_region [0, 0, 0, 0, 0, 0] rfl Kx ?_
 simp only [qy]
 refine rg_move ?_
 simp only [qz]
 refine rf_indexA (n := 3) (sz := 1) (j := 3) rfl rfl rfl rfl Try.underlying105 Kx (by decide) rfl ?_
 simp only [qz]
 refine rf_load rfl rfl rfl Try.underlying103 rfl (fun w hw => (Kn.hd0 (Kn.tl hw)).at rfl) ?_
 simp only [qz]
 refine rf_shr (c := 63) (q := 9223372036854775808) rfl rfl rfl rfl rfl (by decide) ?_
 simp only [qz]
 refine rf_shl (c := 63) (q := 9223372036854775808) (r := x3 / 9223372036854775808 * 9223372036854775808) rfl rfl rfl rfl rfl (by decide) (wrap_okU Ox Ox) ?_
 simp only [qz]
 refine rg_assign ?_
 simp only [qz]
 refine rg_nil (ek_next (wk_seq (wk_seq ?_)))
 refine wk_region [0, 0, 0] rfl Kx ?_
 simp only [qy]
 refine rg_move ?_
 simp only [qz]
 refine rf_add (r := 4) rfl rfl rfl rfl (by decide) ?_
 simp only [qz]
 refine rf_lss (b := true) rfl rfl rfl rfl (by decide) ?_
 simp only [qz]
 refine rg_nil (ek_next (wk_cond_t rfl ?_))
 refine wk_region [0, 0, 0, 0, 0, 0] rfl Kx ?_
 simp only [qy]
 refine rg_move ?_
 simp only [qz]
 refine rf_add (r := 4) rfl rfl rfl rfl (by decide) ?_
 simp only [qz]
 refine rf_indexA (n := 4) (sz := 1) (j := 4) rfl rfl rfl rfl Try.underlying105 Kx (by decide) rfl ?_
 simp only [qz]
 refine rf_load rfl rfl rfl Try.underlying103 rfl (fun w hw => (Kn.hd0 (Kn.tl hw)).at rfl) ?_
 simp only [qz]
 refine rf_shl (c := 63) (q := 9223372036854775808) (r := x4 % 2 * 9223372036854775808) rfl rfl rfl rfl rfl (by decide) ((IntKind.wrap_u64 _).trans Ox) ?_
 simp only [qz]
 refine rg_assign ?_
 simp only [qz]
 refine rg_nil (ek_next ?_)
 refine wk_region [0, 0, 0, 0, 0, 0, 0, 0, 1] rfl Kx ?_
 simp only [qy]
 refine rg_move ?_
 simp only [qz]
 refine rg_move ?_
 simp only [qz]
 refine rf_indexA (n := 3) (sz := 1) (j := 3) rfl rfl rfl rfl Try.underlying105 Kx (by decide) rfl ?_
 simp only [qz]
 refine rf_load rfl rfl rfl Try.underlying103 rfl (fun w hw => (Kn.hd0 (Kn.tl hw)).at rfl) ?_
 simp only [qz]
 refine rf_shr (c := 1) (q := 2) rfl rfl rfl rfl rfl (by decide) ?_
 simp only [qz]
 refine rg_move ?_
 simp only [qz]
 refine rf_or (r := x3 / 2 + x4 % 2 * 9223372036854775808) rfl rfl rfl rfl (or_high Ox Ox Ox) ?_
 simp only [qz]
 refine rf_indexA (n := 3) (sz := 1) (j := 3) rfl rfl rfl rfl Try.underlying105 Kx (by decide) rfl ?_
 simp only [qz]
 refine rf_store rfl rfl Kx rfl rfl (UpdR.there _ (UpdR.here _ _ _ Nl)) Nz ?_
 simp only [qz]
 refine rg_nil (ek_block (ek_next ?_))
 refine wk_region [0, 0] rfl Kx ?_
 simp only [qy]
 refine rf_add (r := 4) rfl rfl rfl rfl (by decide) ?_
 simp only [qz]
 refine rg_move ?_
 simp only [qz]
 refine rg_nil (ek_again (wk_seq ?_))
 refine wk_region [0] rfl Kx ?_
 simp only [qy]
 refine rf_lss (b := true) rfl rfl rfl rfl (by decide) ?_
 simp only [qz]
 refine rg_nil (ek_next (wk_seq (wk_cond_t rfl (wk_skip (ek_next (wk_seq (wk_block (wk_seq ?_))))))))
 refine wk_region [0, 0] rfl Kx ?_
 simp only [qy]
 refine rg_move ?_
 simp only [qz]
 refine rg_assign ?_
 simp only [qz]
 refine rg_nil (ek_next (wk_seq ?_))
 refine wk_region [0, 0, 0, 0, 0, 0] rfl Kx ?_
 simp only [qy]
 refine rg_move ?_
 simp only [qz]
 refine rf_indexA (n := 4) (sz := 1) (j := 4) rfl rfl rfl rfl Try.underlying105 Kx (by decide) rfl ?_
 simp only [qz]
 refine rf_load rfl rfl rfl Try.underlying103 rfl (fun w hw => (Kn.hd0 (Kn.tl hw)).at rfl) ?_
 simp only [qz]
 refine rf_shr (c := 63) (q := 9223372036854775808) rfl rfl rfl rfl rfl (by decide) ?_
 simp only [qz]
 refine rf_shl (c := 63) (q := 9223372036854775808) (r := x4 / 9223372036854775808 * 9223372036854775808) rfl rfl rfl rfl rfl (by decide) (wrap_okU Ox Ox) ?_
 simp only [qz]
 refine rg_assign ?_
 simp only [qz]
 refine rg_nil (ek_next (wk_seq (wk_seq ?_)))
 refine wk_region [0, 0, 0] rfl Kx ?_
 simp only [qy]
 refine rg_move ?_
 simp only [qz]
 refine rf_add (r := 5) rfl rfl rfl rfl (by decide) ?_
 simp only [qz]
 refine rf_lss (b := true) rfl rfl rfl rfl (by decide) ?_
 simp only [qz]
 refine rg_nil (ek_next (wk_cond_t rfl ?_))
 refine wk_region [0, 0, 0, 0, 0, 0] rfl Kx ?_
 simp only [qy]
 refine rg_move ?_
 simp only [qz]
 refine rf_add (r := 5) rfl rfl rfl rfl (by decide) ?_
 simp only [qz]
 refine rf_indexA (n := 5) (sz := 1) (j := 5) rfl rfl rfl rfl Try.underlying105 Kx (by decide) rfl ?_
 simp only [qz]
 refine rf_load rfl rfl rfl Try.underlying103 rfl (fun w hw => (Kn.hd0 (Kn.tl hw)).at rfl) ?_
 simp only [qz]
 refine rf_shl (c := 63) (q := 9223372036854775808) (r := x5 % 2 * 9223372036854775808) rfl rfl rfl rfl rfl (by decide) ((IntKind.wrap_u64 _).trans Ox) ?_
 simp only [qz]
 refine rg_assign ?_
 simp only [qz]
 refine rg_nil (ek_next ?_)
 refine wk_region [0, 0, 0, 0, 0, 0, 0, 0, 1] rfl Kx ?_
 simp only [qy]
 refine rg_move ?_
 simp only [qz]
 refine rg_move ?_
 simp only [qz]
 refine rf_indexA (n := 4) (sz := 1) (j := 4) rfl rfl rfl rfl Try.underlying105 Kx (by decide) rfl ?_
 simp only [qz]
 refine rf_load rfl rfl rfl Try.underlying103 rfl (fun w hw => (Kn.hd0 (Kn.tl hw)).at rfl) ?_
 simp only [qz]
 refine rf_shr (c := 1) (q := 2) rfl rfl rfl rfl rfl (by decide) ?_
 simp only [qz]
 refine rg_move ?_
 simp only [qz]
 refine rf_or (r := x4 / 2 + x5 % 2 * 9223372036854775808) rfl rfl rfl rfl (or_high Ox Ox Ox) ?_
 simp only [qz]
 refine rf_indexA (n := 4) (sz := 1) (j := 4) rfl rfl rfl rfl Try.underlying105 Kx (by decide) rfl ?_
 simp only [qz]
 refine rf_store rfl rfl Kx rfl rfl (UpdR.there _ (UpdR.here _ _ _ Nl)) Nz ?_
 simp only [qz]
 refine rg_nil (ek_block (ek_next ?_))
 refine wk_region [0, 0] rfl Kx ?_
 simp only [qy]
 refine rf_add (r := 5) rfl rfl rfl rfl (by decide) ?_
 simp only [qz]
 refine rg_move ?_
 simp only [qz]
 refine rg_nil (ek_again (wk_seq ?_))
 refine wk_region [0] rfl Kx ?_
 simp only [qy]
 refine rf_lss (b := true) rfl rfl rfl rfl (by decide) ?_
 simp only [qz]
 refine rg_nil (ek_next (wk_seq (wk_cond_t rfl (wk_skip (ek_next (wk_seq (wk_block (wk_seq ?_))))))))
 refine wk_region [0, 0] rfl Kx ?_
 simp only [qy]
 refine rg_move ?_
 simp only [qz]
 refine rg_assign ?_
 simp only [qz]
 refine rg_nil (ek_next (wk_seq ?_))
 refine wk_region [0, 0, 0, 0, 0, 0] rfl Kx ?_
 simp only [qy]
 refine rg_move ?_
 simp only [qz]
 refine rf_indexA (n := 5) (sz := 1) (j := 5) rfl rfl rfl rfl Try.underlying105 Kx (by decide) rfl ?_
 simp only [qz]
 refine rf_load rfl rfl rfl Try.underlying103 rfl (fun w hw => (Kn.hd0 (Kn.tl hw)).at rfl) ?_
 simp only [qz]
 refine rf_shr (c := 63) (q := 9223372036854775808) rfl rfl rfl rfl rfl (by decide) ?_
 simp only [qz]
 refine rf_shl (c := 63) (q := 9223372036854775808) (r := x5 / 9223372036854775808 * 9223372036854775808) rfl rfl rfl rfl rfl (by decide) (wrap_okU Ox Ox) ?_
 simp only [qz]
 refine rg_assign ?_
 simp only [qz]
 refine rg_nil (ek_next (wk_seq (wk_seq ?_)))
 refine wk_region [0, 0, 0] rfl Kx ?_
 simp only [qy]
 refine rg_move ?_
 simp only [qz]
 refine rf_add (r := 6) rfl rfl rfl rfl (by decide) ?_
 simp only [qz]
 refine rf_lss (b := false) rfl rfl rfl rfl (by decide) ?_
 simp only [qz]
 refine rg_nil (ek_next (wk_cond_f rfl (wk_skip (ek_next ?_))))
 refine wk_region [0, 0, 0, 0, 0, 0, 0, 0, 1] rfl Kx ?_
 simp only [qy]
 refine rg_move ?_
 simp only [qz]
 refine rg_move ?_
 simp only [qz]
 refine rf_indexA (n := 5) (sz := 1) (j := 5) rfl rfl rfl rfl Try.underlying105 Kx (by decide) rfl ?_
 simp only [qz]
 refine rf_load rfl rfl rfl Try.underlying103 rfl (fun w hw => (Kn.hd0 (Kn.tl hw)).at rfl) ?_
 simp only [qz]
 refine rf_shr (c := 1) (q := 2) rfl rfl rfl rfl rfl (by decide) ?_
 simp only [qz]
 refine rg_move ?_
 simp only [qz]
 refine rf_or (r := x5 / 2 + x5 / 9223372036854775808 * 9223372036854775808) rfl rfl rfl rfl (or_high Ox Ox Ox) ?_
 simp only [qz]
 refine rf_indexA (n := 5) (sz := 1) (j := 5) rfl rfl rfl rfl Try.underlying105 Kx (by decide) rfl ?_
 simp only [qz]
 refine rf_store rfl rfl Kx rfl rfl (UpdR.there _ (UpdR.here _ _ _ Nl)) Nz ?_
 simp only [qz]
 refine rg_nil (ek_block (ek_next ?_))
 refine wk_region [0, 0] rfl Kx ?_
 simp only [qy]
 refine rf_add (r := 6) rfl rfl rfl rfl (by decide) ?_
 simp only [qz]
 refine rg_move ?_
 simp only [qz]
 refine rg_nil (ek_again (wk_seq ?_))
 refine wk_region [0] rfl Kx ?_
 simp only [qy]
 refine rf_lss (b := false) rfl rfl rfl rfl (by decide) ?_
 simp only [qz]
 refine rg_nil (ek_next (wk_seq (wk_cond_f rfl (wk_exit (ek_then_exit (ek_then_exit (ek_block_exit (ek_next (wk_seq ?_)))))))))
 refine wk_region [0, 1] rfl Kx ?_
 simp only [qy]
 refine rf_loadR (n := 6) rfl rfl rfl Try.underlying105 rfl Kx (fun w hw => Kn.hd0 (Kn.tl hw)) rfl rfl ?_
 simp only [qz]
 refine rf_storeR (n := 6) rfl rfl Kx rfl rfl (UpdR.here _ _ _ Nl) Nz ?_
 simp only [qz, Nat.reduceAdd]
 refine rg_nil (ek_next (wk_ret ?_))
 refine ek_ret (fun w hw => ⟨rfl, _, run_results1 rfl rfl (Kn.hd0 hw) Try.underlying105 rfl Kx, ?_⟩)
 (try simp only [qz])
 exact ⟨by rw [← heq.out] <;> rfl, hw.below⟩
theorem w6odd_any (m : Int) (w : World) : Calls Try.prog 144 #[w6V (W6.of m)] w fun e w' => e = .returned (.bool (decide (m % 2 = 1))) ∧ Below w.heap.size w w' := by
 go_enter Try.func144, Try.ntmps144
 refine wk_start ?_
 refine wk_seq ?_
 refine wk_region [1, 0] rfl Kx ?_
 simp only [qy]
 refine Rgn fun g1 => ?_
 simp only [qz]
 refine rg_assign ?_
 simp only [qz]
 refine rg_nil (ek_next (wk_seq ?_))
 refine wk_region [0, 0, 0, 0, 0] rfl Kx ?_
 simp only [qy]
 refine rf_indexA (n := 0) (sz := 1) (j := 0) rfl rfl rfl rfl Try.underlying105 Kx (by decide) rfl ?_
 simp only [qz]
 refine rf_load rfl rfl rfl Try.underlying103 rfl (fun w hw => (Kn.hd0 hw).at rfl) ?_
 simp only [qz]
 refine rf_and (r := (W6.of m).w0 % 2) rfl rfl rfl rfl (bit1 _) ?_
 simp only [qz]
 refine rf_eql rfl rfl rfl rfl rfl ?_
 simp only [qz]
 refine rg_assign ?_
 simp only [qz]
 refine rg_nil (ek_next (wk_ret ?_))
 refine ek_ret (fun w hw => ⟨rfl, _, res_t _ rfl, ?_⟩)
 (try simp only [qz])
 exact ⟨by rw [W6.odd_eq m], hw.below⟩
theorem w6_eqTop (x y : W6) (w : World) : (Op.equalIn 10000 105 (w6V x) (w6V y)).run Try.prog w = .ok (decide (x = y)) w := by
 have u3 := Try.underlying103
 have a3 := Try.isAgg103
 have z3 := Try.sizeOf103
 obtain ⟨x0, x1, x2, x3, x4, x5⟩ := x
 obtain ⟨y0, y1, y2, y3, y4, y5⟩ := y
 rw [show (10000 : Nat) = 9999 + 1 from rfl, Op.equalIn]
 simp only [Sem.run_bind, run_underlying Try.underlying105, Result.andThen_ok]
 simp only [Std.Legacy.Range.forIn_eq_forIn_range', Std.Legacy.Range.size, Nat.sub_zero, Nat.add_sub_cancel, Nat.div_one, List.range'_succ, List.range'_zero, List.forIn_cons, List.forIn_nil]
 go_simp
 by_cases h0 : x0 = y0
 ·by_cases h1 : x1 = y1
  ·by_cases h2 : x2 = y2
   ·by_cases h3 : x3 = y3
    ·by_cases h4 : x4 = y4
     ·by_cases h5 : x5 = y5 <;> simp [h0, h1, h2, h3, h4, h5]
     simp [h0, h1, h2, h3, h4]
    simp [h0, h1, h2, h3]
   simp [h0, h1, h2]
  simp [h0, h1]
 simp [h0]
theorem w6_guard (op : BinOp) (u v : Operand) (x y : W6) (w : World) : (eqGuard op 105 u v (w6V x) (w6V y)).run Try.prog w = .ok () w := by
 have h : (Try.prog.eqGuardType Try.prog.depth 105) = false := by kernel_rfl
 unfold eqGuard
 cases op <;> simp [h]
section
variable {R : Option Nat} {ops : Array Oper} {Q : Exit → Act → World → Prop} {B : World} {F : List Nat} {s0 : Option (List Blk × List Blk)} {P : Program}
variable {l : List (Oper × Nat)} {a : Act} {s : List Blk} {d : Option Tmp} {t : TypeId} {p : String} {af : Array Edge} {gd : Option (Nat × Bool)} {m : Nat}
theorem rfb_eqW {x y : Operand} {z : TypeId} (u v : W6) (hm : soft03 m = true) (hg : Region.wanted ⟨d, .binOp .eql 105 x y z, t, p, af, gd⟩ (yielded ops a.tmps) = true)
    (hx : a.eval x = w6V u) (hy : a.eval y = w6V v) (h : ∀ b, decide (u = v) = b → Rg R Try.prog ops Q B F s0 l (a.put d (.bool b)) s) : Rg R Try.prog ops Q B F s0 ((⟨d, .binOp .eql 105 x y z, t, p, af, gd⟩, m) :: l) a s := by
  refine rg_any hm hg (fun w => ?_) (h _ rfl)
  unfold Yld
  have hb : (binOp .eql 105 (w6V u) (w6V v)).run Try.prog w = .ok (.bool (decide (u = v))) w := by rw [run_eql_struct, w6_eqTop]; rfl
  have hgd := w6_guard .eql x y u v w
  show ((eqGuard .eql _ x y (a.eval x) (a.eval y) >>= fun _ => binOp .eql _ (a.eval x) (a.eval y)) >>= fun r => pure (Next.value r)).run Try.prog w = _
  rw [hx, hy, Sem.run_bind, Sem.run_bind, hgd, Result.andThen_ok, hb]
  rfl
theorem rfb_odd {T : TypeId} {x y : Operand} {z : TypeId} (i j : Int) (hu : P.underlying T = some .bool) (hm : soft03 m = true) (hg : Region.wanted ⟨d, .binOp .eql T x y z, t, p, af, gd⟩ (yielded ops a.tmps) = true)
    (hx : a.eval x = .bool (decide (i % 2 = 1))) (hy : a.eval y = .bool (decide (j % 2 = 1))) (h : ∀ b, decide ((i + j) % 2 = 0) = b → Rg R P ops Q B F s0 l (a.put d (.bool b)) s) : Rg R P ops Q B F s0 ((⟨d, .binOp .eql T x y z, t, p, af, gd⟩, m) :: l) a s := by
  refine rg_any hm hg (fun w => ?_) (h _ rfl)
  unfold Yld
  by_cases h1 : i % 2 = 1 <;> by_cases h2 : j % 2 = 1 <;> by_cases h3 : (i + j) % 2 = 0 <;> first | (exfalso; omega) | (simp [execOp, hx, hy, eqGuard, binOp, h1, h2, h3, run_equal_bool w T _ _ hu])
end
theorem w6small_any (m : Int) (hm : In384 m) (w : World) : Calls Try.prog 147 #[w6V (W6.of m)] w fun e w' => ∃ n, e = .returned (.tuple #[.int .i64 n, .bool (smB m)]) ∧ (smB m = true → n = m) ∧ Below w.heap.size w w' := by
 obtain ⟨n, hn⟩ : ∃ n, IntKind.i64.wrap (W6.of m).w0 = n := ⟨_, rfl⟩
 have hn2 := hn
 rw [IntKind.wrap_i64] at hn2
 have hnr : -9223372036854775808 ≤ n ∧ n < 9223372036854775808 := by omega
 have hmn : (m - n) % 18446744073709551616 = 0 := by (have : (W6.of m).w0 = m % 18446744073709551616 := rfl; omega)
 clear hn2
 go_enter Try.func147, Try.ntmps147
 refine wk_start ?_
 refine wk_seq ?_
 refine wk_region [1, 0, 0] rfl Kx ?_
 simp only [qy]
 refine Rgn fun g1 => ?_
 simp only [qz]
 refine rg_assign ?_
 simp only [qz]
 refine rg_assign ?_
 simp only [qz]
 refine rg_nil (ek_next (wk_seq ?_))
 refine wk_region [0, 0, 0, 0] rfl Kx ?_
 simp only [qy]
 refine rf_indexA (n := 0) (sz := 1) (j := 0) rfl rfl rfl rfl Try.underlying105 Kx (by decide) rfl ?_
 simp only [qz]
 refine rf_load rfl rfl rfl Try.underlying103 rfl (fun w hw => (Kn.hd0 hw).at rfl) ?_
 simp only [qz]
 refine rf_conv rfl rfl rfl Try.underlying103 Try.underlying3 (hn) ?_
 simp only [qz]
 refine rg_assign ?_
 simp only [qz]
 refine rg_nil (ek_next (wk_seq ?_))
 refine wk_draws _ _ [(0, 0), (1, 0), (3, 0), (2, 1), (4, 0), (5, 0), (6, 0), (7, 0), (8, 0), (9, 0), (10, 0), (11, 0), (12, 0), (13, 0), (14, 0)] [] Kx Kx (fun c d v a w h => by cases d <;> exact h) ((sc _ sn)) (fun e => by first | exact absurd e (by decide) | rfl) ?_
 simp only [List.map_cons, List.map_nil, List.getD_cons_zero, List.getD_cons_succ]
 refine rg_move ?_
 simp only [qz]
 refine rg_move ?_
 simp only [qz]
 refine rf_loadR (n := 6) rfl rfl rfl Try.underlying105 rfl Kx (fun w hw => Kn.hd0 hw) rfl rfl ?_
 simp only [qz]
 apply rg_pure Rx Kx
 case hargs => exact Ax
 case h => exact fun w hw => w6whole_any n Ox Ox w
 case hz => exact (fun _ h => by cases h; exact (sc _ sn))
 simp only [qz]
 refine rfb_eqW (W6.of n) (W6.of m) rfl rfl rfl rfl ?_
 intro x h1
 cases x
 ·(try simp only [qd, ne_eq] at h1)
  simp only [qz]
  have hnm : n ≠ m := fun e => h1 (by rw [e])
  refine rg_move ?_
  simp only [qz]
  refine rg_skip Rx ?_
  simp only [qz]
  refine rg_skip Rx ?_
  simp only [qz]
  refine rf_pick rfl rfl rfl ?_
  simp only [qz]
  refine rg_move ?_
  simp only [qz]
  refine rg_skip Rx ?_
  simp only [qz]
  refine rg_skip Rx ?_
  simp only [qz]
  refine rf_pick rfl rfl rfl ?_
  simp only [qz]
  refine rg_assign ?_
  simp only [qz]
  refine rg_assign ?_
  simp only [qz]
  refine rg_nil (ek_next (wk_ret ?_))
  refine ek_ret (fun w hw => ⟨rfl, _, res_tt _ _ rfl, ?_⟩)
  (try simp only [qz])
  exact ⟨n, by (have : smB m = _ := rfl; unfold smB; congr 3; simp; omega), (fun h => by simp [smB] at h; omega), hw.below⟩
 (try simp only [qd, ne_eq] at h1)
 simp only [qz]
 have hnm : n = m := W6.of_inj (by unfold In384; omega) hm h1
 refine rg_move ?_
 simp only [qz]
 apply rg_soft_g
 case hg => rfl
 case hy => (intro w hw; go_simp; (try go_bits); exact Yld.mk _ _)
 simp only [qz]
 refine rfb_geq rfl rfl rfl rfl ?_
 intro x h2
 cases x
 ·(try simp only [qd, ne_eq] at h2)
  simp only [qz]
  refine rf_pick rfl rfl rfl ?_
  simp only [qz]
  refine rg_move ?_
  simp only [qz]
  refine rg_skip Rx ?_
  simp only [qz]
  refine rg_skip Rx ?_
  simp only [qz]
  refine rf_pick rfl rfl rfl ?_
  simp only [qz]
  refine rg_assign ?_
  simp only [qz]
  refine rg_assign ?_
  simp only [qz]
  refine rg_nil (ek_next (wk_ret ?_))
  refine ek_ret (fun w hw => ⟨rfl, _, res_tt _ _ rfl, ?_⟩)
  (try simp only [qz])
  exact ⟨n, by (have : smB m = _ := rfl; unfold smB; congr 3; simp; omega), (fun h => by simp [smB] at h; omega), hw.below⟩
 (try simp only [qd, ne_eq] at h2)
 simp only [qz]
 refine rf_pick rfl rfl rfl ?_
 simp only [qz]
 refine rg_move ?_
 simp only [qz]
 apply rg_soft_g
 case hg => rfl
 case hy => (intro w hw; go_simp; (try go_bits); exact Yld.mk _ _)
 simp only [qz]
 refine rf_leq rfl rfl rfl rfl rfl ?_
 simp only [qz]
 refine rf_pick rfl rfl rfl ?_
 simp only [qz]
 refine rg_assign ?_
 simp only [qz]
 refine rg_assign ?_
 simp only [qz]
 refine rg_nil (ek_next (wk_ret ?_))
 refine ek_ret (fun w hw => ⟨rfl, _, res_tt _ _ rfl, ?_⟩)
 (try simp only [qz])
 exact ⟨n, by (have : smB m = _ := rfl; unfold smB; congr 3; simp; omega), (fun h => by simp [smB] at h; omega), hw.below⟩
theorem sm_ovr {T T' : Nat → Int} : setMany (smC T) 0 (smC T').toList = smC T' := by kernel_rfl
theorem co4_step (y : Nm) : co4 y.step = sel4 ((y.b + -y.d) / 2) ((y.a + y.c) / 2) ((y.b + y.d) / 2) ((y.c + -y.a) / 2) := by
 unfold co4 Nm.step
 dsimp only
 rw [Int.sub_eq_add_neg, Int.sub_eq_add_neg]
set_option maxHeartbeats 2000000 in
theorem reduced_sm (z : Nm) (hz : z.Fit 2462625387274654950767440006258975862817483704404090416746768337765357610718575663213391640930307227550414249394176) (hk : 0 ≤ z.k) (hk1 : z.k ≤ 100000) (w : World) : Calls Try.prog 116 #[.agg (smC (co4 z)), .int .i64 z.k] w fun e w' => e = .returned (.tuple #[nmV (wnum z).1, .bool (wnum z).2]) ∧ Below w.heap.size w w' := by
 have hB : In384 0 := by unfold In384; omega
 go_enter Try.func116, Try.ntmps116
 refine wk_start ?_
 refine wk_seq ?_
 refine wk_region [1, 1, 0] rfl Kx ?_
 simp only [qy]
 refine Rgn fun g1 => ?_
 simp only [qz]
 refine Rgn fun g2 => ?_
 simp only [qz]
 refine rg_assign ?_
 simp only [qz]
 refine rg_nil (ek_next ?_)
 refine wk_cutF [1, 6, 7, 8, 9, 15, 16, 17, 18, 19, 20, 21, 22, 23, 24, 25, 26, 27, 28, 29, 30, 31, 32, 33, 34, 35, 36, 37, 38, 39, 40, 41, 42, 43, 44, 45, 46, 47, 48, 49, 50, 51, 52, 53, 54, 55, 56, 57, 58, 59, 60, 61, 62, 63] (fun f s => ∃ (y : Nm), f 1 = .int .i64 y.k ∧ s = ((g2, .cells #[.int .i64 0, .int .i64 0, .int .i64 0, .int .i64 0, .int .i64 0] 29) :: ((g1, .cells (smC (co4 y)) 107) :: [])) ∧ Hid (z.nf = y) ∧ y.Fit 2462625387274654950767440006258975862817483704404090416746768337765357610718575663213391640930307227550414249394176 ∧ 0 ≤ y.k ∧ y.k ≤ 100000) ?_ ?_
 ·refine wk_block ?_
  refine wk_loopF [1, 6, 7, 8, 9, 15, 16, 17, 18, 19, 20, 21, 22, 23, 24, 25, 26, 27, 28, 29, 30, 31, 32, 33, 34, 35, 36, 37, 38, 39, 40, 41, 42, 43, 44, 45, 46, 47, 48, 49, 50, 51, 52, 53, 54, 55, 56, 57, 58, 59, 60, 61, 62, 63] (fun mz f s => ∃ (y : Nm), f 1 = .int .i64 y.k ∧ s = ((g2, .cells #[.int .i64 0, .int .i64 0, .int .i64 0, .int .i64 0, .int .i64 0] 29) :: ((g1, .cells (smC (co4 y)) 107) :: [])) ∧ mz = y.k.toNat ∧ Hid (y.nf = z.nf) ∧ y.Fit 2462625387274654950767440006258975862817483704404090416746768337765357610718575663213391640930307227550414249394176 ∧ 0 ≤ y.k ∧ y.k ≤ 100000) ((fun (y : Nm) => y.k.toNat) (z)) ?_ Kx ?_
  ·exact ⟨z, rfl, rfl, rfl, (Lib.hid rfl), hz, hk, hk1⟩
  rintro mz f1 s ⟨y, hs1_1, rfl, hn, hd1, hd2, hd3, hd4⟩
  simp only [Act.putF, List.foldl_cons, List.foldl_nil, hs1_1, Act.put, Act.eval, q1, q2, q3, q4, q5, q6, q7, q8, q9, q10, q11, q12, q13, q14, q15, q16, q17, q18, Nat.reduceAdd, Bool.not_true, Bool.not_false]
  clear hs1_1
  have hfa := hd2.a0; have hfa1 := hd2.a1; have hfb := hd2.b0; have hfb1 := hd2.b1; have hfc := hd2.c0; have hfc1 := hd2.c1; have hfd := hd2.d0; have hfd1 := hd2.d1
  refine wk_seq (wk_seq ?_)
  refine wk_draws _ _ [(0, 0), (1, 0), (2, 0), (3, 0), (4, 0), (6, 0), (7, 0), (5, 1), (8, 1), (9, 0), (10, 0), (11, 0), (12, 0), (13, 0), (15, 0), (16, 0), (14, 1), (17, 1), (18, 0), (19, 0)] [] Kx Kx (fun c d v a w h => by cases d <;> exact h) ((sc _ (sc _ sn))) (fun e => by first | exact absurd e (by decide) | rfl) ?_
  simp only [List.map_cons, List.map_nil, List.getD_cons_zero, List.getD_cons_succ]
  refine rg_move ?_
  simp only [qz]
  refine rfb_gtr rfl rfl rfl rfl ?_
  intro x h1
  cases x
  ·(try simp only [qd, ne_eq] at h1)
   simp only [qz]
   refine rg_move ?_
   simp only [qz]
   refine rg_skip Rx ?_
   simp only [qz]
   refine rg_skip Rx ?_
   simp only [qz]
   refine rg_skip Rx ?_
   simp only [qz]
   refine rg_skip Rx ?_
   simp only [qz]
   refine rg_skip_h Rx (fun _ h => by cases h; exact (sc _ (sc _ sn))) ?_
   simp only [qz]
   refine rg_skip_h Rx (fun _ h => by cases h; exact (sc _ (sc _ sn))) ?_
   simp only [qz]
   refine rg_skip Rx ?_
   simp only [qz]
   refine rf_pick rfl rfl rfl ?_
   simp only [qz]
   refine rg_move ?_
   simp only [qz]
   refine rg_skip Rx ?_
   simp only [qz]
   refine rg_skip Rx ?_
   simp only [qz]
   refine rg_skip Rx ?_
   simp only [qz]
   refine rg_skip Rx ?_
   simp only [qz]
   refine rg_skip_h Rx (fun _ h => by cases h; exact (sc _ (sc _ sn))) ?_
   simp only [qz]
   refine rg_skip_h Rx (fun _ h => by cases h; exact (sc _ (sc _ sn))) ?_
   simp only [qz]
   refine rg_skip Rx ?_
   simp only [qz]
   refine rf_pick rfl rfl rfl ?_
   simp only [qz]
   refine rg_nil (ek_next (wk_cond_f rfl (wk_exit (ek_then_exit (ek_then_exit (ek_block_exit ?_))))))
   refine ek_midF Kx ?_
   exact ⟨y, rfl, by rfl, (Lib.hid (by rw [← hd1.out]; exact nf_stop (by rintro ⟨h1, h2, h3⟩; omega))), hd2, hd3, hd4⟩
  (try simp only [qd, ne_eq] at h1)
  simp only [qz]
  refine rg_move ?_
  simp only [qz]
  refine rf_indexA (n := 0) (sz := 6) (j := 0) rfl rfl rfl rfl Try.underlying107 Kx (by decide) rfl ?_
  simp only [qz]
  refine rf_loadC (n := 6) (vs := w6L (W6.of ((co4 y) 0))) rfl rfl rfl Try.underlying105 rfl Kx rfl (fun w hw => sm_row (Kn.hd0 (Kn.tl hw)) Ox) ?_
  simp only [qz]
  refine rf_indexA (n := 2) (sz := 6) (j := 12) rfl rfl rfl rfl Try.underlying107 Kx (by decide) rfl ?_
  simp only [qz]
  refine rf_loadC (n := 6) (vs := w6L (W6.of ((co4 y) 2))) rfl rfl rfl Try.underlying105 rfl Kx rfl (fun w hw => sm_row (Kn.hd0 (Kn.tl hw)) Ox) ?_
  simp only [qz]
  apply rg_pure Rx Kx
  case hargs => exact Ax
  case h => exact fun w hw => w6odd_any y.a w
  case hz => exact (fun _ h => by cases h; exact (sc _ (sc _ sn)))
  simp only [qz]
  apply rg_pure Rx Kx
  case hargs => exact Ax
  case h => exact fun w hw => w6odd_any y.c w
  case hz => exact (fun _ h => by cases h; exact (sc _ (sc _ sn)))
  simp only [qz]
  refine rfb_odd y.a y.c Try.underlying4 rfl rfl rfl rfl ?_
  intro x h2
  cases x
  ·(try simp only [qd, ne_eq] at h2)
   simp only [qz]
   refine rf_pick rfl rfl rfl ?_
   simp only [qz]
   refine rg_move ?_
   simp only [qz]
   refine rg_skip Rx ?_
   simp only [qz]
   refine rg_skip Rx ?_
   simp only [qz]
   refine rg_skip Rx ?_
   simp only [qz]
   refine rg_skip Rx ?_
   simp only [qz]
   refine rg_skip_h Rx (fun _ h => by cases h; exact (sc _ (sc _ sn))) ?_
   simp only [qz]
   refine rg_skip_h Rx (fun _ h => by cases h; exact (sc _ (sc _ sn))) ?_
   simp only [qz]
   refine rg_skip Rx ?_
   simp only [qz]
   refine rf_pick rfl rfl rfl ?_
   simp only [qz]
   refine rg_nil (ek_next (wk_cond_f rfl (wk_exit (ek_then_exit (ek_then_exit (ek_block_exit ?_))))))
   refine ek_midF Kx ?_
   exact ⟨y, rfl, by rfl, (Lib.hid (by rw [← hd1.out]; exact nf_stop (by rintro ⟨h1, h2, h3⟩; omega))), hd2, hd3, hd4⟩
  (try simp only [qd, ne_eq] at h2)
  simp only [qz]
  refine rf_pick rfl rfl rfl ?_
  simp only [qz]
  refine rg_move ?_
  simp only [qz]
  refine rf_indexA (n := 1) (sz := 6) (j := 6) rfl rfl rfl rfl Try.underlying107 Kx (by decide) rfl ?_
  simp only [qz]
  refine rf_loadC (n := 6) (vs := w6L (W6.of ((co4 y) 1))) rfl rfl rfl Try.underlying105 rfl Kx rfl (fun w hw => sm_row (Kn.hd0 (Kn.tl hw)) Ox) ?_
  simp only [qz]
  refine rf_indexA (n := 3) (sz := 6) (j := 18) rfl rfl rfl rfl Try.underlying107 Kx (by decide) rfl ?_
  simp only [qz]
  refine rf_loadC (n := 6) (vs := w6L (W6.of ((co4 y) 3))) rfl rfl rfl Try.underlying105 rfl Kx rfl (fun w hw => sm_row (Kn.hd0 (Kn.tl hw)) Ox) ?_
  simp only [qz]
  apply rg_pure Rx Kx
  case hargs => exact Ax
  case h => exact fun w hw => w6odd_any y.b w
  case hz => exact (fun _ h => by cases h; exact (sc _ (sc _ sn)))
  simp only [qz]
  apply rg_pure Rx Kx
  case hargs => exact Ax
  case h => exact fun w hw => w6odd_any y.d w
  case hz => exact (fun _ h => by cases h; exact (sc _ (sc _ sn)))
  simp only [qz]
  refine rfb_odd y.b y.d Try.underlying4 rfl rfl rfl rfl ?_
  intro x h3
  cases x
  ·(try simp only [qd, ne_eq] at h3)
   simp only [qz]
   refine rf_pick rfl rfl rfl ?_
   simp only [qz]
   refine rg_nil (ek_next (wk_cond_f rfl (wk_exit (ek_then_exit (ek_then_exit (ek_block_exit ?_))))))
   refine ek_midF Kx ?_
   exact ⟨y, rfl, by rfl, (Lib.hid (by rw [← hd1.out]; exact nf_stop (by rintro ⟨h1, h2, h3⟩; omega))), hd2, hd3, hd4⟩
  (try simp only [qd, ne_eq] at h3)
  simp only [qz]
  refine rf_pick rfl rfl rfl ?_
  simp only [qz]
  refine rg_nil (ek_next (wk_cond_t rfl (wk_skip (ek_next (wk_block (wk_seq ?_))))))
  refine wk_rt _ Kx (sc _ (sc _ sn)) ?_
  refine rt_soft (i := 0) rfl Kx (fun c d v a w h => by cases d <;> exact h) (sc _ (sc _ sn)) ?_
  refine rf_indexA (n := 0) (sz := 6) (j := 0) rfl rfl rfl rfl Try.underlying107 Kx (by decide) rfl ?_
  simp only [qz]
  refine rg_nil ?_
  refine ek_rt (sc _ (sc _ sn)) ?_
  refine rt_soft (i := 1) rfl Kx (fun c d v a w h => by cases d <;> exact h) (sc _ (sc _ sn)) ?_
  refine rf_loadC (n := 6) (vs := w6L (W6.of ((co4 y) 0))) rfl rfl rfl Try.underlying105 rfl Kx rfl (fun w hw => sm_row (Kn.hd0 (Kn.tl hw)) Ox) ?_
  simp only [qz]
  refine rg_nil ?_
  refine ek_rt (sc _ (sc _ sn)) ?_
  refine rt_soft (i := 2) rfl Kx (fun c d v a w h => by cases d <;> exact h) (sc _ (sc _ sn)) ?_
  refine rf_indexA (n := 1) (sz := 6) (j := 6) rfl rfl rfl rfl Try.underlying107 Kx (by decide) rfl ?_
  simp only [qz]
  refine rg_nil ?_
  refine ek_rt (sc _ (sc _ sn)) ?_
  refine rt_soft (i := 3) rfl Kx (fun c d v a w h => by cases d <;> exact h) (sc _ (sc _ sn)) ?_
  refine rf_loadC (n := 6) (vs := w6L (W6.of ((co4 y) 1))) rfl rfl rfl Try.underlying105 rfl Kx rfl (fun w hw => sm_row (Kn.hd0 (Kn.tl hw)) Ox) ?_
  simp only [qz]
  refine rg_nil ?_
  refine ek_rt (sc _ (sc _ sn)) ?_
  refine rt_soft (i := 4) rfl Kx (fun c d v a w h => by cases d <;> exact h) (sc _ (sc _ sn)) ?_
  refine rf_indexA (n := 2) (sz := 6) (j := 12) rfl rfl rfl rfl Try.underlying107 Kx (by decide) rfl ?_
  simp only [qz]
  refine rg_nil ?_
  refine ek_rt (sc _ (sc _ sn)) ?_
  refine rt_soft (i := 5) rfl Kx (fun c d v a w h => by cases d <;> exact h) (sc _ (sc _ sn)) ?_
  refine rf_loadC (n := 6) (vs := w6L (W6.of ((co4 y) 2))) rfl rfl rfl Try.underlying105 rfl Kx rfl (fun w hw => sm_row (Kn.hd0 (Kn.tl hw)) Ox) ?_
  simp only [qz]
  refine rg_nil ?_
  refine ek_rt (sc _ (sc _ sn)) ?_
  refine rt_soft (i := 6) rfl Kx (fun c d v a w h => by cases d <;> exact h) (sc _ (sc _ sn)) ?_
  refine rf_indexA (n := 3) (sz := 6) (j := 18) rfl rfl rfl rfl Try.underlying107 Kx (by decide) rfl ?_
  simp only [qz]
  refine rg_nil ?_
  refine ek_rt (sc _ (sc _ sn)) ?_
  refine rt_soft (i := 7) rfl Kx (fun c d v a w h => by cases d <;> exact h) (sc _ (sc _ sn)) ?_
  refine rf_loadC (n := 6) (vs := w6L (W6.of ((co4 y) 3))) rfl rfl rfl Try.underlying105 rfl Kx rfl (fun w hw => sm_row (Kn.hd0 (Kn.tl hw)) Ox) ?_
  simp only [qz]
  refine rg_nil ?_
  refine ek_rt (sc _ (sc _ sn)) ?_
  refine rt_4 (T := 105) (z0 := #[.int .u64 0, .int .u64 0, .int .u64 0, .int .u64 0, .int .u64 0, .int .u64 0]) (c := sel4 (w6L (W6.of y.a)) (w6L (W6.of y.b)) (w6L (W6.of y.c)) (w6L (W6.of y.d))) Kx (by simp) (fun j hj => by rcases lt4 hj with rfl | rfl | rfl | rfl <;> exact ⟨⟨_, _, _, rfl⟩, ⟨_, _, _, rfl⟩⟩) (fun ev d ty p af w => by first | (go_simp; done) | (go_simp; rfl)) (fun j hj => by rcases lt4 hj with rfl | rfl | rfl | rfl <;> rfl) (fun j hj => by rcases lt4 hj with rfl | rfl | rfl | rfl <;> rfl) Kx (fun j hj => by rcases lt4 hj with rfl | rfl | rfl | rfl <;> rfl) (fun j hj => by rcases lt4 hj with rfl | rfl | rfl | rfl <;> kernel_rfl) rfl (fun ga gb gc gd => ?_)
  simp only [put4, sel4]
  simp only [qz, Nat.reduceAdd]
  refine ek_next (wk_seq ?_)
  have hev : y.even := ⟨by omega, by omega⟩
  refine wk_draws_m (hz1 := (sc _ (sc _ (sc _ (sc _ (sc _ (sk _ sn))))))) [(0, 0), (1, 0), (5, 0), (6, 0), (9, 0), (10, 0), (13, 0), (14, 0), (2, 1), (3, 1), (4, 1), (7, 1), (8, 1), (11, 1), (12, 1), (15, 1), (16, 1), (17, 1), (18, 0), (19, 2)] 19 Kx Kx (fun c d v a w h => by cases d <;> exact h) ?_
  simp only [List.map_cons, List.map_nil, List.getD_cons_zero, List.getD_cons_succ]
  refine rf_loadC (n := 6) (vs := w6L (W6.of y.b)) rfl rfl rfl Try.underlying105 rfl Kx rfl (fun w hw => cells_range (Kn.hd0 (Kn.tl hw)) 0 6) ?_
  simp only [qz]
  refine rf_loadC (n := 6) (vs := w6L (W6.of y.d)) rfl rfl rfl Try.underlying105 rfl Kx rfl (fun w hw => cells_range (Kn.hd0 (Kn.tl (Kn.tl (Kn.tl hw)))) 0 6) ?_
  simp only [qz]
  refine rf_loadC (n := 6) (vs := w6L (W6.of y.a)) rfl rfl rfl Try.underlying105 rfl Kx rfl (fun w hw => cells_range (Kn.hd0 hw) 0 6) ?_
  simp only [qz]
  refine rf_loadC (n := 6) (vs := w6L (W6.of y.c)) rfl rfl rfl Try.underlying105 rfl Kx rfl (fun w hw => cells_range (Kn.hd0 (Kn.tl (Kn.tl hw))) 0 6) ?_
  simp only [qz]
  refine rf_loadC (n := 6) (vs := w6L (W6.of y.b)) rfl rfl rfl Try.underlying105 rfl Kx rfl (fun w hw => cells_range (Kn.hd0 (Kn.tl hw)) 0 6) ?_
  simp only [qz]
  refine rf_loadC (n := 6) (vs := w6L (W6.of y.d)) rfl rfl rfl Try.underlying105 rfl Kx rfl (fun w hw => cells_range (Kn.hd0 (Kn.tl (Kn.tl (Kn.tl hw)))) 0 6) ?_
  simp only [qz]
  refine rf_loadC (n := 6) (vs := w6L (W6.of y.c)) rfl rfl rfl Try.underlying105 rfl Kx rfl (fun w hw => cells_range (Kn.hd0 (Kn.tl (Kn.tl hw))) 0 6) ?_
  simp only [qz]
  refine rf_loadC (n := 6) (vs := w6L (W6.of y.a)) rfl rfl rfl Try.underlying105 rfl Kx rfl (fun w hw => cells_range (Kn.hd0 hw) 0 6) ?_
  simp only [qz]
  apply rg_pure Rx Kx
  case hargs => exact Ax
  case h => exact fun w hw => w6neg_any (y.d) w
  case hz => exact (fun _ h => by cases h; exact (sc _ (sc _ (sc _ (sc _ (sc _ (sc _ sn)))))))
  simp only [qz]
  apply rg_pure Rx Kx
  case hargs => exact Ax
  case h => exact fun w hw => w6add_any (y.b) (-y.d) w
  case hz => exact (fun _ h => by cases h; exact (sc _ (sc _ (sc _ (sc _ (sc _ (sc _ sn)))))))
  simp only [qz]
  apply rg_pure Rx Kx
  case hargs => exact Ax
  case h => exact fun w hw => w6half_any (y.b + -y.d) (by unfold In384; omega) (by obtain ⟨e1, e2⟩ := hev; omega) w
  case hz => exact (fun _ h => by cases h; exact (sc _ (sc _ (sc _ (sc _ (sc _ (sc _ sn)))))))
  simp only [qz]
  apply rg_pure Rx Kx
  case hargs => exact Ax
  case h => exact fun w hw => w6add_any (y.a) (y.c) w
  case hz => exact (fun _ h => by cases h; exact (sc _ (sc _ (sc _ (sc _ (sc _ (sc _ sn)))))))
  simp only [qz]
  apply rg_pure Rx Kx
  case hargs => exact Ax
  case h => exact fun w hw => w6half_any (y.a + y.c) (by unfold In384; omega) (by obtain ⟨e1, e2⟩ := hev; omega) w
  case hz => exact (fun _ h => by cases h; exact (sc _ (sc _ (sc _ (sc _ (sc _ (sc _ sn)))))))
  simp only [qz]
  apply rg_pure Rx Kx
  case hargs => exact Ax
  case h => exact fun w hw => w6add_any (y.b) (y.d) w
  case hz => exact (fun _ h => by cases h; exact (sc _ (sc _ (sc _ (sc _ (sc _ (sc _ sn)))))))
  simp only [qz]
  apply rg_pure Rx Kx
  case hargs => exact Ax
  case h => exact fun w hw => w6half_any (y.b + y.d) (by unfold In384; omega) (by obtain ⟨e1, e2⟩ := hev; omega) w
  case hz => exact (fun _ h => by cases h; exact (sc _ (sc _ (sc _ (sc _ (sc _ (sc _ sn)))))))
  simp only [qz]
  apply rg_pure Rx Kx
  case hargs => exact Ax
  case h => exact fun w hw => w6neg_any (y.a) w
  case hz => exact (fun _ h => by cases h; exact (sc _ (sc _ (sc _ (sc _ (sc _ (sc _ sn)))))))
  simp only [qz]
  apply rg_pure Rx Kx
  case hargs => exact Ax
  case h => exact fun w hw => w6add_any (y.c) (-y.a) w
  case hz => exact (fun _ h => by cases h; exact (sc _ (sc _ (sc _ (sc _ (sc _ (sc _ sn)))))))
  simp only [qz]
  apply rg_pure Rx Kx
  case hargs => exact Ax
  case h => exact fun w hw => w6half_any (y.c + -y.a) (by unfold In384; omega) (by obtain ⟨e1, e2⟩ := hev; omega) w
  case hz => exact (fun _ h => by cases h; exact (sc _ (sc _ (sc _ (sc _ (sc _ (sc _ sn)))))))
  simp only [qz]
  refine rf_build (cs := fun _ => smC (sel4 ((y.b + -y.d) / 2) ((y.a + y.c) / 2) ((y.b + y.d) / 2) ((y.c + -y.a) / 2))) rfl rfl Kx ?_
  simp only [qz]
  refine rf_storeRM (n := 24) (vs := (smC (sel4 ((y.b + -y.d) / 2) ((y.a + y.c) / 2) ((y.b + y.d) / 2) ((y.c + -y.a) / 2))).toList) rfl rfl Kx rfl rfl (UpdR.there _ (UpdR.there _ (UpdR.there _ (UpdR.there _ (UpdR.there _ (UpdR.here _ _ _ Nl)))))) (sc _ (sc _ (sc _ (sc _ (sc _ (sk _ sn)))))) ?_
  simp only [qz, Nat.reduceAdd]
  refine rg_nil (ek_next ?_)
  refine wk_region [0, 0, 0] rfl Kx ?_
  simp only [qy]
  refine rg_move ?_
  simp only [qz]
  refine rf_sub rfl rfl rfl rfl (wrap_ok Ox Ox) ?_
  simp only [qz]
  refine rg_assign ?_
  simp only [qz]
  refine rg_nil (ek_block ?_)
  refine ek_sub (sk _ (sk _ (sk _ (sk _ (sc _ (sc _ sn)))))) ?_
  refine ek_roundF ((y.k - 1).toNat) Ox Kx ?_
  exact ⟨y.step, rfl, (by rw [sm_ovr, ← co4_step]), by rfl, (Lib.hid (by rw [← nf_step Ox hev, hd1.out])), (Nm.step_fit hd2), (by simp only [Nm.step]; omega), (by simp only [Nm.step]; omega)⟩
 rintro f1 s ⟨y, hs1_1, rfl, hm1, hm2, hm3, hm4⟩
 simp only [Act.putF, List.foldl_cons, List.foldl_nil, hs1_1, Act.put, Act.eval, q1, q2, q3, q4, q5, q6, q7, q8, q9, q10, q11, q12, q13, q14, q15, q16, q17, q18, Nat.reduceAdd, Bool.not_true, Bool.not_false]
 clear hs1_1
 have hfa := hm2.a0; have hfa1 := hm2.a1; have hfb := hm2.b0; have hfb1 := hm2.b1; have hfc := hm2.c0; have hfc1 := hm2.c1; have hfd := hm2.d0; have hfd1 := hm2.d1
 refine wk_seq ?_
 refine wk_region [0, 0, 1, 1] rfl Kx ?_
 simp only [qy]
 refine rg_move ?_
 simp only [qz]
 refine rf_build (cs := fun a => #[.int .i64 0, .int .i64 0, .int .i64 0, .int .i64 0, a.eval (.tmp 64)]) rfl rfl Kx ?_
 simp only [qz]
 refine Rgn fun g3 => ?_
 simp only [qz]
 refine rf_storeR (n := 5) rfl rfl Kx rfl rfl (UpdR.here _ _ _ Nl) Nz ?_
 simp only [qz, Nat.reduceAdd]
 refine rg_nil (ek_next (wk_seq (wk_seq ?_)))
 refine wk_region [0, 0] rfl Kx ?_
 simp only [qy]
 refine rf_loadC (n := 24) (vs := (smC (co4 y)).toList) rfl rfl rfl Try.underlying107 rfl Kx rfl (fun w hw => sm_all (Kn.hd0 (Kn.tl (Kn.tl hw)))) ?_
 rw [show (smC (co4 y)).toList.toArray = smC (co4 y) by simp]
 simp only [qz]
 refine rg_move ?_
 simp only [qz]
 refine rg_nil (ek_next (wk_block ?_))
 refine wk_unroll 4 ?_
 refine wk_seq ?_
 refine wk_region [0] rfl Kx ?_
 simp only [qy]
 refine rf_lss (b := true) rfl rfl rfl rfl (by decide) ?_
 simp only [qz]
 refine rg_nil (ek_next (wk_seq (wk_cond_t rfl (wk_skip (ek_next (wk_seq (wk_block (wk_seq ?_))))))))
 refine wk_region [0, 0, 1, 0, 1] rfl Kx ?_
 simp only [qy]
 refine rg_move ?_
 simp only [qz]
 refine rf_idxR (n := 0) (sz := 6) rfl rfl rfl rfl Try.underlying107 Try.underlying105 rfl Kx (by decide) (sm_idx (by decide)) ?_
 simp only [qz]
 refine Rgn fun g4 => ?_
 simp only [qz]
 refine rg_assign ?_
 simp only [qz]
 refine rf_storeR (n := 6) rfl rfl Kx rfl rfl (UpdR.here _ _ _ Nl) Nz ?_
 simp only [qz, Nat.reduceAdd]
 refine rg_nil (ek_next (wk_seq ?_))
 refine wk_region [0, 1, 0, 0, 0, 0, 0] rfl Kx ?_
 simp only [qy]
 refine rf_loadR (n := 6) rfl rfl rfl Try.underlying105 rfl Kx (fun w hw => Kn.hd0 hw) rfl rfl ?_
 simp only [qz]
 apply rg_or (X := fun v => ∃ n, v = .tuple #[.int .i64 n, .bool (smB y.a)] ∧ (smB y.a = true → n = y.a)) Rx Kx
 case hargs => exact Ax
 case h => exact fun w hw => (w6small_any y.a (by unfold In384; omega) w).mono (fun e w' ⟨n, he, hn, hb⟩ => ⟨_, he, ⟨n, rfl, hn⟩, hb⟩)
 case hz => exact Nz
 rintro _ ⟨n, rfl, hn⟩
 rcases hsa : smB y.a with _ | _
 ·clear hn
  simp only [qz]
  refine rg_move ?_
  simp only [qz]
  refine rf_extract rfl rfl rfl rfl ?_
  simp only [qz]
  refine rf_extract rfl rfl rfl rfl ?_
  simp only [qz]
  refine rg_assign ?_
  simp only [qz]
  refine rg_assign ?_
  simp only [qz]
  refine rg_nil (ek_next (wk_seq (wk_seq ?_)))
  refine wk_region [0, 0] rfl Kx ?_
  simp only [qy]
  refine rg_move ?_
  simp only [qz]
  refine rf_not rfl rfl rfl ?_
  simp only [qz]
  refine rg_nil (ek_next (wk_cond_t rfl (wk_seq ?_)))
  refine wk_region [0, 1, 0] rfl Kx ?_
  simp only [qy]
  refine rf_build (cs := fun a => #[.int .i64 0, .int .i64 0, .int .i64 0, .int .i64 0, .int .i64 0]) rfl rfl Kx ?_
  simp only [qz]
  refine rf_storeR (n := 5) rfl rfl Kx rfl rfl (UpdR.there _ (UpdR.there _ (UpdR.here _ _ _ Nl))) Nz ?_
  simp only [qz, Nat.reduceAdd]
  refine rg_assign ?_
  simp only [qz]
  refine rg_nil (ek_next (wk_ret (ek_then_ret (ek_block_ret (ek_then_ret (ek_then_ret (ek_block_ret (ek_then_ret ?_))))))))
  refine ek_ret (fun w hw => ⟨rfl, _, run_results2 rfl rfl (Kn.hd0 (Kn.tl (Kn.tl hw))) Try.underlying29 rfl Kx, ?_⟩)
  (try simp only [qz])
  exact ⟨by unfold wnum; rw [hm1.out, if_neg (by unfold numOk; simp [hsa])]; rfl, hw.below⟩
 rw [hsa] at hn
 obtain rfl := hn rfl
 simp only [qz]
 refine rg_move ?_
 simp only [qz]
 refine rf_extract rfl rfl rfl rfl ?_
 simp only [qz]
 refine rf_extract rfl rfl rfl rfl ?_
 simp only [qz]
 refine rg_assign ?_
 simp only [qz]
 refine rg_assign ?_
 simp only [qz]
 refine rg_nil (ek_next (wk_seq (wk_seq ?_)))
 refine wk_region [0, 0] rfl Kx ?_
 simp only [qy]
 refine rg_move ?_
 simp only [qz]
 refine rf_not rfl rfl rfl ?_
 simp only [qz]
 refine rg_nil (ek_next (wk_cond_f rfl (wk_skip (ek_next ?_))))
 refine wk_region [0, 0, 0, 0, 1] rfl Kx ?_
 simp only [qy]
 refine rg_move ?_
 simp only [qz]
 refine rg_move ?_
 simp only [qz]
 refine rf_field (n := 3) (j := 0) rfl rfl rfl Try.underlying29 rfl Kx rfl ?_
 simp only [qz]
 refine rf_indexA (n := 0) (sz := 1) (j := 0) rfl rfl rfl rfl Try.underlying27 Kx (by decide) rfl ?_
 simp only [qz]
 refine rf_store rfl rfl Kx rfl rfl (UpdR.there _ (UpdR.here _ _ _ Nl)) Nz ?_
 simp only [qz]
 refine rg_nil (ek_block (ek_next ?_))
 refine wk_region [0, 0] rfl Kx ?_
 simp only [qy]
 refine rf_add (r := 1) rfl rfl rfl rfl (by decide) ?_
 simp only [qz]
 refine rg_move ?_
 simp only [qz]
 refine rg_nil (ek_again (wk_seq ?_))
 refine wk_region [0] rfl Kx ?_
 simp only [qy]
 refine rf_lss (b := true) rfl rfl rfl rfl (by decide) ?_
 simp only [qz]
 refine rg_nil (ek_next (wk_seq (wk_cond_t rfl (wk_skip (ek_next (wk_seq (wk_block (wk_seq ?_))))))))
 refine wk_region [0, 0, 1, 0, 1] rfl Kx ?_
 simp only [qy]
 refine rg_move ?_
 simp only [qz]
 refine rf_idxR (n := 1) (sz := 6) rfl rfl rfl rfl Try.underlying107 Try.underlying105 rfl Kx (by decide) (sm_idx (by decide)) ?_
 simp only [qz]
 refine Rgn fun g5 => ?_
 simp only [qz]
 refine rg_assign ?_
 simp only [qz]
 refine rf_storeR (n := 6) rfl rfl Kx rfl rfl (UpdR.here _ _ _ Nl) Nz ?_
 simp only [qz, Nat.reduceAdd]
 refine rg_nil (ek_next (wk_seq ?_))
 refine wk_region [0, 1, 0, 0, 0, 0, 0] rfl Kx ?_
 simp only [qy]
 refine rf_loadR (n := 6) rfl rfl rfl Try.underlying105 rfl Kx (fun w hw => Kn.hd0 hw) rfl rfl ?_
 simp only [qz]
 apply rg_or (X := fun v => ∃ n, v = .tuple #[.int .i64 n, .bool (smB y.b)] ∧ (smB y.b = true → n = y.b)) Rx Kx
 case hargs => exact Ax
 case h => exact fun w hw => (w6small_any y.b (by unfold In384; omega) w).mono (fun e w' ⟨n, he, hn, hb⟩ => ⟨_, he, ⟨n, rfl, hn⟩, hb⟩)
 case hz => exact Nz
 rintro _ ⟨n, rfl, hn⟩
 rcases hsb : smB y.b with _ | _
 ·clear hn
  simp only [qz]
  refine rg_move ?_
  simp only [qz]
  refine rf_extract rfl rfl rfl rfl ?_
  simp only [qz]
  refine rf_extract rfl rfl rfl rfl ?_
  simp only [qz]
  refine rg_assign ?_
  simp only [qz]
  refine rg_assign ?_
  simp only [qz]
  refine rg_nil (ek_next (wk_seq (wk_seq ?_)))
  refine wk_region [0, 0] rfl Kx ?_
  simp only [qy]
  refine rg_move ?_
  simp only [qz]
  refine rf_not rfl rfl rfl ?_
  simp only [qz]
  refine rg_nil (ek_next (wk_cond_t rfl (wk_seq ?_)))
  refine wk_region [0, 1, 0] rfl Kx ?_
  simp only [qy]
  refine rf_build (cs := fun a => #[.int .i64 0, .int .i64 0, .int .i64 0, .int .i64 0, .int .i64 0]) rfl rfl Kx ?_
  simp only [qz]
  refine rf_storeR (n := 5) rfl rfl Kx rfl rfl (UpdR.there _ (UpdR.there _ (UpdR.there _ (UpdR.here _ _ _ Nl)))) Nz ?_
  simp only [qz, Nat.reduceAdd]
  refine rg_assign ?_
  simp only [qz]
  refine rg_nil (ek_next (wk_ret (ek_then_ret (ek_block_ret (ek_then_ret (ek_then_ret (ek_block_ret (ek_then_ret ?_))))))))
  refine ek_ret (fun w hw => ⟨rfl, _, run_results2 rfl rfl (Kn.hd0 (Kn.tl (Kn.tl (Kn.tl hw)))) Try.underlying29 rfl Kx, ?_⟩)
  (try simp only [qz])
  exact ⟨by unfold wnum; rw [hm1.out, if_neg (by unfold numOk; simp [hsb])]; rfl, hw.below⟩
 rw [hsb] at hn
 obtain rfl := hn rfl
 simp only [qz]
 refine rg_move ?_
 simp only [qz]
 refine rf_extract rfl rfl rfl rfl ?_
 simp only [qz]
 refine rf_extract rfl rfl rfl rfl ?_
 simp only [qz]
 refine rg_assign ?_
 simp only [qz]
 refine rg_assign ?_
 simp only [qz]
 refine rg_nil (ek_next (wk_seq (wk_seq ?_)))
 refine wk_region [0, 0] rfl Kx ?_
 simp only [qy]
 refine rg_move ?_
 simp only [qz]
 refine rf_not rfl rfl rfl ?_
 simp only [qz]
 refine rg_nil (ek_next (wk_cond_f rfl (wk_skip (ek_next ?_))))
 refine wk_region [0, 0, 0, 0, 1] rfl Kx ?_
 simp only [qy]
 refine rg_move ?_
 simp only [qz]
 refine rg_move ?_
 simp only [qz]
 refine rf_field (n := 3) (j := 0) rfl rfl rfl Try.underlying29 rfl Kx rfl ?_
 simp only [qz]
 refine rf_indexA (n := 1) (sz := 1) (j := 1) rfl rfl rfl rfl Try.underlying27 Kx (by decide) rfl ?_
 simp only [qz]
 refine rf_store rfl rfl Kx rfl rfl (UpdR.there _ (UpdR.there _ (UpdR.here _ _ _ Nl))) Nz ?_
 simp only [qz]
 refine rg_nil (ek_block (ek_next ?_))
 refine wk_region [0, 0] rfl Kx ?_
 simp only [qy]
 refine rf_add (r := 2) rfl rfl rfl rfl (by decide) ?_
 simp only [qz]
 refine rg_move ?_
 simp only [qz]
 refine rg_nil (ek_again (wk_seq ?_))
 refine wk_region [0] rfl Kx ?_
 simp only [qy]
 refine rf_lss (b := true) rfl rfl rfl rfl (by decide) ?_
 simp only [qz]
 refine rg_nil (ek_next (wk_seq (wk_cond_t rfl (wk_skip (ek_next (wk_seq (wk_block (wk_seq ?_))))))))
 refine wk_region [0, 0, 1, 0, 1] rfl Kx ?_
 simp only [qy]
 refine rg_move ?_
 simp only [qz]
 refine rf_idxR (n := 2) (sz := 6) rfl rfl rfl rfl Try.underlying107 Try.underlying105 rfl Kx (by decide) (sm_idx (by decide)) ?_
 simp only [qz]
 refine Rgn fun g6 => ?_
 simp only [qz]
 refine rg_assign ?_
 simp only [qz]
 refine rf_storeR (n := 6) rfl rfl Kx rfl rfl (UpdR.here _ _ _ Nl) Nz ?_
 simp only [qz, Nat.reduceAdd]
 refine rg_nil (ek_next (wk_seq ?_))
 refine wk_region [0, 1, 0, 0, 0, 0, 0] rfl Kx ?_
 simp only [qy]
 refine rf_loadR (n := 6) rfl rfl rfl Try.underlying105 rfl Kx (fun w hw => Kn.hd0 hw) rfl rfl ?_
 simp only [qz]
 apply rg_or (X := fun v => ∃ n, v = .tuple #[.int .i64 n, .bool (smB y.c)] ∧ (smB y.c = true → n = y.c)) Rx Kx
 case hargs => exact Ax
 case h => exact fun w hw => (w6small_any y.c (by unfold In384; omega) w).mono (fun e w' ⟨n, he, hn, hb⟩ => ⟨_, he, ⟨n, rfl, hn⟩, hb⟩)
 case hz => exact Nz
 rintro _ ⟨n, rfl, hn⟩
 rcases hsc : smB y.c with _ | _
 ·clear hn
  simp only [qz]
  refine rg_move ?_
  simp only [qz]
  refine rf_extract rfl rfl rfl rfl ?_
  simp only [qz]
  refine rf_extract rfl rfl rfl rfl ?_
  simp only [qz]
  refine rg_assign ?_
  simp only [qz]
  refine rg_assign ?_
  simp only [qz]
  refine rg_nil (ek_next (wk_seq (wk_seq ?_)))
  refine wk_region [0, 0] rfl Kx ?_
  simp only [qy]
  refine rg_move ?_
  simp only [qz]
  refine rf_not rfl rfl rfl ?_
  simp only [qz]
  refine rg_nil (ek_next (wk_cond_t rfl (wk_seq ?_)))
  refine wk_region [0, 1, 0] rfl Kx ?_
  simp only [qy]
  refine rf_build (cs := fun a => #[.int .i64 0, .int .i64 0, .int .i64 0, .int .i64 0, .int .i64 0]) rfl rfl Kx ?_
  simp only [qz]
  refine rf_storeR (n := 5) rfl rfl Kx rfl rfl (UpdR.there _ (UpdR.there _ (UpdR.there _ (UpdR.there _ (UpdR.here _ _ _ Nl))))) Nz ?_
  simp only [qz, Nat.reduceAdd]
  refine rg_assign ?_
  simp only [qz]
  refine rg_nil (ek_next (wk_ret (ek_then_ret (ek_block_ret (ek_then_ret (ek_then_ret (ek_block_ret (ek_then_ret ?_))))))))
  refine ek_ret (fun w hw => ⟨rfl, _, run_results2 rfl rfl (Kn.hd0 (Kn.tl (Kn.tl (Kn.tl (Kn.tl hw))))) Try.underlying29 rfl Kx, ?_⟩)
  (try simp only [qz])
  exact ⟨by unfold wnum; rw [hm1.out, if_neg (by unfold numOk; simp [hsc])]; rfl, hw.below⟩
 rw [hsc] at hn
 obtain rfl := hn rfl
 simp only [qz]
 refine rg_move ?_
 simp only [qz]
 refine rf_extract rfl rfl rfl rfl ?_
 simp only [qz]
 refine rf_extract rfl rfl rfl rfl ?_
 simp only [qz]
 refine rg_assign ?_
 simp only [qz]
 refine rg_assign ?_
 simp only [qz]
 refine rg_nil (ek_next (wk_seq (wk_seq ?_)))
 refine wk_region [0, 0] rfl Kx ?_
 simp only [qy]
 refine rg_move ?_
 simp only [qz]
 refine rf_not rfl rfl rfl ?_
 simp only [qz]
 refine rg_nil (ek_next (wk_cond_f rfl (wk_skip (ek_next ?_))))
 refine wk_region [0, 0, 0, 0, 1] rfl Kx ?_
 simp only [qy]
 refine rg_move ?_
 simp only [qz]
 refine rg_move ?_
 simp only [qz]
 refine rf_field (n := 3) (j := 0) rfl rfl rfl Try.underlying29 rfl Kx rfl ?_
 simp only [qz]
 refine rf_indexA (n := 2) (sz := 1) (j := 2) rfl rfl rfl rfl Try.underlying27 Kx (by decide) rfl ?_
 simp only [qz]
 refine rf_store rfl rfl Kx rfl rfl (UpdR.there _ (UpdR.there _ (UpdR.there _ (UpdR.here _ _ _ Nl)))) Nz ?_
 simp only [qz]
 refine rg_nil (ek_block (ek_next ?_))
 refine wk_region [0, 0] rfl Kx ?_
 simp only [qy]
 refine rf_add (r := 3) rfl rfl rfl rfl (by decide) ?_
 simp only [qz]
 refine rg_move ?_
 simp only [qz]
 refine rg_nil (ek_again (wk_seq ?_))
 refine wk_region [0] rfl Kx ?_
 simp only [qy]
 refine rf_lss (b := true) rfl rfl rfl rfl (by decide) ?_
 simp only [qz]
 refine rg_nil (ek_next (wk_seq (wk_cond_t rfl (wk_skip (ek_next (wk_seq (wk_block (wk_seq ?_))))))))
 refine wk_region [0, 0, 1, 0, 1] rfl Kx ?_
 simp only [qy]
 refine rg_move ?_
 simp only [qz]
 refine rf_idxR (n := 3) (sz := 6) rfl rfl rfl rfl Try.underlying107 Try.underlying105 rfl Kx (by decide) (sm_idx (by decide)) ?_
 simp only [qz]
 refine Rgn fun g7 => ?_
 simp only [qz]
 refine rg_assign ?_
 simp only [qz]
 refine rf_storeR (n := 6) rfl rfl Kx rfl rfl (UpdR.here _ _ _ Nl) Nz ?_
 simp only [qz, Nat.reduceAdd]
 refine rg_nil (ek_next (wk_seq ?_))
 refine wk_region [0, 1, 0, 0, 0, 0, 0] rfl Kx ?_
 simp only [qy]
 refine rf_loadR (n := 6) rfl rfl rfl Try.underlying105 rfl Kx (fun w hw => Kn.hd0 hw) rfl rfl ?_
 simp only [qz]
 apply rg_or (X := fun v => ∃ n, v = .tuple #[.int .i64 n, .bool (smB y.d)] ∧ (smB y.d = true → n = y.d)) Rx Kx
 case hargs => exact Ax
 case h => exact fun w hw => (w6small_any y.d (by unfold In384; omega) w).mono (fun e w' ⟨n, he, hn, hb⟩ => ⟨_, he, ⟨n, rfl, hn⟩, hb⟩)
 case hz => exact Nz
 rintro _ ⟨n, rfl, hn⟩
 rcases hsd : smB y.d with _ | _
 ·clear hn
  simp only [qz]
  refine rg_move ?_
  simp only [qz]
  refine rf_extract rfl rfl rfl rfl ?_
  simp only [qz]
  refine rf_extract rfl rfl rfl rfl ?_
  simp only [qz]
  refine rg_assign ?_
  simp only [qz]
  refine rg_assign ?_
  simp only [qz]
  refine rg_nil (ek_next (wk_seq (wk_seq ?_)))
  refine wk_region [0, 0] rfl Kx ?_
  simp only [qy]
  refine rg_move ?_
  simp only [qz]
  refine rf_not rfl rfl rfl ?_
  simp only [qz]
  refine rg_nil (ek_next (wk_cond_t rfl (wk_seq ?_)))
  refine wk_region [0, 1, 0] rfl Kx ?_
  simp only [qy]
  refine rf_build (cs := fun a => #[.int .i64 0, .int .i64 0, .int .i64 0, .int .i64 0, .int .i64 0]) rfl rfl Kx ?_
  simp only [qz]
  refine rf_storeR (n := 5) rfl rfl Kx rfl rfl (UpdR.there _ (UpdR.there _ (UpdR.there _ (UpdR.there _ (UpdR.there _ (UpdR.here _ _ _ Nl)))))) Nz ?_
  simp only [qz, Nat.reduceAdd]
  refine rg_assign ?_
  simp only [qz]
  refine rg_nil (ek_next (wk_ret (ek_then_ret (ek_block_ret (ek_then_ret (ek_then_ret (ek_block_ret (ek_then_ret ?_))))))))
  refine ek_ret (fun w hw => ⟨rfl, _, run_results2 rfl rfl (Kn.hd0 (Kn.tl (Kn.tl (Kn.tl (Kn.tl (Kn.tl hw)))))) Try.underlying29 rfl Kx, ?_⟩)
  (try simp only [qz])
  exact ⟨by unfold wnum; rw [hm1.out, if_neg (by unfold numOk; simp [hsd])]; rfl, hw.below⟩
 rw [hsd] at hn
 obtain rfl := hn rfl
 simp only [qz]
 refine rg_move ?_
 simp only [qz]
 refine rf_extract rfl rfl rfl rfl ?_
 simp only [qz]
 refine rf_extract rfl rfl rfl rfl ?_
 simp only [qz]
 refine rg_assign ?_
 simp only [qz]
 refine rg_assign ?_
 simp only [qz]
 refine rg_nil (ek_next (wk_seq (wk_seq ?_)))
 refine wk_region [0, 0] rfl Kx ?_
 simp only [qy]
 refine rg_move ?_
 simp only [qz]
 refine rf_not rfl rfl rfl ?_
 simp only [qz]
 refine rg_nil (ek_next (wk_cond_f rfl (wk_skip (ek_next ?_))))
 refine wk_region [0, 0, 0, 0, 1] rfl Kx ?_
 simp only [qy]
 refine rg_move ?_
 simp only [qz]
 refine rg_move ?_
 simp only [qz]
 refine rf_field (n := 3) (j := 0) rfl rfl rfl Try.underlying29 rfl Kx rfl ?_
 simp only [qz]
 refine rf_indexA (n := 3) (sz := 1) (j := 3) rfl rfl rfl rfl Try.underlying27 Kx (by decide) rfl ?_
 simp only [qz]
 refine rf_store rfl rfl Kx rfl rfl (UpdR.there _ (UpdR.there _ (UpdR.there _ (UpdR.there _ (UpdR.here _ _ _ Nl))))) Nz ?_
 simp only [qz]
 refine rg_nil (ek_block (ek_next ?_))
 refine wk_region [0, 0] rfl Kx ?_
 simp only [qy]
 refine rf_add (r := 4) rfl rfl rfl rfl (by decide) ?_
 simp only [qz]
 refine rg_move ?_
 simp only [qz]
 refine rg_nil (ek_again (wk_seq ?_))
 refine wk_region [0] rfl Kx ?_
 simp only [qy]
 refine rf_lss (b := false) rfl rfl rfl rfl (by decide) ?_
 simp only [qz]
 refine rg_nil (ek_next (wk_seq (wk_cond_f rfl (wk_exit (ek_then_exit (ek_then_exit (ek_block_exit (ek_next (wk_seq ?_)))))))))
 refine wk_region [0, 0, 0, 1, 0] rfl Kx ?_
 simp only [qy]
 refine rf_loadR (n := 5) rfl rfl rfl Try.underlying29 rfl Kx (fun w hw => Kn.hd0 (Kn.tl (Kn.tl (Kn.tl (Kn.tl hw))))) rfl rfl ?_
 simp only [qz]
 refine rg_move ?_
 simp only [qz]
 refine rf_leq rfl rfl rfl rfl rfl ?_
 simp only [qz]
 refine rf_storeR (n := 5) rfl rfl Kx rfl rfl (UpdR.there _ (UpdR.there _ (UpdR.there _ (UpdR.there _ (UpdR.there _ (UpdR.here _ _ _ Nl)))))) Nz ?_
 simp only [qz, Nat.reduceAdd]
 refine rg_assign ?_
 simp only [qz]
 refine rg_nil (ek_next (wk_ret ?_))
 refine ek_ret (fun w hw => ⟨rfl, _, run_results2 rfl rfl (Kn.hd0 (Kn.tl (Kn.tl (Kn.tl (Kn.tl (Kn.tl hw)))))) Try.underlying29 rfl Kx, ?_⟩)
 (try simp only [qz])
 exact ⟨by unfold wnum; rw [hm1.out, if_pos (by unfold numOk; simp [hsa, hsb, hsc, hsd])]; rfl, hw.below⟩
theorem and_u (x : Int) (m : Nat) (h0 : 0 ≤ x) (h1 : x < 18446744073709551616) (hm : m < 18446744073709551616) : bits .and .u64 x (m : Int) = ((x.toNat &&& m : Nat) : Int) := by
 show IntKind.u64.wrap ((BitVec.ofInt 64 x &&& BitVec.ofInt 64 (m : Int)).toNat : Int) = _
 have e1 : (BitVec.ofInt 64 x).toNat = x.toNat := by rw [BitVec.toNat_ofInt]; omega
 have e2 : (BitVec.ofInt 64 (m : Int)).toNat = m := by rw [BitVec.toNat_ofInt]; omega
 have e3 : x.toNat &&& m ≤ x.toNat := Nat.and_le_left
 rw [BitVec.toNat_and, e1, e2, IntKind.wrap_u64]
 omega
theorem and127 (x : Int) : bits .and .i64 x 127 = x % 128 := and_mask x 7 (by decide)
def pc (S : Nat) : Nat := (S.testBit 0).toNat + (S.testBit 1).toNat + (S.testBit 2).toNat + (S.testBit 3).toNat + (S.testBit 4).toNat + (S.testBit 5).toNat
def oc (S : Nat) : Nat :=
  let c1 : Int := ((((S : Int) / 2).toNat &&& 6148914691236517205 : Nat) : Int) + (((S : Int).toNat &&& 6148914691236517205 : Nat) : Int)
  let c2 : Int := (((c1 / 4).toNat &&& 3689348814741910323 : Nat) : Int) + ((c1.toNat &&& 3689348814741910323 : Nat) : Int)
  let c3 : Int := (((c2 / 16 + c2).toNat &&& 1085102592571150095 : Nat) : Int)
  let c4 : Int := c3 + c3 / 256
  let c5 : Int := c4 + c4 / 65536
  let c6 : Int := c5 + c5 / 4294967296
  (c6 % 128).toNat
theorem oc_all : ((List.range 64).all fun S => decide (oc S = pc S)) = true := by kernel_rfl
theorem oc_pc {S : Nat} (h : S < 64) : oc S = pc S := of_decide_eq_true (List.all_eq_true.1 oc_all S (List.mem_range.2 h))
theorem ones64_any (S : Nat) (hS : S < 64) (w : World) : Calls Try.prog 143 #[.int .u64 S] w fun e w' => e = .returned (.int .i64 (pc S)) ∧ Below w.heap.size w w' := by
 go_enter Try.func143, Try.ntmps143
 refine wk_start ?_
 refine wk_seq ?_
 refine wk_region [0] rfl Kx ?_
 simp only [qy]
 refine rg_assign ?_
 simp only [qz]
 refine rg_nil (ek_next (wk_seq ?_))
 refine wk_region [0, 0, 0, 0, 0, 0, 0] rfl Kx ?_
 simp only [qy]
 refine rg_move ?_
 simp only [qz]
 refine rf_shr (c := 1) (q := 2) rfl rfl rfl rfl rfl (by decide) ?_
 simp only [qz]
 obtain ⟨a1, ha1⟩ : ∃ A : Nat, (((S : Int) / 2).toNat &&& 6148914691236517205 : Nat) = A := ⟨_, rfl⟩
 have ba1 : a1 ≤ ((S : Int) / 2).toNat := ha1 ▸ Nat.and_le_left
 refine rf_and (r := (a1 : Int)) rfl rfl rfl rfl ((and_u ((S : Int) / 2) 6148914691236517205 Ox Ox (by decide)).trans (by rw [ha1])) ?_
 simp only [qz]
 refine rg_move ?_
 simp only [qz]
 obtain ⟨b1, hb1⟩ : ∃ A : Nat, (((S : Int)).toNat &&& 6148914691236517205 : Nat) = A := ⟨_, rfl⟩
 have bb1 : b1 ≤ ((S : Int)).toNat := hb1 ▸ Nat.and_le_left
 refine rf_and (r := (b1 : Int)) rfl rfl rfl rfl ((and_u ((S : Int)) 6148914691236517205 Ox Ox (by decide)).trans (by rw [hb1])) ?_
 simp only [qz]
 refine rf_add rfl rfl rfl rfl (wrap_okU Ox Ox) ?_
 simp only [qz]
 refine rg_assign ?_
 simp only [qz]
 refine rg_nil (ek_next (wk_seq ?_))
 refine wk_region [0, 0, 0, 0, 0, 0, 0] rfl Kx ?_
 simp only [qy]
 refine rg_move ?_
 simp only [qz]
 refine rf_shr (c := 2) (q := 4) rfl rfl rfl rfl rfl (by decide) ?_
 simp only [qz]
 obtain ⟨a2, ha2⟩ : ∃ A : Nat, ((((a1 : Int) + b1) / 4).toNat &&& 3689348814741910323 : Nat) = A := ⟨_, rfl⟩
 have ba2 : a2 ≤ (((a1 : Int) + b1) / 4).toNat := ha2 ▸ Nat.and_le_left
 refine rf_and (r := (a2 : Int)) rfl rfl rfl rfl ((and_u (((a1 : Int) + b1) / 4) 3689348814741910323 Ox Ox (by decide)).trans (by rw [ha2])) ?_
 simp only [qz]
 refine rg_move ?_
 simp only [qz]
 obtain ⟨b2, hb2⟩ : ∃ A : Nat, (((a1 : Int) + b1).toNat &&& 3689348814741910323 : Nat) = A := ⟨_, rfl⟩
 have bb2 : b2 ≤ ((a1 : Int) + b1).toNat := hb2 ▸ Nat.and_le_left
 refine rf_and (r := (b2 : Int)) rfl rfl rfl rfl ((and_u ((a1 : Int) + b1) 3689348814741910323 Ox Ox (by decide)).trans (by rw [hb2])) ?_
 simp only [qz]
 refine rf_add rfl rfl rfl rfl (wrap_okU Ox Ox) ?_
 simp only [qz]
 refine rg_assign ?_
 simp only [qz]
 refine rg_nil (ek_next (wk_seq ?_))
 refine wk_region [0, 0, 0, 0, 0, 0] rfl Kx ?_
 simp only [qy]
 refine rg_move ?_
 simp only [qz]
 refine rf_shr (c := 4) (q := 16) rfl rfl rfl rfl rfl (by decide) ?_
 simp only [qz]
 refine rg_move ?_
 simp only [qz]
 refine rf_add rfl rfl rfl rfl (wrap_okU Ox Ox) ?_
 simp only [qz]
 obtain ⟨a3, ha3⟩ : ∃ A : Nat, ((((a2 : Int) + b2) / 16 + ((a2 : Int) + b2)).toNat &&& 1085102592571150095 : Nat) = A := ⟨_, rfl⟩
 have ba3 : a3 ≤ (((a2 : Int) + b2) / 16 + ((a2 : Int) + b2)).toNat := ha3 ▸ Nat.and_le_left
 refine rf_and (r := (a3 : Int)) rfl rfl rfl rfl ((and_u (((a2 : Int) + b2) / 16 + ((a2 : Int) + b2)) 1085102592571150095 Ox Ox (by decide)).trans (by rw [ha3])) ?_
 simp only [qz]
 refine rg_assign ?_
 simp only [qz]
 refine rg_nil (ek_next (wk_seq ?_))
 refine wk_region [0, 0, 0, 0, 0] rfl Kx ?_
 simp only [qy]
 refine rg_move ?_
 simp only [qz]
 refine rg_move ?_
 simp only [qz]
 refine rf_shr (c := 8) (q := 256) rfl rfl rfl rfl rfl (by decide) ?_
 simp only [qz]
 refine rf_add rfl rfl rfl rfl (wrap_okU Ox Ox) ?_
 simp only [qz]
 refine rg_assign ?_
 simp only [qz]
 refine rg_nil (ek_next (wk_seq ?_))
 refine wk_region [0, 0, 0, 0, 0] rfl Kx ?_
 simp only [qy]
 refine rg_move ?_
 simp only [qz]
 refine rg_move ?_
 simp only [qz]
 refine rf_shr (c := 16) (q := 65536) rfl rfl rfl rfl rfl (by decide) ?_
 simp only [qz]
 refine rf_add rfl rfl rfl rfl (wrap_okU Ox Ox) ?_
 simp only [qz]
 refine rg_assign ?_
 simp only [qz]
 refine rg_nil (ek_next (wk_seq ?_))
 refine wk_region [0, 0, 0, 0, 0] rfl Kx ?_
 simp only [qy]
 refine rg_move ?_
 simp only [qz]
 refine rg_move ?_
 simp only [qz]
 refine rf_shr (c := 32) (q := 4294967296) rfl rfl rfl rfl rfl (by decide) ?_
 simp only [qz]
 refine rf_add rfl rfl rfl rfl (wrap_okU Ox Ox) ?_
 simp only [qz]
 refine rg_assign ?_
 simp only [qz]
 refine rg_nil (ek_next (wk_seq ?_))
 refine wk_region [0, 0, 0, 0] rfl Kx ?_
 simp only [qy]
 refine rg_move ?_
 simp only [qz]
 refine rf_conv rfl rfl rfl Try.underlying103 Try.underlying3 (wrap_ok Ox Ox) ?_
 simp only [qz]
 refine rf_and (r := ((((a3 : Int) + (a3 : Int) / 256) + ((a3 : Int) + (a3 : Int) / 256) / 65536) + (((a3 : Int) + (a3 : Int) / 256) + ((a3 : Int) + (a3 : Int) / 256) / 65536) / 4294967296) % 128) rfl rfl rfl rfl (and127 _) ?_
 simp only [qz]
 refine rg_assign ?_
 simp only [qz]
 refine rg_nil (ek_next (wk_ret ?_))
 refine ek_ret (fun w hw => ⟨rfl, _, res_t _ rfl, ?_⟩)
 (try simp only [qz])
 have ht := oc_pc hS
 unfold oc at ht
 simp only [ha1, hb1, ha2, hb2, ha3] at ht
 exact ⟨by rw [← ht, Int.toNat_of_nonneg Ox], hw.below⟩
theorem ones_any (S : Nat) (hS : S < 64) (w : World) : Calls Try.prog 115 #[.int .u64 S] w fun e w' => e = .returned (.int .i64 (pc S)) ∧ Below w.heap.size w w' := by
 go_enter Try.func115, Try.ntmps115
 refine wk_start ?_
 refine wk_seq ?_
 refine wk_region [0] rfl Kx ?_
 simp only [qy]
 refine rg_assign ?_
 simp only [qz]
 refine rg_nil (ek_next (wk_seq (wk_cond_f rfl (wk_skip (ek_next (wk_seq ?_))))))
 refine wk_region [0, 1, 0] rfl Kx ?_
 simp only [qy]
 refine rg_move ?_
 simp only [qz]
 apply rg_pure Rx Kx
 case hargs => exact Ax
 case h => exact fun w hw => ones64_any S hS w
 case hz => exact Nz
 simp only [qz]
 refine rg_assign ?_
 simp only [qz]
 refine rg_nil (ek_next (wk_ret ?_))
 refine ek_ret (fun w hw => ⟨rfl, _, res_t _ rfl, ?_⟩)
 (try simp only [qz])
 first | exact ⟨rfl, hw.below⟩ | exact ⟨trivial, hw.below⟩ | exact hw.below
theorem pc_all : ((List.range 64).all fun S => (List.range 6).all fun k => !S.testBit k || (decide (pc (S - 2 ^ k) + 1 = pc S) && decide (2 ^ k ≤ S) && decide (bits .andNot .i64 (S : Int) ((2 ^ k : Nat) : Int) = ((S - 2 ^ k : Nat) : Int)))) = true := by kernel_rfl
theorem pc_out {S k : Nat} (h : S < 64) (hk : k < 6) (hb : S.testBit k = true) : pc (S - 2 ^ k) + 1 = pc S ∧ 2 ^ k ≤ S ∧ bits .andNot .i64 (S : Int) ((2 ^ k : Nat) : Int) = ((S - 2 ^ k : Nat) : Int) := by
 have h1 := List.all_eq_true.1 (List.all_eq_true.1 pc_all S (List.mem_range.2 h)) k (List.mem_range.2 hk)
 rw [hb] at h1
 simp only [Bool.not_true, Bool.false_or, Bool.and_eq_true, decide_eq_true_eq] at h1
 exact ⟨h1.1.1, h1.1.2, h1.2⟩
theorem pc_rng : ((List.range 7).all fun n => (List.range (2 ^ n)).all fun S => decide (pc S ≤ n) && (decide (S = 0) || decide (1 ≤ pc S))) = true := by kernel_rfl
theorem pc_le {S n : Nat} (hn : n ≤ 6) (h : S < 2 ^ n) : pc S ≤ n ∧ (S = 0 ∨ 1 ≤ pc S) := by
 have h1 := List.all_eq_true.1 (List.all_eq_true.1 pc_rng n (List.mem_range.2 Ox)) S (List.mem_range.2 h)
 simpa using h1
theorem pc_full {n : Nat} (hn : n ≤ 6) : pc (2 ^ n - 1) = n := by
 have : n = 0 ∨ n = 1 ∨ n = 2 ∨ n = 3 ∨ n = 4 ∨ n = 5 ∨ n = 6 := by omega
 rcases this with rfl | rfl | rfl | rfl | rfl | rfl | rfl <;> rfl
theorem pow_6 {n : Nat} (hn : n ≤ 6) : 1 ≤ 2 ^ n ∧ 2 ^ n ≤ 64 := by
 have : n = 0 ∨ n = 1 ∨ n = 2 ∨ n = 3 ∨ n = 4 ∨ n = 5 ∨ n = 6 := by omega
 rcases this with rfl | rfl | rfl | rfl | rfl | rfl | rfl <;> decide
theorem bit_at (S k : Nat) : bits .and .i64 ((S : Int) / (2 ^ k : Nat)) 1 = (if S.testBit k then 1 else 0) := by
 have e : ((S : Int) / (2 ^ k : Nat)) = ((S / 2 ^ k : Nat) : Int) := by rw [Int.natCast_ediv]
 have := and_mask ((S : Int) / (2 ^ k : Nat)) 1 (by decide)
 have h1 : ((2 ^ 1 - 1 : Nat) : Int) = 1 := rfl
 rw [h1] at this
 have h2 : (S.testBit k) = decide (S / 2 ^ k % 2 = 1) := by rw [Nat.testBit_eq_decide_div_mod_eq]
 have h3 : ((2 ^ 1 : Nat) : Int) = 2 := rfl
 rw [this, e, h2, h3]
 generalize S / 2 ^ k = q
 by_cases h : q % 2 = 1
 ·rw [decide_eq_true h, if_pos rfl]; omega
 rw [decide_eq_false h, if_neg (by decide)]; omega
theorem fold_k : ∀ (xs : List Nm) (k0 : Int), k0 ≤ xs.foldl (fun k z => if k < z.k then z.k else k) k0 ∧ (∀ z ∈ xs, z.k ≤ xs.foldl (fun k z => if k < z.k then z.k else k) k0) ∧ (k0 ≤ 40 → (∀ z ∈ xs, z.k ≤ 40) → xs.foldl (fun k z => if k < z.k then z.k else k) k0 ≤ 40)
  | [], k0 => ⟨Int.le_refl _, (fun _ h => nomatch h), fun h _ => h⟩
  | x :: t, k0 => by
    obtain ⟨k1, hk1⟩ : ∃ k1, (if k0 < x.k then x.k else k0) = k1 := ⟨_, rfl⟩
    have hb : k0 ≤ k1 ∧ x.k ≤ k1 ∧ (k1 = x.k ∨ k1 = k0) := by split at hk1 <;> omega
    obtain ⟨h1, h2, h3⟩ := fold_k t k1
    simp only [List.foldl_cons]
    rw [hk1]
    refine ⟨by omega, fun z hz => ?_, fun h4 h5 => h3 (by have := h5 x (by simp); omega) fun z hz => h5 z (by simp [hz])⟩
    rcases List.mem_cons.1 hz with rfl | hz
    · omega
    · exact h2 z hz
theorem expoP {xs : List Nm} (h : ∀ z ∈ xs, z.Ok) : 0 ≤ expo xs ∧ expo xs ≤ 40 ∧ ∀ z ∈ xs, z.k ≤ expo xs := by
 obtain ⟨h1, h2, h3⟩ := fold_k xs 0
 exact ⟨h1, h3 (by decide) fun z hz => (h z hz).k1, h2⟩
def cells (n : Nat) (f : Nat → Nat → Nm) (t : Nat) : List Nm := (List.range t).map fun i => f (i / n) (i % n)
theorem cells_len (n : Nat) (f : Nat → Nat → Nm) (t : Nat) : (cells n f t).length = t := by simp [cells]
theorem cells_succ (n : Nat) (f : Nat → Nat → Nm) (t : Nat) : cells n f (t + 1) = cells n f t ++ [f (t / n) (t % n)] := by
 simp [cells, List.range_succ]
def expF (n : Nat) (f : Nat → Nat → Nm) : Int := expo (cells n f (n * n))
theorem expF_ok {n : Nat} {f : Nat → Nat → Nm} (h : ∀ i k, i < n → k < n → (f i k).Ok) : 0 ≤ expF n f ∧ expF n f ≤ 40 ∧ ∀ i k, i < n → k < n → (f i k).k ≤ expF n f := by
 have hz : ∀ z ∈ cells n f (n * n), z.Ok := fun z hz => by
  obtain ⟨t, ht, rfl⟩ := List.mem_map.1 hz
  have ht := List.mem_range.1 ht
  have hn : 0 < n := by
   rcases Nat.eq_zero_or_pos n with rfl | h
   ·simp at ht
   ·exact h
  exact h _ _ (Nat.div_lt_of_lt_mul ht) (Nat.mod_lt _ hn)
 obtain ⟨h1, h2, h3⟩ := expoP hz
 refine ⟨h1, h2, fun i k hi hk => h3 _ (List.mem_map.2 ⟨i * n + k, List.mem_range.2 (ix_lt hi hk), ?_⟩)⟩
 rw [ix_div hk, ix_mod hk]
def perN (n : Nat) (f : Nat → Nat → Nm) : Nm := nmF (wyS (fun i k => co4 ((f i k).to (expF n f))) n n (2 ^ n - 1)) (n * expF n f)
def perF (n : Nat) (f : Nat → Nat → Nm) : NR := (perN n f).mk'
theorem co4_nmF (T : Nat → Int) (k : Int) : smC (co4 (nmF T k)) = smC T := smC_congr fun m hm => by
  rcases lt4 hm with rfl | rfl | rfl | rfl <;> rfl
theorem Be_le {n : Nat} (h : n ≤ 6) : Be n ≤ 2462625387274654950767440006258975862817483704404090416746768337765357610718575663213391640930307227550414249394176 := by
  have e : Be 6 = 8958978968711216842229769122273777112486581988938598139599956403855167484720643781523509973086428463104 := by decide
  have key : ∀ d n, n + d = 6 → Be n ≤ Be 6 := by
    intro d
    induction d with
    | zero => intro n h; obtain rfl : n = 6 := by omega
              exact Int.le_refl _
    | succ d ih =>
      intro n h
      have h1 := ih (n + 1) Ox
      have h2 := Be_pos n
      have h3 : Be (n + 1) = 144115188075855872 * Be n := rfl
      omega
  have := key (6 - n) n Ox
  omega
theorem co4_bd {z : Nm} {K : Int} (hz : z.Ok) (hk : z.k ≤ K) (hK : K ≤ 40) {j : Nat} (hj : j < 4) : -1048576000000000 ≤ co4 (z.to K) j ∧ co4 (z.to K) j ≤ 1048576000000000 := by
 have hf : (z.to K).Fit 1048576000000000 := by unfold Nm.to; exact Nm.up40_fit hz.fit (by have := hz.k0; omega)
 obtain ⟨a0, a1, b0, b1, c0, c1, d0, d1⟩ := hf
 rcases lt4 hj with rfl | rfl | rfl | rfl
 ·exact ⟨a0, a1⟩
 ·exact ⟨b0, b1⟩
 ·exact ⟨c0, c1⟩
 exact ⟨d0, d1⟩
theorem perN_fit {n : Nat} {f : Nat → Nat → Nm} (hn : n ≤ 6) (h : ∀ i k, i < n → k < n → (f i k).Ok) : (perN n f).Fit 2462625387274654950767440006258975862817483704404090416746768337765357610718575663213391640930307227550414249394176 ∧ 0 ≤ (perN n f).k ∧ (perN n f).k ≤ 240 := by
 obtain ⟨h1, h2, h3⟩ := expF_ok h
 have hb := wyS_bd (A := fun i k => co4 ((f i k).to (expF n f))) hn (fun i k j hi hk hj => co4_bd (h i k hi hk) (h3 i k hi hk) h2 hj) n (2 ^ n - 1)
 have hB := Be_le hn
 have b0 := hb 0 (Nat.le_refl _) (by decide); have b1 := hb 1 (Nat.le_refl _) (by decide); have b2 := hb 2 (Nat.le_refl _) (by decide); have b3 := hb 3 (Nat.le_refl _) (by decide)
 have e1 : 0 ≤ (n : Int) * expF n f := Int.mul_nonneg Ox h1
 have e2 := Int.mul_le_mul (show (n : Int) ≤ 6 by omega) h2 h1 (by decide)
 refine ⟨?_, e1, by show (n : Int) * expF n f ≤ 240; omega⟩
 unfold perN nmF
 exact ⟨by dsimp only; omega, by dsimp only; omega, by dsimp only; omega, by dsimp only; omega, by dsimp only; omega, by dsimp only; omega, by dsimp only; omega, by dsimp only; omega⟩
abbrev SumE : El (Nat → Int) := ⟨24, fun T => (smC T).toList, fun _ => 0, by decide, fun _ => rfl, fun T v hv => by
  have : (smC T).toList.all (·.oneCell') = true := by kernel_rfl
  exact List.all_eq_true.1 this v hv⟩
theorem sm_fl (xs : List (Nat → Int)) (k : Nat) (y : Nat → Int) (hk : k < xs.length) : setMany (SumE.flat xs ++ []).toArray (0 + k * 24) (smC y).toList = (SumE.flat (xs.set k y) ++ []).toArray := fl_set (E := SumE) (rest := []) hk
theorem sumInfo : (Try.prog.info? 107).map (fun i => (i.zero, i.size, i.bytes)) = some (some (.agg #[.int .u64 0, .int .u64 0, .int .u64 0, .int .u64 0, .int .u64 0, .int .u64 0, .int .u64 0, .int .u64 0, .int .u64 0, .int .u64 0, .int .u64 0, .int .u64 0, .int .u64 0, .int .u64 0, .int .u64 0, .int .u64 0, .int .u64 0, .int .u64 0, .int .u64 0, .int .u64 0, .int .u64 0, .int .u64 0, .int .u64 0, .int .u64 0]), 24, 192) := by kernel_rfl
theorem z24_fl (n : Nat) : madeCells #[.int .u64 0, .int .u64 0, .int .u64 0, .int .u64 0, .int .u64 0, .int .u64 0, .int .u64 0, .int .u64 0, .int .u64 0, .int .u64 0, .int .u64 0, .int .u64 0, .int .u64 0, .int .u64 0, .int .u64 0, .int .u64 0, .int .u64 0, .int .u64 0, .int .u64 0, .int .u64 0, .int .u64 0, .int .u64 0, .int .u64 0, .int .u64 0] (n * 24) = (SumE.flat (List.replicate n fun _ => 0) ++ []).toArray := by
 rw [List.append_nil, ← made_fl (E := SumE) (fun _ => 0) n]
 congr 1
section
variable {R : Option Nat} {P : Program} {ops : Array Oper} {Q : Exit → Act → World → Prop} {B : World} {F : List Nat} {s0 : Option (List Blk × List Blk)}
variable {l : List (Oper × Nat)} {a : Act} {s : List Blk} {d : Option Tmp} {t : TypeId} {p : String} {af : Array Edge} {gd : Option (Nat × Bool)} {m : Nat}
theorem rf_andNot {x y : Operand} {T z : TypeId} {k : IntKind} {n q r : Int} (hm : soft03 m = true) (hg : Region.wanted ⟨d, .binOp .andNot T x y z, t, p, af, gd⟩ (yielded ops a.tmps) = true)
    (hx : a.eval x = .int k n) (hy : a.eval y = .int k q) (hr : bits .andNot k n q = r) (h : Rg R P ops Q B F s0 l (a.put d (.int k r)) s) : Rg R P ops Q B F s0 ((⟨d, .binOp .andNot T x y z, t, p, af, gd⟩, m) :: l) a s := by
  refine rg_any hm hg (fun w => ?_) h
  unfold Yld
  subst hr
  simp [execOp, hx, hy, eqGuard, binOp, Op.intBits, bits]
end
theorem El.at_repl {α : Type} {E : El α} (n s : Nat) : E.at (List.replicate n E.dflt) s = E.dflt := by
 unfold El.at
 rw [List.getD_eq_getElem?_getD, List.getElem?_replicate]
 split <;> rfl
theorem wrap_eq {n r : Int} (h : n = r) (h0 : -9223372036854775808 ≤ r) (h1 : r < 9223372036854775808) : IntKind.i64.wrap n = r := by
 rw [h]; exact wrap_ok Ox Ox
theorem OwnN.asN {u s : List Blk} {av : Option Addr} {m cv : Nat} {xs : List Nm} {B w : World} {F : List Nat} (h : OwnN u (.slice av m cv) xs) (K : Kn B F (u ++ s) w) : AS w av (nms xs) := by
 obtain ⟨a, cap, e, hA⟩ := h.as K
 cases e
 exact hA
section
variable {R : Option Nat} {ops : Array Oper} {Q : Exit → Act → World → Prop} {B : World} {F : List Nat} {s0 : Option (List Blk × List Blk)}
variable {l : List (Oper × Nat)} {a : Act} {s S : List Blk} {d : Option Tmp} {op : Op} {t : TypeId} {p : String} {af : Array Edge} {v : Value}
theorem rg_appN' {so xo : Operand} {u : List Blk} {xs : List Nm} {x : Nm} {g m : Nat} {gd : Option (Nat × Bool)} (hg : Region.wanted ⟨d, .call ⟨.builtin .append, #[so, xo], #[22, 22]⟩, t, p, af, gd⟩ (yielded ops a.tmps) = true)
    (hs : a.eval so = v) (hown : OwnN u v xs) (hm : xs.length = m) (hx : a.eval xo = .slice (some ⟨g, 0, none⟩) 1 1) (hn : m ≤ 10000000) (hp : S.Perm (u ++ s))
    (hnews : ∀ w, Kn B F S w → Hd w g 29 (nmC x).toArray)
    (hzz : ∀ z ∈ s0, z.1.Sublist s) (h : ∀ u' a' c', OwnN u' (.slice a' (m + 1) c') (xs ++ [x]) → Rg R Try.prog ops Q B F s0 l (a.put d (.slice a' (m + 1) c')) (u' ++ s)) :
    Rg R Try.prog ops Q B F s0 ((⟨d, .call ⟨.builtin .append, #[so, xo], #[22, 22]⟩, t, p, af, gd⟩, 1) :: l) a S := by
  subst hm
  exact rg_appN hg hs hown hx hn hp hnews hzz h
end
set_option maxHeartbeats 2000000 in
theorem permanent_any (n : Nat) (hn6 : n ≤ 6) (fe : Nat → Nat → Nm) (fv : Value) (hok : ∀ i k, i < n → k < n → (fe i k).Ok) (w : World) (hF : FnV w fv (D2 n n fun i k => nmV (fe i k))) : Calls Try.prog 63 #[.int .i64 n, fv] w fun e w' => e = .returned (numV (perF n fe)) ∧ Below w.heap.size w w' := by
 go_enter Try.func63, Try.ntmps63
 refine wk_start ?_
 refine wk_seq ?_
 refine wk_region [1, 0] rfl Kx ?_
 simp only [qy]
 refine Rgn fun g1 => ?_
 simp only [qz]
 refine rg_assign ?_
 simp only [qz]
 refine rg_nil (ek_next (wk_seq ?_))
 refine wk_region [0] rfl Kx ?_
 simp only [qy]
 refine rg_assign ?_
 simp only [qz]
 refine rg_nil (ek_next (wk_seq (wk_seq ?_)))
 refine wk_region [0, 0] rfl Kx ?_
 simp only [qy]
 refine rg_move ?_
 simp only [qz]
 refine rg_move ?_
 simp only [qz]
 refine rg_nil (ek_next (wk_block ?_))
 refine wk_loopF [6, 7, 8, 17, 18, 19, 20, 21, 22, 23, 24, 25, 26, 27, 28, 29, 30, 31, 32] (fun mz f s => ∃ (i m : Nat) (u : List Blk) (av : Option Addr) (cv : Nat), f 6 = .slice av m cv ∧ f 17 = .int .i64 i ∧ s = (u ++ ((g1, .cells #[.int .i64 0, .int .i64 0, .int .i64 0, .int .i64 0, .int .i64 0] 29) :: [])) ∧ mz = n - i ∧ i ≤ n ∧ Hid (m = i * n) ∧ OwnN u (.slice av m cv) (cells n fe m)) ((fun (i m : Nat) (u : List Blk) (av : Option Addr) (cv : Nat) => n - i) (0) (0) ([]) (none) (0)) ?_ Kx ?_
 ·exact ⟨0, 0, [], none, 0, rfl, rfl, rfl, rfl, by omega, (Lib.hid (by rw [Nat.zero_mul])), OwnG.nil⟩
 rintro mz f1 s ⟨i, m, u, av, cv, hs1_6, hs1_17, rfl, hn, hd1, hd2, hd3⟩
 simp only [Act.putF, List.foldl_cons, List.foldl_nil, hs1_6, hs1_17, Act.put, Act.eval, q1, q2, q3, q4, q5, q6, q7, q8, q9, q10, q11, q12, q13, q14, q15, q16, q17, q18, Nat.reduceAdd, Bool.not_true, Bool.not_false]
 clear hs1_6 hs1_17
 refine wk_seq ?_
 refine wk_region [0] rfl Kx ?_
 simp only [qy]
 refine rfb_lss rfl rfl rfl rfl ?_
 intro x h1
 cases x
 ·(try simp only [qd, ne_eq] at h1)
  simp only [qz]
  refine rg_nil (ek_next (wk_seq (wk_cond_f rfl (wk_exit (ek_then_exit (ek_then_exit (ek_block_exit (ek_next (wk_seq ?_)))))))))
  refine wk_region [0, 1, 0] rfl Kx ?_
  simp only [qy]
  refine rg_move ?_
  simp only [qz]
  obtain rfl : n = i := by omega
  have hmn : m ≤ 36 := by (have := hd2.out; have := Nat.mul_le_mul hn6 hn6; omega)
  obtain ⟨h1z, h2z, h3z⟩ := expF_ok hok
  obtain ⟨K, hKd⟩ : ∃ K, expF n fe = K := ⟨_, rfl⟩
  rw [hKd] at h1z h2z h3z
  replace hKd := Lib.hid hKd
  apply rg_pure Rx Kx
  case hargs => exact Ax
  case h => exact fun w hw => (by have hlz := cells_len n fe m; have h := exponent_any (cells n fe m) av cv (by rw [hlz]; omega) w (OwnN.asN hd3 (hw.sub (List.Sublist.refl _))); rw [hlz, show expo (cells n fe m) = K by rw [← hKd.out, hd2.out]; rfl] at h; exact h)
  case hz => exact Nz
  simp only [qz]
  refine rg_assign ?_
  simp only [qz]
  refine rg_nil (ek_next (wk_seq ?_))
  refine wk_region [0, 0, 1, 0] rfl Kx ?_
  simp only [qy]
  refine rg_move ?_
  simp only [qz]
  have hM6 := pow_6 hn6
  obtain ⟨M, hM⟩ : ∃ M, 2 ^ n = M := ⟨_, rfl⟩
  rw [hM] at hM6
  replace hM := Lib.hid hM
  refine rf_shlV (c := n) (q := (M : Int)) (r := (M : Int)) rfl rfl rfl rfl rfl (by show n ≤ 64; omega) (by rw [← hM.out]; simp) (by rw [Int.one_mul]; exact wrap_ok Ox Ox) ?_
  simp only [qz]
  obtain ⟨iS, hiS, hzS, hsS, hbS⟩ := info_partsN sumInfo
  refine rg_make (n := M) (i := iS) Rx Try.underlying135 hiS hzS rfl rfl (by rw [hbS]; omega) Ox Nz (fun gw => ?_)
  rw [hsS, show (Value.agg #[.int .u64 0, .int .u64 0, .int .u64 0, .int .u64 0, .int .u64 0, .int .u64 0, .int .u64 0, .int .u64 0, .int .u64 0, .int .u64 0, .int .u64 0, .int .u64 0, .int .u64 0, .int .u64 0, .int .u64 0, .int .u64 0, .int .u64 0, .int .u64 0, .int .u64 0, .int .u64 0, .int .u64 0, .int .u64 0, .int .u64 0, .int .u64 0]).cells = #[.int .u64 0, .int .u64 0, .int .u64 0, .int .u64 0, .int .u64 0, .int .u64 0, .int .u64 0, .int .u64 0, .int .u64 0, .int .u64 0, .int .u64 0, .int .u64 0, .int .u64 0, .int .u64 0, .int .u64 0, .int .u64 0, .int .u64 0, .int .u64 0, .int .u64 0, .int .u64 0, .int .u64 0, .int .u64 0, .int .u64 0, .int .u64 0] from rfl, z24_fl]
  simp only [qz]
  refine rg_assign ?_
  simp only [qz]
  refine rg_nil (ek_next (wk_seq ?_))
  refine wk_region [0, 1, 0, 1] rfl Kx ?_
  simp only [qy]
  refine rg_move ?_
  simp only [qz]
  obtain ⟨T1, hT1⟩ : ∃ T : Nat → Int, sel4 1 0 0 0 = T := ⟨_, rfl⟩
  apply rg_pure Rx Kx
  case hargs => exact Ax
  case h => exact fun w hw => (by have h := smone_any w; rw [hT1] at h; exact h)
  case hz => exact Nz
  simp only [qz]
  replace hT1 := Lib.hid hT1
  refine rf_indexS (n := 0) (sz := 24) (j := 0 + 0 * 24) rfl rfl rfl rfl Try.underlying135 Kx rfl Ox rfl ?_
  simp only [qz]
  have hsz1 : 0 + 0 * 24 + (smC (T1)).toList.length ≤ (SumE.flat ((List.replicate M fun _ => 0)) ++ []).toArray.size := fl_size (E := SumE) (xs := (List.replicate M fun _ => 0)) (k := 0) (y := T1) (rest := []) (by first | omega | (simp; omega))
  refine rf_storeR (n := 24) (vs := (smC (T1)).toList) rfl rfl Kx rfl rfl (UpdR.here _ _ _ hsz1) Nz ?_
  rw [sm_fl ((List.replicate M fun _ => 0)) 0 (T1) (by first | omega | (simp; omega))]
  simp only [qz]
  refine rg_nil (ek_next (wk_seq (wk_seq ?_)))
  refine wk_region [0] rfl Kx ?_
  simp only [qy]
  refine rg_assign ?_
  simp only [qz]
  refine rg_nil (ek_next (wk_block ?_))
  refine wk_loopF [11, 12, 13, 41, 42, 43, 44, 45, 46, 47, 48, 49, 50, 51, 52, 53, 54, 55, 56, 57, 58, 59, 60, 61, 62, 63, 64, 65, 66, 67, 68, 69, 70, 71, 72, 73, 74, 75, 76, 77, 78, 79, 80, 81, 82] (fun mz f s => ∃ (S : Nat) (xs : List (Nat → Int)), f 11 = .int .i64 S ∧ s = ((gw, .cells (SumE.flat xs ++ []).toArray 107) :: (u ++ ((g1, .cells #[.int .i64 0, .int .i64 0, .int .i64 0, .int .i64 0, .int .i64 0] 29) :: []))) ∧ mz = M - S ∧ 1 ≤ S ∧ S ≤ M ∧ xs.length = M ∧ (∀ s, s < S → SumE.at xs s = wyS (fun i k => co4 ((fe i k).to K)) n (pc s) s) ∧ (∀ s, S ≤ s → s < M → SumE.at xs s = fun _ => 0)) ((fun (S : Nat) (xs : List (Nat → Int)) => M - S) (1) ((List.replicate M fun _ => 0).set 0 T1)) ?_ Kx ?_
  ·exact ⟨1, (List.replicate M fun _ => 0).set 0 T1, rfl, rfl, rfl, by omega, by omega, by simp, (fun s hs => (by have h0 : s = 0 := Ox; subst h0; rw [El.at_set _ _ _ _ (by simp; omega), if_pos rfl, ← hT1.out]; rfl)), (fun s h1 h2 => by rw [El.at_set _ _ _ _ (by simp; omega), if_neg Ox]; exact El.at_repl _ _)⟩
  rintro mz f2 s ⟨S, xs, hs2_11, rfl, hn, hd1, hd2, hd3, hd4, hd5⟩
  simp only [Act.putF, List.foldl_cons, List.foldl_nil, hs2_11, Act.put, Act.eval, q1, q2, q3, q4, q5, q6, q7, q8, q9, q10, q11, q12, q13, q14, q15, q16, q17, q18, Nat.reduceAdd, Bool.not_true, Bool.not_false]
  clear hs2_11
  refine wk_seq (wk_seq ?_)
  refine wk_region [0, 0, 0, 0] rfl Kx ?_
  simp only [qy]
  refine rg_move ?_
  simp only [qz]
  refine rg_move ?_
  simp only [qz]
  refine rf_len rfl rfl rfl Try.underlying135 ?_
  simp only [qz]
  refine rfb_lss rfl rfl rfl rfl ?_
  intro x h2
  cases x
  ·(try simp only [qd, ne_eq] at h2)
   simp only [qz]
   refine rg_nil (ek_next (wk_cond_f rfl (wk_exit (ek_then_exit (ek_then_exit (ek_block_exit (ek_next (wk_seq ?_))))))))
   obtain rfl : M = S := by omega
   have hlast := hd4 (M - 1) Ox
   have hpcM : pc (M - 1) = n := by rw [← hM.out]; exact pc_full hn6
   rw [hpcM] at hlast
   have hpf := perN_fit hn6 hok
   have hpe : perN n fe = nmF (SumE.at xs (M - 1)) (n * K) := by (unfold perN; rw [hKd.out, hM.out, hlast])
   rw [hpe] at hpf
   have hcr := fun w => reduced_sm (nmF (SumE.at xs (M - 1)) (n * K)) hpf.1 hpf.2.1 Ox w
   simp only [co4_nmF] at hcr
   have hnk1 : 0 ≤ (n : Int) * K := hpf.2.1
   have hnk2 : (n : Int) * K ≤ 240 := hpf.2.2
   obtain ⟨⟨v, bb⟩, hv⟩ : ∃ r, wnum (nmF (SumE.at xs (M - 1)) (n * K)) = r := ⟨_, rfl⟩
   rw [hv] at hcr
   replace hcr := Lib.hid hcr
   replace hv := Lib.hid hv
   replace hpe := Lib.hid hpe
   clear hlast
   refine wk_region [0, 0, 0, 0, 0, 0, 0, 0, 0, 1, 0, 0, 0, 1, 1, 0] rfl Kx ?_
   simp only [qy]
   refine rg_move ?_
   simp only [qz]
   refine rg_move ?_
   simp only [qz]
   refine rf_len rfl rfl rfl Try.underlying135 ?_
   simp only [qz]
   refine rf_sub rfl rfl rfl rfl (wrap_ok Ox Ox) ?_
   simp only [qz]
   refine rf_indexS (n := M - 1) (sz := 24) (j := 0 + (M - 1) * 24) rfl rfl rfl rfl Try.underlying135 Kx Ox Ox rfl ?_
   simp only [qz]
   refine rf_loadC (n := 24) (vs := (smC (SumE.at xs (M - 1))).toList) rfl rfl rfl Try.underlying107 rfl Kx rfl (fun w hw => fl_range (E := SumE) (Kn.hd0 hw) Ox) ?_
   rw [show (smC (SumE.at xs (M - 1))).toList.toArray = smC (SumE.at xs (M - 1)) by simp]
   simp only [qz]
   refine rg_move ?_
   simp only [qz]
   refine rg_move ?_
   simp only [qz]
   refine rf_mul rfl rfl rfl rfl (wrap_ok Ox Ox) ?_
   simp only [qz]
   apply rg_pure Rx Kx
   case hargs => exact Ax
   case h => exact fun w hw => hcr.out w
   case hz => exact Nz
   simp only [qz]
   rcases bb with _ | _
   ·refine rg_move ?_
    simp only [qz]
    refine rf_extract rfl rfl rfl rfl ?_
    simp only [qz]
    refine rf_extract rfl rfl rfl rfl ?_
    simp only [qz]
    refine Rgn fun g2 => ?_
    simp only [qz]
    refine rf_storeR (n := 5) rfl rfl Kx rfl rfl (UpdR.here _ _ _ Nl) Nz ?_
    simp only [qz, Nat.reduceAdd]
    refine rg_assign ?_
    simp only [qz]
    refine rg_nil (ek_next (wk_seq (wk_seq ?_)))
    refine wk_region [0, 0] rfl Kx ?_
    simp only [qy]
    refine rg_move ?_
    simp only [qz]
    refine rf_not rfl rfl rfl ?_
    simp only [qz]
    refine rg_nil (ek_next (wk_cond_t rfl (wk_seq ?_)))
    refine wk_region [0, 1, 0] rfl Kx ?_
    simp only [qy]
    refine rf_build (cs := fun a => #[.int .i64 0, .int .i64 0, .int .i64 0, .int .i64 0, .int .i64 0]) rfl rfl Kx ?_
    simp only [qz]
    refine rf_storeR (n := 5) rfl rfl Kx rfl rfl (UpdR.there _ (UpdR.there _ (UpdR.app _ (UpdR.here _ _ _ Nl)))) Nz ?_
    simp only [qz, Nat.reduceAdd]
    refine rg_assign ?_
    simp only [qz]
    refine rg_nil (ek_next (wk_ret (ek_then_ret ?_)))
    refine ek_ret (fun w hw => ⟨rfl, _, run_results2 rfl rfl (Kn.hd0 (Kn.tlU (Kn.tl (Kn.tl hw)))) Try.underlying29 rfl Kx, ?_⟩)
    (try simp only [qz])
    exact ⟨by unfold perF; rw [hpe.out, wnum_numV, hv.out]; rfl, hw.below⟩
   refine rg_move ?_
   simp only [qz]
   refine rf_extract rfl rfl rfl rfl ?_
   simp only [qz]
   refine rf_extract rfl rfl rfl rfl ?_
   simp only [qz]
   refine Rgn fun g3 => ?_
   simp only [qz]
   refine rf_storeR (n := 5) rfl rfl Kx rfl rfl (UpdR.here _ _ _ Nl) Nz ?_
   simp only [qz, Nat.reduceAdd]
   refine rg_assign ?_
   simp only [qz]
   refine rg_nil (ek_next (wk_seq (wk_seq ?_)))
   refine wk_region [0, 0] rfl Kx ?_
   simp only [qy]
   refine rg_move ?_
   simp only [qz]
   refine rf_not rfl rfl rfl ?_
   simp only [qz]
   refine rg_nil (ek_next (wk_cond_f rfl (wk_skip (ek_next (wk_seq ?_)))))
   refine wk_region [0, 1, 0] rfl Kx ?_
   simp only [qy]
   refine rf_loadR (n := 5) rfl rfl rfl Try.underlying29 rfl Kx (fun w hw => Kn.hd0 hw) rfl rfl ?_
   simp only [qz]
   refine rf_storeR (n := 5) rfl rfl Kx rfl rfl (UpdR.there _ (UpdR.there _ (UpdR.app _ (UpdR.here _ _ _ Nl)))) Nz ?_
   simp only [qz, Nat.reduceAdd]
   refine rg_assign ?_
   simp only [qz]
   refine rg_nil (ek_next (wk_ret ?_))
   refine ek_ret (fun w hw => ⟨rfl, _, run_results2 rfl rfl (Kn.hd0 (Kn.tlU (Kn.tl (Kn.tl hw)))) Try.underlying29 rfl Kx, ?_⟩)
   (try simp only [qz])
   exact ⟨by unfold perF; rw [hpe.out, wnum_numV, hv.out]; rfl, hw.below⟩
  (try simp only [qd, ne_eq] at h2)
  simp only [qz]
  refine rg_nil (ek_next (wk_cond_t rfl (wk_skip (ek_next (wk_seq (wk_block (wk_seq ?_)))))))
  refine wk_region [0, 0, 1, 0, 0] rfl Kx ?_
  simp only [qy]
  refine rg_move ?_
  simp only [qz]
  refine rf_conv rfl rfl rfl Try.underlying3 Try.underlying137 (wrap_okU Ox Ox) ?_
  simp only [qz]
  apply rg_pure Rx Kx
  case hargs => exact Ax
  case h => exact fun w hw => ones_any S Ox w
  case hz => exact Nz
  simp only [qz]
  have hpS := pc_le (S := S) hn6 (by rw [hM.out]; omega)
  obtain ⟨c, hcS⟩ : ∃ c, pc S = c + 1 := ⟨pc S - 1, by omega⟩
  have hcn : c < n := by omega
  replace hcS := Lib.hid hcS
  refine rf_sub (r := (c : Int)) rfl rfl rfl rfl (wrap_eq (by have := hcS.out; omega) Ox Ox) ?_
  simp only [qz]
  refine rg_assign ?_
  simp only [qz]
  refine rg_nil (ek_next (wk_seq ?_))
  refine wk_region [0, 0] rfl Kx ?_
  simp only [qy]
  refine rg_move ?_
  simp only [qz]
  refine rg_move ?_
  simp only [qz]
  refine rg_nil (ek_next (wk_block ?_))
  refine wk_loopF [13, 52, 53, 54, 55, 56, 57, 58, 59, 60, 61, 62, 63, 64, 65, 66, 67, 68, 69, 70, 71, 72, 73, 74, 75, 76, 77, 78, 79, 80, 81, 82] (fun mz f s => ∃ (k : Nat) (xs : List (Nat → Int)), f 52 = .int .i64 k ∧ s = ((gw, .cells (SumE.flat xs ++ []).toArray 107) :: (u ++ ((g1, .cells #[.int .i64 0, .int .i64 0, .int .i64 0, .int .i64 0, .int .i64 0] 29) :: []))) ∧ mz = n - k ∧ k ≤ n ∧ xs.length = M ∧ (∀ s, s < S → SumE.at xs s = wyS (fun i k => co4 ((fe i k).to K)) n (pc s) s) ∧ (SumE.at xs S = sumS k fun k => if S.testBit k then acc (wyS (fun i k => co4 ((fe i k).to K)) n c (S - 2 ^ k)) ((fun i k => co4 ((fe i k).to K)) c k) 16 else fun _ => 0) ∧ (∀ s, S < s → s < M → SumE.at xs s = fun _ => 0)) ((fun (k : Nat) (xs : List (Nat → Int)) => n - k) (0) (xs)) ?_ Kx ?_
  ·exact ⟨0, xs, rfl, rfl, rfl, by omega, hd3, hd4, (hd5 S Ox Ox), (fun s h1 h2 => hd5 s Ox h2)⟩
  rintro mz f3 s ⟨k, xs, hs3_52, rfl, hn, hf1, hf2, hf3, hf4, hf5⟩
  simp only [Act.putF, List.foldl_cons, List.foldl_nil, hs3_52, Act.put, Act.eval, q1, q2, q3, q4, q5, q6, q7, q8, q9, q10, q11, q12, q13, q14, q15, q16, q17, q18, Nat.reduceAdd, Bool.not_true, Bool.not_false]
  clear hs3_52
  refine wk_seq ?_
  refine wk_region [0] rfl Kx ?_
  simp only [qy]
  refine rfb_lss rfl rfl rfl rfl ?_
  intro x h3
  cases x
  ·(try simp only [qd, ne_eq] at h3)
   simp only [qz]
   refine rg_nil (ek_next (wk_seq (wk_cond_f rfl (wk_exit (ek_then_exit (ek_then_exit (ek_block_exit (ek_block (ek_next ?_)))))))))
   refine wk_region [0, 0, 0] rfl Kx ?_
   simp only [qy]
   refine rg_move ?_
   simp only [qz]
   refine rf_add rfl rfl rfl rfl (wrap_ok Ox Ox) ?_
   simp only [qz]
   refine rg_assign ?_
   simp only [qz]
   refine rg_nil ?_
   obtain rfl : n = k := by omega
   refine ek_roundF (M - (S + 1)) Ox Kx ?_
   exact ⟨S + 1, xs, rfl, by rfl, by rfl, Ox, Ox, hf2, (fun s hs => by rcases (by omega : s < S ∨ s = S) with h | rfl; exact hf3 s h; rw [hf4, hcS.out]; rfl), (fun s h1 h2 => hf5 s Ox h2)⟩
  (try simp only [qd, ne_eq] at h3)
  simp only [qz]
  refine rg_nil (ek_next (wk_seq (wk_cond_t rfl (wk_skip (ek_next (wk_seq (wk_block (wk_seq ?_))))))))
  refine wk_region [0, 0] rfl Kx ?_
  simp only [qy]
  refine rg_move ?_
  simp only [qz]
  refine rg_assign ?_
  simp only [qz]
  refine rg_nil (ek_next (wk_seq ?_))
  refine wk_region [0, 0, 0, 0, 0] rfl Kx ?_
  simp only [qy]
  refine rg_move ?_
  simp only [qz]
  refine rg_move ?_
  simp only [qz]
  have hk6 := pow_6 (n := k) Ox
  refine rf_shrV (c := k) (q := ((2 ^ k : Nat) : Int)) rfl rfl rfl rfl rfl (by show k ≤ 64; omega) (by simp) ?_
  simp only [qz]
  refine rf_and (r := if S.testBit k then 1 else 0) rfl rfl rfl rfl (bit_at S k) ?_
  simp only [qz]
  refine rfb_eql rfl rfl rfl rfl ?_
  intro x h4
  cases x
  ·(try simp only [qd, ne_eq] at h4)
   simp only [qz]
   have hbit : S.testBit k = false := by (cases hq : S.testBit k <;> simp [hq] at h4 ⊢)
   refine rg_nil (ek_next (wk_cond_f rfl (wk_skip (ek_block (ek_next ?_)))))
   refine wk_region [0, 0] rfl Kx ?_
   simp only [qy]
   refine rf_add rfl rfl rfl rfl (wrap_ok Ox Ox) ?_
   simp only [qz]
   refine rg_move ?_
   simp only [qz]
   refine rg_nil ?_
   refine ek_roundF (n - (k + 1)) Ox Kx ?_
   exact ⟨k + 1, xs, rfl, by rfl, by rfl, Ox, hf2, hf3, (by rw [hf4]; show _ = fun m => sumS k _ m + _; dsimp only; rw [if_neg (by rw [hbit]; decide)]; funext m; simp), hf5⟩
  (try simp only [qd, ne_eq] at h4)
  simp only [qz]
  have hbit : S.testBit k = true := by (cases hq : S.testBit k <;> simp [hq] at h4 ⊢)
  obtain ⟨ho1, ho2, ho3⟩ := pc_out (S := S) (k := k) Ox Ox hbit
  have hout : SumE.at xs (S - 2 ^ k) = wyS (fun i k => co4 ((fe i k).to K)) n c (S - 2 ^ k) := by (have h1 := hf3 (S - 2 ^ k) Ox; rw [h1, show pc (S - 2 ^ k) = c by have := hcS.out; omega])
  have hfk := hok c k Ox Ox
  have hkk := h3z c k Ox Ox
  have hbd := fun j hj => co4_bd hfk hkk h2z (j := j) hj
  have hb0 := hbd 0 (by decide); have hb1 := hbd 1 (by decide); have hb2 := hbd 2 (by decide); have hb3 := hbd 3 (by decide)
  refine rg_nil (ek_next (wk_cond_t rfl ?_))
  refine wk_draws_m (hz1 := (sk _ (List.Sublist.append_left (sc _ sn) _))) [(0, 0), (1, 0), (2, 0), (3, 0), (4, 0), (5, 0), (6, 0), (7, 0), (8, 0), (9, 0), (10, 0), (11, 0), (12, 0), (13, 0), (14, 0), (15, 0), (17, 0), (16, 1), (18, 1), (19, 1), (20, 1), (21, 0), (22, 2)] 22 Kx Kx (fun c d v a w h => by cases d <;> exact h) ?_
  simp only [List.map_cons, List.map_nil, List.getD_cons_zero, List.getD_cons_succ]
  refine rg_move ?_
  simp only [qz]
  refine rg_move ?_
  simp only [qz]
  refine rg_move ?_
  simp only [qz]
  refine rg_move ?_
  simp only [qz]
  refine rf_indexS (n := S) (sz := 24) (j := 0 + S * 24) rfl rfl rfl rfl Try.underlying135 Kx rfl Ox rfl ?_
  simp only [qz]
  refine rf_loadC (n := 24) (vs := (smC (SumE.at xs S)).toList) rfl rfl rfl Try.underlying107 rfl Kx rfl (fun w hw => fl_range (E := SumE) (Kn.hd0 hw) Ox) ?_
  rw [show (smC (SumE.at xs S)).toList.toArray = smC (SumE.at xs S) by simp]
  simp only [qz]
  refine rg_move ?_
  simp only [qz]
  refine rg_move ?_
  simp only [qz]
  refine rg_move ?_
  simp only [qz]
  refine rf_shlV (c := k) (q := ((2 ^ k : Nat) : Int)) (r := ((2 ^ k : Nat) : Int)) rfl rfl rfl rfl rfl (by show k ≤ 64; omega) (by simp) (by rw [Int.one_mul]; exact wrap_ok Ox Ox) ?_
  simp only [qz]
  refine rf_andNot (r := ((S - 2 ^ k : Nat) : Int)) rfl rfl rfl rfl ho3 ?_
  simp only [qz]
  refine rf_indexS (n := S - 2 ^ k) (sz := 24) (j := 0 + (S - 2 ^ k) * 24) rfl rfl rfl rfl Try.underlying135 Kx rfl Ox rfl ?_
  simp only [qz]
  refine rf_loadC (n := 24) (vs := (smC (SumE.at xs (S - 2 ^ k))).toList) rfl rfl rfl Try.underlying107 rfl Kx rfl (fun w hw => fl_range (E := SumE) (Kn.hd0 hw) Ox) ?_
  rw [show (smC (SumE.at xs (S - 2 ^ k))).toList.toArray = smC (SumE.at xs (S - 2 ^ k)) by simp]
  simp only [qz]
  refine rg_move ?_
  simp only [qz]
  refine rg_move ?_
  simp only [qz]
  refine rg_move ?_
  simp only [qz]
  refine rg_move ?_
  simp only [qz]
  refine rg_fnv (nmV (fe c k)) Rx hF rfl (by simp only [qm, qs, Act.eval] <;> rfl) ⟨c, k, by omega, by omega, rfl, rfl⟩ (fun _ h => by cases h; exact (sc _ (List.Sublist.append_left (sc _ sn) _))) ?_
  simp only [qz]
  apply rg_pure Rx Kx
  case hargs => exact Ax
  case h => exact fun w hw => scaled_any (fe c k) K hfk.fit hfk.k0 hkk h2z w
  case hz => exact (fun _ h => by cases h; exact (sc _ (List.Sublist.append_left (sc _ sn) _)))
  simp only [qz]
  apply rg_pure Rx Kx
  case hargs => exact Ax
  case h => exact fun w hw => smtimes_any (SumE.at xs (S - 2 ^ k)) (co4 ((fe c k).to K)) (sel_cases ⟨by omega, by omega⟩ ⟨by omega, by omega⟩ ⟨by omega, by omega⟩ ⟨by omega, by omega⟩) w
  case hz => exact (fun _ h => by cases h; exact (sc _ (List.Sublist.append_left (sc _ sn) _)))
  simp only [qz]
  apply rg_pure Rx Kx
  case hargs => exact Ax
  case h => exact fun w hw => smplus_any (SumE.at xs S) (acc (SumE.at xs (S - 2 ^ k)) (co4 ((fe c k).to K)) 16) w
  case hz => exact (fun _ h => by cases h; exact (sc _ (List.Sublist.append_left (sc _ sn) _)))
  simp only [qz]
  refine rf_indexS (n := S) (sz := 24) (j := 0 + S * 24) rfl rfl rfl rfl Try.underlying135 Kx rfl Ox rfl ?_
  simp only [qz]
  have hsz2 : 0 + S * 24 + (smC ((fun m => SumE.at xs S m + acc (SumE.at xs (S - 2 ^ k)) (co4 ((fe c k).to K)) 16 m))).toList.length ≤ (SumE.flat (xs) ++ []).toArray.size := fl_size (E := SumE) (xs := xs) (k := S) (y := (fun m => SumE.at xs S m + acc (SumE.at xs (S - 2 ^ k)) (co4 ((fe c k).to K)) 16 m)) (rest := []) (by first | omega | (simp; omega))
  refine rf_storeRM (n := 24) (vs := (smC ((fun m => SumE.at xs S m + acc (SumE.at xs (S - 2 ^ k)) (co4 ((fe c k).to K)) 16 m))).toList) rfl rfl Kx rfl rfl (UpdR.here _ _ _ hsz2) (sk _ (List.Sublist.append_left (sc _ sn) _)) ?_
  rw [sm_fl (xs) S ((fun m => SumE.at xs S m + acc (SumE.at xs (S - 2 ^ k)) (co4 ((fe c k).to K)) 16 m)) (by first | omega | (simp; omega))]
  simp only [qz]
  refine rg_nil (ek_block (ek_next ?_))
  refine wk_region [0, 0] rfl Kx ?_
  simp only [qy]
  refine rf_add rfl rfl rfl rfl (wrap_ok Ox Ox) ?_
  simp only [qz]
  refine rg_move ?_
  simp only [qz]
  refine rg_nil ?_
  refine ek_roundF (n - (k + 1)) Ox Kx ?_
  exact ⟨k + 1, xs.set S (fun m => SumE.at xs S m + acc (SumE.at xs (S - 2 ^ k)) (co4 ((fe c k).to K)) 16 m), rfl, by rfl, by rfl, Ox, (by rw [List.length_set]; exact hf2), (fun s hs => by rw [El.at_set _ _ _ _ Ox, if_neg Ox]; exact hf3 s hs), (by rw [El.at_set _ _ _ _ Ox, if_pos rfl, hf4, hout]; show _ = fun m => sumS k _ m + _; dsimp only; rw [if_pos hbit]), (fun s h1 h2 => by rw [El.at_set _ _ _ _ Ox, if_neg Ox]; exact hf5 s h1 h2)⟩
 (try simp only [qd, ne_eq] at h1)
 simp only [qz]
 refine rg_nil (ek_next (wk_seq (wk_cond_t rfl (wk_skip (ek_next (wk_seq (wk_block (wk_seq ?_))))))))
 refine wk_region [0, 0] rfl Kx ?_
 simp only [qy]
 refine rg_move ?_
 simp only [qz]
 refine rg_assign ?_
 simp only [qz]
 refine rg_nil (ek_next (wk_seq ?_))
 refine wk_region [0, 0] rfl Kx ?_
 simp only [qy]
 refine rg_move ?_
 simp only [qz]
 refine rg_move ?_
 simp only [qz]
 refine rg_nil (ek_next (wk_block ?_))
 refine wk_loopF [6, 8, 21, 22, 23, 24, 25, 26, 27, 28, 29, 30, 31] (fun mz f s => ∃ (k m : Nat) (u : List Blk) (av : Option Addr) (cv : Nat), f 6 = .slice av m cv ∧ f 21 = .int .i64 k ∧ s = (u ++ ((g1, .cells #[.int .i64 0, .int .i64 0, .int .i64 0, .int .i64 0, .int .i64 0] 29) :: [])) ∧ mz = n - k ∧ k ≤ n ∧ Hid (m = i * n + k) ∧ OwnN u (.slice av m cv) (cells n fe m)) ((fun (k m : Nat) (u : List Blk) (av : Option Addr) (cv : Nat) => n - k) (0) (m) (u) (av) (cv)) ?_ Kx ?_
 ·exact ⟨0, m, u, av, cv, rfl, rfl, rfl, rfl, by omega, (Lib.hid hd2.out), hd3⟩
 rintro mz f2 s ⟨k, m, u, av, cv, hs2_6, hs2_21, rfl, hn, he1, he2, he3⟩
 simp only [Act.putF, List.foldl_cons, List.foldl_nil, hs2_6, hs2_21, Act.put, Act.eval, q1, q2, q3, q4, q5, q6, q7, q8, q9, q10, q11, q12, q13, q14, q15, q16, q17, q18, Nat.reduceAdd, Bool.not_true, Bool.not_false]
 clear hs2_6 hs2_21
 have hmm : m ≤ 36 := by (have hsq := ix_small (i := i) (N := n) Ox hn6; have := he2.out; omega)
 refine wk_seq ?_
 refine wk_region [0] rfl Kx ?_
 simp only [qy]
 refine rfb_lss rfl rfl rfl rfl ?_
 intro x h5
 cases x
 ·(try simp only [qd, ne_eq] at h5)
  simp only [qz]
  refine rg_nil (ek_next (wk_seq (wk_cond_f rfl (wk_exit (ek_then_exit (ek_then_exit (ek_block_exit (ek_block (ek_next ?_)))))))))
  refine wk_region [0, 0] rfl Kx ?_
  simp only [qy]
  refine rf_add rfl rfl rfl rfl (wrap_ok Ox Ox) ?_
  simp only [qz]
  refine rg_move ?_
  simp only [qz]
  refine rg_nil ?_
  obtain rfl : n = k := by omega
  refine ek_roundF (n - (i + 1)) Ox Kx ?_
  exact ⟨i + 1, m, u, av, cv, rfl, rfl, Rx, by rfl, Ox, (Lib.hid (by rw [he2.out, Nat.add_mul, Nat.one_mul])), he3⟩
 (try simp only [qd, ne_eq] at h5)
 simp only [qz]
 refine rg_nil (ek_next (wk_seq (wk_cond_t rfl (wk_skip (ek_next (wk_seq (wk_block (wk_seq ?_))))))))
 refine wk_region [0, 0] rfl Kx ?_
 simp only [qy]
 refine rg_move ?_
 simp only [qz]
 refine rg_assign ?_
 simp only [qz]
 refine rg_nil (ek_next ?_)
 refine wk_region [0, 0, 0, 0, 1, 1, 1, 0] rfl Kx ?_
 simp only [qy]
 refine rg_move ?_
 simp only [qz]
 refine rg_move ?_
 simp only [qz]
 refine rg_move ?_
 simp only [qz]
 refine rg_move ?_
 simp only [qz]
 refine rg_fnv (nmV (fe i k)) Rx hF rfl (by simp only [qm, qs, Act.eval] <;> rfl) ⟨i, k, by omega, by omega, rfl, rfl⟩ Nz ?_
 simp only [qz]
 refine rg_newS (cs := ?_) (ty := ?_) (n := 1) (c := 1) Rx (fun w => ?_) Nz (fun g4 => ?_); rotate_left 2
 focus (go_simp; rfl)
 simp only [qz]
 refine rg_appN' (xs := cells n fe m) (x := fe i k) Rx rfl he3 (cells_len n fe m) rfl Ox (perm_atU (l := [_]) (u := u) (List.Perm.refl _)) (fun w hw => Kn.hd0 hw) Nz (fun uN1 aN1 cN1 hON1 => ?_)
 simp only [qz]
 refine rg_assign ?_
 simp only [qz]
 refine rg_nil (ek_block (ek_next ?_))
 refine wk_region [0, 0] rfl Kx ?_
 simp only [qy]
 refine rf_add rfl rfl rfl rfl (wrap_ok Ox Ox) ?_
 simp only [qz]
 refine rg_move ?_
 simp only [qz]
 refine rg_nil ?_
 refine ek_sub (List.Sublist.append_left (sk _ (sc _ sn)) _) ?_
 refine ek_roundF (n - (k + 1)) Ox Kx ?_
 exact ⟨k + 1, m + 1, uN1, aN1, cN1, rfl, rfl, Rx, by rfl, Ox, (Lib.hid (by rw [he2.out]; rfl)), (by have h := hON1; rwa [show cells n fe m ++ [fe i k] = cells n fe (m + 1) by rw [cells_succ, he2.out, ix_div Ox, ix_mod Ox]] at h)⟩
theorem at_fnv {N : Nat} {xs : List Nm} {a : Option Addr} {c : Nat} (hl : xs.length = N * N) (hN : N ≤ 6) {w : World} (hA : AS w a (nms xs)) : FnV w (.func (.func 64) #[.agg #[.int .i64 N, .slice a xs.length c]] #[]) (D2 N N fun i k => nmV (nm xs (i * N + k))) :=
  ⟨_, _, _, rfl, by kernel_rfl, fun w' hb vs r ⟨i, k, hi, hk, hv, hr⟩ => by
    subst hv hr
    have := at_any N i k xs a c hl hN hi hk w' (hA.below hb)
    simpa using this⟩
def perR (n : Int) (xs : List Nm) : NR := if validB n xs then perF n.toNat (fun i k => nm xs (i * n.toNat + k)) else .error 20
theorem validB_N {n : Int} {xs : List Nm} (h : validB n xs = true) : ∃ N : Nat, n = N ∧ 1 ≤ N ∧ N ≤ 6 ∧ xs.length = N * N ∧ xs.length ≤ 36 ∧ allOk xs = true := by
 simp only [validB, Bool.and_eq_true, decide_eq_true_eq] at h
 obtain ⟨h1, h2, h3, h4⟩ := h
 obtain ⟨N, rfl⟩ : ∃ N : Nat, n = N := ⟨n.toNat, by omega⟩
 have h5 : xs.length = N * N := by
  have e : ((N * N : Nat) : Int) = (N : Int) * N := Int.natCast_mul N N
  omega
 have h6 : N * N ≤ 6 * 6 := Nat.mul_le_mul Ox Ox
 exact ⟨N, rfl, by omega, by omega, h5, by omega, h4⟩
theorem elem_ok {xs : List Nm} {N : Nat} (hok : allOk xs = true) (hl : xs.length = N * N) {i k : Nat} (hi : i < N) (hk : k < N) : (nm xs (i * N + k)).Ok := ok_at hok (by rw [hl]; exact ix_lt hi hk)
theorem numV_ve (r : NR) : ∃ (v : Nm) (c : Int), numV r = .tuple #[nmV v, .int .i64 c] := by cases r <;> exact ⟨_, _, rfl⟩
theorem mpermanent_any (n : Int) (xs : List Nm) (a : Option Addr) (c : Nat) (hl : xs.length ≤ 1000000) (w : World) (hA : AS w a (nms xs)) : Calls Try.prog 17 #[.agg #[.int .i64 n, .slice a xs.length c]] w fun e w' => e = .returned (numV (perR n xs)) ∧ Below w.heap.size w w' := by
 go_enter Try.func17, Try.ntmps17
 refine wk_start ?_
 refine wk_seq ?_
 refine wk_region [1, 1, 0] rfl Kx ?_
 simp only [qy]
 refine Rgn fun g1 => ?_
 simp only [qz]
 refine Rgn fun g2 => ?_
 simp only [qz]
 refine rg_assign ?_
 simp only [qz]
 refine rg_nil (ek_next (wk_seq (wk_seq ?_)))
 refine wk_region [0, 1, 0] rfl Kx ?_
 simp only [qy]
 refine rf_loadR (n := 2) rfl rfl rfl Try.underlying24 rfl Kx (fun w hw => Kn.hd0 (Kn.tl hw)) rfl rfl ?_
 simp only [qz]
 apply rg_pureb Rx Kx
 case hargs => exact Ax
 case h => exact fun w hw => mvalid_any n xs a c hl w (hA.kn0 hw)
 case hz => exact Nz
 intro x h1
 cases x
 ·(try simp only [qd, ne_eq] at h1)
  simp only [qz]
  have hv := h1
  have hcp : perR n xs = .error 20 := by (unfold perR; rw [if_neg (by rw [hv]; decide)])
  replace hcp := Lib.hid hcp
  refine rf_not rfl rfl rfl ?_
  simp only [qz]
  refine rg_nil (ek_next (wk_cond_t rfl (wk_seq ?_)))
  refine wk_region [0, 1, 0] rfl Kx ?_
  simp only [qy]
  refine rf_build (cs := fun a => #[.int .i64 0, .int .i64 0, .int .i64 0, .int .i64 0, .int .i64 0]) rfl rfl Kx ?_
  simp only [qz]
  refine rf_storeR (n := 5) rfl rfl Kx rfl rfl (UpdR.here _ _ _ Nl) Nz ?_
  simp only [qz, Nat.reduceAdd]
  refine rg_assign ?_
  simp only [qz]
  refine rg_nil (ek_next (wk_ret (ek_then_ret ?_)))
  refine ek_ret (fun w hw => ⟨rfl, _, run_results2 rfl rfl (Kn.hd0 hw) Try.underlying29 rfl Kx, ?_⟩)
  (try simp only [qz])
  exact ⟨by rw [hcp.out]; rfl, hw.below⟩
 (try simp only [qd, ne_eq] at h1)
 simp only [qz]
 have hv := h1
 obtain ⟨N, rfl, hN1, hN, hlen, hl36, hok⟩ := validB_N hv
 replace hlen := Lib.hid hlen
 have hcp : perR (N : Int) xs = perF N (fun i k => nm xs (i * N + k)) := by (unfold perR; rw [if_pos hv, Int.toNat_natCast])
 replace hcp := Lib.hid hcp
 refine rf_not rfl rfl rfl ?_
 simp only [qz]
 refine rg_nil (ek_next (wk_cond_f rfl (wk_skip (ek_next (wk_seq ?_)))))
 refine wk_region [0, 0, 0, 0, 0, 1, 0, 0, 1, 0] rfl Kx ?_
 simp only [qy]
 refine rf_field (n := 0) (j := 0) rfl rfl rfl Try.underlying24 rfl Kx rfl ?_
 simp only [qz]
 refine rf_load rfl rfl rfl Try.underlying3 rfl (fun w hw => (Kn.hd0 (Kn.tl hw)).at rfl) ?_
 simp only [qz]
 refine rf_loadR (n := 2) rfl rfl rfl Try.underlying24 rfl Kx (fun w hw => Kn.hd0 (Kn.tl hw)) rfl rfl ?_
 simp only [qz]
 refine rf_build (cs := fun a => #[cellAt (a.eval (.tmp 10)) 0, cellAt (a.eval (.tmp 10)) 1]) rfl rfl Kx ?_
 simp only [qz]
 apply rg_soft
 case hy => (intro w hw; go_simp; (try go_bits); exact Yld.mk _ _)
 simp only [qz]
 apply rg_pure Rx Kx
 case hargs => exact Ax
 case h => exact fun w hw => permanent_any N hN (fun i k => nm xs (i * N + k)) _ (fun i k hi hk => elem_ok hok hlen.out hi hk) w (at_fnv hlen.out hN (hA.kn0 hw))
 case hz => exact Nz
 simp only [qz]
 rw [← hcp.out]
 obtain ⟨v, e, hve⟩ := numV_ve (perR (N : Int) xs)
 rw [hve]
 replace hve := Lib.hid hve
 refine rf_extract rfl rfl rfl rfl ?_
 simp only [qz]
 refine rf_extract rfl rfl rfl rfl ?_
 simp only [qz]
 refine rf_storeR (n := 5) rfl rfl Kx rfl rfl (UpdR.here _ _ _ Nl) Nz ?_
 simp only [qz, Nat.reduceAdd]
 refine rg_assign ?_
 simp only [qz]
 refine rg_nil (ek_next (wk_ret ?_))
 refine ek_ret (fun w hw => ⟨rfl, _, run_results2 rfl rfl (Kn.hd0 hw) Try.underlying29 rfl Kx, ?_⟩)
 (try simp only [qz])
 exact ⟨rfl, hw.below⟩
set_option maxHeartbeats 1000000
def mvL (f : Nat → Nm) (t : Nat) : List Nm := (List.range t).map f
theorem mvL_len (f : Nat → Nm) (t : Nat) : (mvL f t).length = t := by simp [mvL]
theorem mvL_succ (f : Nat → Nm) (t : Nat) : mvL f (t + 1) = mvL f t ++ [f t] := by simp [mvL, List.range_succ]
theorem mvL_nm {f : Nat → Nm} {t i : Nat} (h : i < t) : nm (mvL f t) i = f i := by
 show (mvL f t).getD i _ = f i
 unfold mvL
 rw [List.getD_eq_getElem?_getD, List.getElem?_map, List.getElem?_range h]
 rfl
theorem mvL_valid {N : Nat} {f : Nat → Nm} (h1 : 1 ≤ N) (h6 : N ≤ 6) (hf : ∀ t, t < N * N → (f t).Ok) : validB N (mvL f (N * N)) = true := by
 unfold validB
 rw [decide_eq_true (by omega), decide_eq_true (by omega), decide_eq_true (by rw [mvL_len]; exact Int.natCast_mul N N), Bool.true_and, Bool.true_and, Bool.true_and]
 refine List.all_eq_true.2 fun z hz => ?_
 obtain ⟨t, ht, rfl⟩ := List.mem_map.1 hz
 exact okB_iff.2 (hf t (by simpa using ht))
theorem perF_congr {N : Nat} (h6 : N ≤ 6) {f g : Nat → Nat → Nm} (hf : ∀ i k, i < N → k < N → (f i k).Ok) (hg : ∀ i k, i < N → k < N → (g i k).Ok)
    (h : pm (fun i k => (f i k).val) (List.range N) (List.range N) = pm (fun i k => (g i k).val) (List.range N) (List.range N)) : perF N f = perF N g := by
  have key : ∀ f : Nat → Nat → Nm, (∀ i k, i < N → k < N → (f i k).Ok) → (perN N f).val = pm (fun i k => (f i k).val) (List.range N) (List.range N) := fun f hf => by
    obtain ⟨e0, e1, e2⟩ := expF_ok hf
    rw [← wyQ_full _ h6]
    exact wyS_val h6 e0 (fun i k hi hk => ⟨(hf i k hi hk).k0, e2 i k hi hk⟩) N (2 ^ N - 1) (Nat.le_refl _)
  have k1 := (perN_fit h6 hf).2.1
  have k2 := (perN_fit h6 hg).2.1
  have := nf_eq k1 k2 (eqv_val k1 k2 ((key f hf).trans (h.trans (key g hg).symm)))
  unfold perF Nm.mk'
  rw [this]
theorem perR_mv {N : Nat} {f : Nat → Nm} (h1 : 1 ≤ N) (h6 : N ≤ 6) (hf : ∀ t, t < N * N → (f t).Ok) : perR N (mvL f (N * N)) = perF N fun i k => nm (mvL f (N * N)) (i * N + k) := by
 unfold perR
 rw [mvL_valid h1 h6 hf, if_pos rfl, Int.toNat_natCast]
theorem pm_rows {α β : Type} (a : α → β → Q4) {R R' : List α} (l : List β) (h : R.Perm R') (hl : R.length = l.length) : pm a R l = pm a R' l := by
 rw [pm_T a l R hl, pm_cols _ l h, ← pm_T a l R' (by rw [← h.length_eq]; exact hl)]
theorem rot_perm {N : Nat} (h6 : N ≤ 6) (x : Nat) : ((List.range N).map fun i => (i + x) % N).Perm (List.range N) := by
 rcases Nat.eq_zero_or_pos N with rfl | h0
 ·exact List.Perm.refl _
 have e : ((List.range N).map fun i => (i + x) % N) = (List.range N).map fun i => (i + x % N) % N := List.map_congr_left fun i _ => by rw [Nat.add_mod_mod]
 rw [e]
 have hr : x % N < N := Nat.mod_lt _ h0
 generalize x % N = r at hr
 refine List.isPerm_iff.1 ?_
 rcases (by omega : N = 1 ∨ N = 2 ∨ N = 3 ∨ N = 4 ∨ N = 5 ∨ N = 6) with rfl | rfl | rfl | rfl | rfl | rfl <;>
 rcases (by omega : r = 0 ∨ r = 1 ∨ r = 2 ∨ r = 3 ∨ r = 4 ∨ r = 5) with rfl | rfl | rfl | rfl | rfl | rfl <;> first | rfl | (exfalso; omega)
def rotF (N : Nat) (xs : List Nm) (x0 x1 : Nat) (t : Nat) : Nm := nm xs ((t / N + x0) % N * N + (t % N + x1) % N)
def traF (N : Nat) (xs : List Nm) (t : Nat) : Nm := nm xs (t % N * N + t / N)
def tunF (N : Nat) (xs : List Nm) (x2 x3 : Nat) (t : Nat) : Nm := Nm.turn ((t / N * x2 + t % N * x3) % 8) (nm xs t)
section
variable {N : Nat} {xs : List Nm} (hv : validB N xs = true)
include hv
theorem per_rot (x0 x1 : Nat) : perR N (mvL (rotF N xs x0 x1) (N * N)) = perR N xs := by
 obtain ⟨N', e, h1, h6, hlen, h36, hok⟩ := validB_N' hv
 obtain rfl : N' = N := by omega
 have hf : ∀ i k, i < N' → k < N' → (nm xs (i * N' + k)).Ok := fun i k hi hk => elem_ok hok hlen hi hk
 have hg : ∀ t, t < N' * N' → (rotF N' xs x0 x1 t).Ok := fun t _ => hf _ _ (Nat.mod_lt _ (by omega)) (Nat.mod_lt _ (by omega))
 have hn : ∀ i k, i < N' → k < N' → nm (mvL (rotF N' xs x0 x1) (N' * N')) (i * N' + k) = nm xs ((i + x0) % N' * N' + (k + x1) % N') := fun i k hi hk => by
  rw [mvL_nm (ix_lt hi hk)]
  unfold rotF
  rw [ix_div hk, ix_mod hk]
 rw [perR_mv h1 h6 hg]
 unfold perR
 rw [hv, if_pos rfl, Int.toNat_natCast]
 refine perF_congr h6 (fun i k hi hk => by rw [hn i k hi hk]; exact hf _ _ (Nat.mod_lt _ (by omega)) (Nat.mod_lt _ (by omega))) hf ?_
 have e1 : pm (fun i k => (nm (mvL (rotF N' xs x0 x1) (N' * N')) (i * N' + k)).val) (List.range N') (List.range N') = pm (fun i k => (nm xs ((i + x0) % N' * N' + (k + x1) % N')).val) (List.range N') (List.range N') :=
  pm_congr _ _ fun i hi k hk => by rw [hn i k (by simpa using hi) (by simpa using hk)]
 rw [e1]
 have e2 := pm_map (fun i k => (nm xs (i * N' + k)).val) (fun i => (i + x0) % N') (fun k => (k + x1) % N') (List.range N') (List.range N')
 rw [← e2, pm_cols _ _ (rot_perm h6 x1), pm_rows _ _ (rot_perm h6 x0) (by simp)]
theorem per_tra : perR N (mvL (traF N xs) (N * N)) = perR N xs := by
 obtain ⟨N', e, h1, h6, hlen, h36, hok⟩ := validB_N' hv
 obtain rfl : N' = N := by omega
 have hf : ∀ i k, i < N' → k < N' → (nm xs (i * N' + k)).Ok := fun i k hi hk => elem_ok hok hlen hi hk
 have hg : ∀ t, t < N' * N' → (traF N' xs t).Ok := fun t ht => hf _ _ (Nat.mod_lt _ (by omega)) (Nat.div_lt_of_lt_mul ht)
 have hn : ∀ i k, i < N' → k < N' → nm (mvL (traF N' xs) (N' * N')) (i * N' + k) = nm xs (k * N' + i) := fun i k hi hk => by
  rw [mvL_nm (ix_lt hi hk)]
  unfold traF
  rw [ix_div hk, ix_mod hk]
 rw [perR_mv h1 h6 hg]
 unfold perR
 rw [hv, if_pos rfl, Int.toNat_natCast]
 refine perF_congr h6 (fun i k hi hk => by rw [hn i k hi hk]; exact hf _ _ hk hi) hf ?_
 have e1 : pm (fun i k => (nm (mvL (traF N' xs) (N' * N')) (i * N' + k)).val) (List.range N') (List.range N') = pm (fun i k => (nm xs (k * N' + i)).val) (List.range N') (List.range N') :=
  pm_congr _ _ fun i hi k hk => by rw [hn i k (by simpa using hi) (by simpa using hk)]
 rw [e1]
 exact (pm_T (fun i k => (nm xs (i * N' + k)).val) (List.range N') (List.range N') rfl).symm
theorem tra_eq : mapM trF N xs = .ok (mvL (traF N xs) (N * N)) := by
 unfold mapM
 rw [hv, if_pos rfl, Int.toNat_natCast]
 exact gather_pure _ _
theorem alk_tun (x2 x3 : Nat) : alkB N N xs (mvL (tunF N xs x2 x3) (N * N)) = true ∧ alkE N N xs (mvL (tunF N xs x2 x3) (N * N)) = 0 := by
 obtain ⟨N', e, h1, h6, hlen, h36, hok⟩ := validB_N' hv
 obtain rfl : N' = N := by omega
 have hv2 : validB N' (mvL (tunF N' xs x2 x3) (N' * N')) = true := mvL_valid h1 h6 fun t ht => turn_ok (ok_at hok (by omega)) _
 obtain ⟨e1, e2⟩ := alk_ok (xs := xs) (ys := mvL (tunF N' xs x2 x3) (N' * N')) (by rw [hv, hv2]; rfl)
 rw [e1, e2]
 refine ⟨alikeA_yes (c := fun v => if v < N' then (v * x2 : Nat) else ((v - N') * x3 : Nat)) fun i k hi hk e he => ?_, rfl⟩
 unfold edM at he
 split at he
 ·cases he
 ·next hz =>
  have hn : nm (mvL (tunF N' xs x2 x3) (N' * N')) (i * N' + k) = Nm.turn ((i * x2 + k * x3) % 8) (nm xs (i * N' + k)) := by
   rw [mvL_nm (ix_lt hi hk)]
   unfold tunF
   rw [ix_div hk, ix_mod hk]
  rw [btw_eq (elem_ok hok hlen hi hk) hz (Nat.mod_lt _ (by decide)) hn.symm] at he
  cases he
  refine ⟨_, rfl, ?_⟩
  dsimp only
  rw [if_pos hi, if_neg (by omega), show N' + k - N' = k by omega]
  generalize i * x2 = p
  generalize k * x3 = q
  omega
end
theorem ident2_any (w : World) : Calls Try.prog 22 #[.int .i64 2] w (RetM w 2 [Nm.one, Nm.zero, Nm.zero, Nm.one] 0) := by
 have h := identity_any 2 w
 rw [show identR 2 = .ok [Nm.one, Nm.zero, Nm.zero, Nm.one] from rfl] at h
 exact h
theorem per2 : perR 2 [Nm.one, Nm.zero, Nm.zero, Nm.one] = .ok Nm.one := by kernel_rfl
theorem per2_any (a : Option Addr) (c : Nat) (w : World) (hA : AS w a (nms [Nm.one, Nm.zero, Nm.zero, Nm.one])) : Calls Try.prog 17 #[.agg #[.int .i64 2, .slice a 4 c]] w fun e w' => e = .returned (.tuple #[nmV Nm.one, .int .i64 0]) ∧ Below w.heap.size w w' := by
 have h := mpermanent_any 2 [Nm.one, Nm.zero, Nm.zero, Nm.one] a c (by decide) w hA
 rw [per2] at h
 exact h
theorem pat2_any (w : World) : Calls Try.prog 19 #[.int .i64 2, .int .i64 2] w (RetL w [[2, 0], [1, 1], [0, 2]] 0) := by
 have h := mpatterns_any 2 2 w
 rw [show patR 2 2 = [[2, 0], [1, 1], [0, 2]] from rfl, show patE 2 2 = 0 from rfl] at h
 exact h
theorem sane2_any  (w : World) : Calls Try.prog 16 #[] w fun e w' => e = .returned (.bool true) ∧ Below w.heap.size w w' := by
 go_enter Try.func16, Try.ntmps16
 refine wk_start ?_
 refine wk_seq ?_
 refine wk_region [0] rfl Kx ?_
 simp only [qy]
 refine rg_assign ?_
 simp only [qz]
 refine rg_nil (ek_next (wk_seq ?_))
 refine wk_region [1, 0, 0, 0, 1, 1, 0] rfl Kx ?_
 simp only [qy]
 apply rg_retM Rx Kx
 case hargs => exact Ax
 case h => exact fun w hw => ident2_any w
 case hz => exact Nz
 intro va1 vc1 u1 hO1
 simp only [qz]
 refine rg_move ?_
 simp only [qz]
 refine rf_extract rfl rfl rfl rfl ?_
 simp only [qz]
 refine rf_extract rfl rfl rfl rfl ?_
 simp only [qz]
 refine Rgn fun g2 => ?_
 simp only [qz]
 refine rf_storeR (n := 2) rfl rfl Kx rfl rfl (UpdR.here _ _ _ Nl) Nz ?_
 simp only [qz, Nat.reduceAdd]
 refine rg_assign ?_
 simp only [qz]
 refine rg_nil (ek_next (wk_seq ?_))
 refine wk_region [0, 1, 0, 0, 0, 1, 1, 0] rfl Kx ?_
 simp only [qy]
 refine rf_loadR (n := 2) rfl rfl rfl Try.underlying24 rfl Kx (fun w hw => Kn.hd0 hw) rfl rfl ?_
 simp only [qz]
 apply rg_pure Rx Kx
 case hargs => exact Ax
 case h => exact fun w hw => per2_any va1 vc1 w (OwnN.asN hO1 (hw.perm (perm_atU (l := [_]) (u := u1) (List.Perm.refl _))))
 case hz => exact Nz
 simp only [qz]
 refine rg_move ?_
 simp only [qz]
 refine rf_extract rfl rfl rfl rfl ?_
 simp only [qz]
 refine rf_extract rfl rfl rfl rfl ?_
 simp only [qz]
 refine Rgn fun g3 => ?_
 simp only [qz]
 refine rf_storeR (n := 5) rfl rfl Kx rfl rfl (UpdR.here _ _ _ Nl) Nz ?_
 simp only [qz, Nat.reduceAdd]
 refine rg_assign ?_
 simp only [qz]
 refine rg_nil (ek_next (wk_seq ?_))
 refine wk_region [1, 0, 0, 0, 0, 0] rfl Kx ?_
 simp only [qy]
 apply rg_retL Rx Kx
 case hargs => exact Ax
 case h => exact fun w hw => pat2_any w
 case hz => exact Nz
 intro va4 vc4 u4 hO4
 simp only [qz]
 refine rg_move ?_
 simp only [qz]
 refine rf_extract rfl rfl rfl rfl ?_
 simp only [qz]
 refine rf_extract rfl rfl rfl rfl ?_
 simp only [qz]
 refine rg_assign ?_
 simp only [qz]
 refine rg_assign ?_
 simp only [qz]
 refine rg_nil (ek_next (wk_seq ?_))
 refine wk_draws _ _ [(0, 0), (1, 0), (2, 0), (3, 0), (4, 0), (5, 0), (6, 0), (7, 0), (8, 0), (9, 0), (10, 0), (11, 0), (12, 1), (13, 0), (14, 0), (15, 0), (16, 0), (17, 0), (18, 0), (19, 0), (20, 0)] [] Kx Kx (fun c d v a w h => by cases d <;> exact h) ((List.Sublist.append_left (sc _ (sc _ (List.Sublist.append_left sn _))) _)) (fun e => by first | exact absurd e (by decide) | rfl) ?_
 simp only [List.map_cons, List.map_nil, List.getD_cons_zero, List.getD_cons_succ]
 refine rg_move ?_
 simp only [qz]
 refine rfb_eql rfl rfl rfl rfl ?_
 intro x h1
 obtain rfl : x = true := by (refine h1.symm.trans ?_; exact decide_eq_true Ox)
 clear h1
 simp only [qz]
 refine rg_move ?_
 simp only [qz]
 apply rg_soft_g
 case hg => rfl
 case hy => (intro w hw; go_simp; (try go_bits); exact Yld.mk _ _)
 simp only [qz]
 refine rfb_eql rfl rfl rfl rfl ?_
 intro x h2
 obtain rfl : x = true := by (refine h2.symm.trans ?_; exact decide_eq_true Ox)
 clear h2
 simp only [qz]
 refine rf_pick rfl rfl rfl ?_
 simp only [qz]
 refine rg_move ?_
 simp only [qz]
 apply rg_soft_g
 case hg => rfl
 case hy => (intro w hw; go_simp; (try go_bits); exact Yld.mk _ _)
 simp only [qz]
 refine rfb_eql rfl rfl rfl rfl ?_
 intro x h3
 obtain rfl : x = true := by (refine h3.symm.trans ?_; exact decide_eq_true Ox)
 clear h3
 simp only [qz]
 refine rf_pick rfl rfl rfl ?_
 simp only [qz]
 refine rg_move ?_
 simp only [qz]
 refine rf_loadR (n := 5) rfl rfl rfl Try.underlying29 rfl Kx (fun w hw => Kn.hd0 (Kn.tlU hw)) rfl rfl ?_
 simp only [qz]
 apply rg_pure Rx Kx
 case hargs => exact Ax
 case h => exact fun w hw => rOne_any w
 case hz => exact (fun _ h => by cases h; exact (List.Sublist.append_left (sc _ (sc _ (List.Sublist.append_left sn _))) _))
 simp only [qz]
 refine rfb_eqN _ _ rfl rfl rfl rfl ?_
 intro x h4
 cases x
 ·(try simp only [qd, ne_eq] at h4)
  simp only [qz]
  exact absurd trivial h4
 (try simp only [qd, ne_eq] at h4)
 simp only [qz]
 refine rf_pick rfl rfl rfl ?_
 simp only [qz]
 refine rg_move ?_
 simp only [qz]
 apply rg_soft_g
 case hg => rfl
 case hy => (intro w hw; go_simp; (try go_bits); exact Yld.mk _ _)
 simp only [qz]
 refine rf_len rfl rfl rfl Try.underlying33 ?_
 simp only [qz]
 refine rfb_eql rfl rfl rfl rfl ?_
 intro x h5
 obtain rfl : x = true := by (refine h5.symm.trans ?_; exact decide_eq_true Ox)
 clear h5
 simp only [qz]
 refine rf_pick rfl rfl rfl ?_
 simp only [qz]
 refine rg_assign ?_
 simp only [qz]
 refine rg_nil (ek_next (wk_ret ?_))
 refine ek_ret (fun w hw => ⟨rfl, _, res_t _ rfl, ?_⟩)
 (try simp only [qz])
 first | exact ⟨rfl, hw.below⟩ | exact ⟨trivial, hw.below⟩ | exact hw.below
theorem wide_any (n : Int) (xs : List Nm) (a : Option Addr) (c : Nat) (w : World) : Calls Try.prog 15 #[.agg #[.int .i64 n, .slice a xs.length c]] w fun e w' => e = .returned (.bool (decide ((50 : Int) < (xs.length : Int)))) ∧ Below w.heap.size w w' := by
 go_enter Try.func15, Try.ntmps15
 refine wk_start ?_
 refine wk_seq ?_
 refine wk_region [1, 0] rfl Kx ?_
 simp only [qy]
 refine Rgn fun g1 => ?_
 simp only [qz]
 refine rg_assign ?_
 simp only [qz]
 refine rg_nil (ek_next (wk_seq ?_))
 refine wk_region [0, 0, 0, 0, 0] rfl Kx ?_
 simp only [qy]
 refine rf_field (n := 0) (j := 1) rfl rfl rfl Try.underlying24 rfl Kx rfl ?_
 simp only [qz]
 refine rf_load rfl rfl rfl Try.underlying22 rfl (fun w hw => (Kn.hd0 hw).at rfl) ?_
 simp only [qz]
 refine rf_len rfl rfl rfl Try.underlying22 ?_
 simp only [qz]
 refine rf_gtr rfl rfl rfl rfl rfl ?_
 simp only [qz]
 refine rg_assign ?_
 simp only [qz]
 refine rg_nil (ek_next (wk_ret ?_))
 refine ek_ret (fun w hw => ⟨rfl, _, res_t _ rfl, ?_⟩)
 (try simp only [qz])
 first | exact ⟨rfl, hw.below⟩ | exact ⟨trivial, hw.below⟩ | exact hw.below
end Go.Proofs.Ytjeijnjaleldkaa
