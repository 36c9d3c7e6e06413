/- Several texts in one. -/
import Derived.Test.YtjeijnjaleldkaaSq
import Derived.Test.YtjeijnjaleldkaaWs1
import Derived.Test.YtjeijnjaleldkaaWtP
import Derived.Test.YtjeijnjaleldkaaXi
import Derived.DeepKeys
namespace Go.Proofs.Ytjeijnjaleldkaa
set_option linter.all false
open Go.RowKit
abbrev w6L (x : W6) : List Value := [.int .u64 x.w0, .int .u64 x.w1, .int .u64 x.w2, .int .u64 x.w3, .int .u64 x.w4, .int .u64 x.w5]
def smC (T : Nat → Int) : Array Value := (w6L (W6.of (T 0)) ++ (w6L (W6.of (T 1)) ++ (w6L (W6.of (T 2)) ++ w6L (W6.of (T 3))))).toArray
theorem sm_row {w : World} {g t m : Nat} {T : Nat → Int} (h : Hd w g t (smC T)) (hm : m < 4) : w.rangeAt g (0 + m * 6) (w6L (W6.of (T m))) := by
  have := cells_range h (0 + m * 6) 6
  have e : ((smC T).toList.drop (0 + m * 6)).take 6 = w6L (W6.of (T m)) := by
    rcases lt4 hm with rfl | rfl | rfl | rfl <;> rfl
  rwa [e] at this
theorem sm_idx {m : Nat} {T : Nat → Int} (hm : m < 4) : (smC T).extract (m * 6) (m * 6 + 6) = (w6L (W6.of (T m))).toArray := by
  rcases lt4 hm with rfl | rfl | rfl | rfl <;> rfl
theorem smX0 (x0 x1 x2 x3 y : W6) : setMany (w6L x0 ++ (w6L x1 ++ (w6L x2 ++ w6L x3))).toArray 0 (w6L y) = (w6L y ++ (w6L x1 ++ (w6L x2 ++ w6L x3))).toArray := by kernel_rfl
theorem smX1 (x0 x1 x2 x3 y : W6) : setMany (w6L x0 ++ (w6L x1 ++ (w6L x2 ++ w6L x3))).toArray 6 (w6L y) = (w6L x0 ++ (w6L y ++ (w6L x2 ++ w6L x3))).toArray := by kernel_rfl
theorem smX2 (x0 x1 x2 x3 y : W6) : setMany (w6L x0 ++ (w6L x1 ++ (w6L x2 ++ w6L x3))).toArray 12 (w6L y) = (w6L x0 ++ (w6L x1 ++ (w6L y ++ w6L x3))).toArray := by kernel_rfl
theorem smX3 (x0 x1 x2 x3 y : W6) : setMany (w6L x0 ++ (w6L x1 ++ (w6L x2 ++ w6L x3))).toArray 18 (w6L y) = (w6L x0 ++ (w6L x1 ++ (w6L x2 ++ w6L y))).toArray := by kernel_rfl
theorem sm_set {m : Nat} {T : Nat → Int} {t : Int} (hm : m < 4) : setMany (smC T) (0 + m * 6) (w6L (W6.of t)) = smC (upd T m t) := by
  unfold smC
  rcases lt4 hm with rfl | rfl | rfl | rfl
  · rw [upd_same, upd_other T t (show 1 ≠ 0 by decide), upd_other T t (show 2 ≠ 0 by decide), upd_other T t (show 3 ≠ 0 by decide)]; exact smX0 ..
  · rw [upd_same, upd_other T t (show 0 ≠ 1 by decide), upd_other T t (show 2 ≠ 1 by decide), upd_other T t (show 3 ≠ 1 by decide)]; exact smX1 ..
  · rw [upd_same, upd_other T t (show 0 ≠ 2 by decide), upd_other T t (show 1 ≠ 2 by decide), upd_other T t (show 3 ≠ 2 by decide)]; exact smX2 ..
  rw [upd_same, upd_other T t (show 0 ≠ 3 by decide), upd_other T t (show 1 ≠ 3 by decide), upd_other T t (show 2 ≠ 3 by decide)]; exact smX3 ..
theorem sm_set' {m : Nat} {T : Nat → Int} {t : Int} (hm : m < 4) : ((((((smC T).setIfInBounds (0 + m * 6) (.int .u64 (W6.of t).w0)).setIfInBounds (0 + m * 6 + 1) (.int .u64 (W6.of t).w1)).setIfInBounds (0 + m * 6 + 1 + 1) (.int .u64 (W6.of t).w2)).setIfInBounds (0 + m * 6 + 1 + 1 + 1) (.int .u64 (W6.of t).w3)).setIfInBounds
    (0 + m * 6 + 1 + 1 + 1 + 1) (.int .u64 (W6.of t).w4)).setIfInBounds (0 + m * 6 + 1 + 1 + 1 + 1 + 1) (.int .u64 (W6.of t).w5) = smC (upd T m t) := by rw [← sm_set hm]; simp only [setMany]
theorem sm_size {T : Nat → Int} : (smC T).size = 24 := rfl
theorem w6_zero : W6.of 0 = ⟨0, 0, 0, 0, 0, 0⟩ := by decide
theorem sm_zero : (#[.int .u64 0, .int .u64 0, .int .u64 0, .int .u64 0, .int .u64 0, .int .u64 0, .int .u64 0, .int .u64 0, .int .u64 0, .int .u64 0, .int .u64 0, .int .u64 0, .int .u64 0, .int .u64 0, .int .u64 0, .int .u64 0, .int .u64 0, .int .u64 0, .int .u64 0, .int .u64 0, .int .u64 0, .int .u64 0, .int .u64 0, .int .u64 0] : Array Value) = smC (fun _ => 0) := by
  unfold smC
  rw [w6_zero]
  rfl
theorem sm_all {w : World} {g t : Nat} {T : Nat → Int} (h : Hd w g t (smC T)) : w.rangeAt g 0 (smC T).toList := by
  have := cells_range h 0 24
  have e : ((smC T).toList.drop 0).take 24 = (smC T).toList := rfl
  rwa [e] at this
theorem acc_congr {X X' Y Y' : Nat → Int} (hX : ∀ i, i < 4 → X i = X' i) (hY : ∀ i, i < 4 → Y i = Y' i) : ∀ n m, n ≤ 16 → acc X Y n m = acc X' Y' n m
  | 0, m, _ => rfl
  | n + 1, m, h => by
    simp only [acc]
    rw [acc_congr hX hY n m Ox, hX (n / 4) Ox, hY (n % 4) Ox]
/-- The cells are given by the four values. -/
theorem smC_congr {T T' : Nat → Int} (h : ∀ m, m < 4 → T m = T' m) : smC T = smC T' := by
  unfold smC
  rw [h 0 (by decide), h 1 (by decide), h 2 (by decide), h 3 (by decide)]
end Go.Proofs.Ytjeijnjaleldkaa
namespace Go.Proofs.Ytjeijnjaleldkaa
set_option linter.all false
open Go.RowKit

def pls (X Y : Nat → Int) (i m : Nat) : Int := if m < i then X m + Y m else X m
theorem pls_step (X Y : Nat → Int) (i : Nat) : upd (pls X Y i) i (X i + Y i) = pls X Y (i + 1) := by
  funext m
  unfold upd pls
  by_cases h : m = i
  · subst h; rw [if_pos rfl, if_pos Ox]
  rw [if_neg h]
  by_cases h2 : m < i
  · rw [if_pos h2, if_pos Ox]
  rw [if_neg h2, if_neg Ox]
theorem pls_at (X Y : Nat → Int) (i : Nat) : pls X Y i i = X i := if_neg Ox
theorem pls_0 (X Y : Nat → Int) : pls X Y 0 = X := by funext m; exact if_neg Ox
theorem pls_4 (X Y : Nat → Int) : smC (pls X Y 4) = smC (fun m => X m + Y m) := smC_congr fun m hm => if_pos hm
theorem sm_whole {T : Nat → Int} : setMany (#[.int .u64 0, .int .u64 0, .int .u64 0, .int .u64 0, .int .u64 0, .int .u64 0, .int .u64 0, .int .u64 0, .int .u64 0, .int .u64 0, .int .u64 0, .int .u64 0, .int .u64 0, .int .u64 0, .int .u64 0, .int .u64 0, .int .u64 0, .int .u64 0, .int .u64 0, .int .u64 0, .int .u64 0, .int .u64 0, .int .u64 0, .int .u64 0] : Array Value) 0 (smC T).toList = smC T := by kernel_rfl
set_option maxRecDepth 100000 in
set_option maxHeartbeats 1000000 in
theorem smplus_any (X Y : Nat → Int) (w : World) : Calls Try.prog 83 #[.agg (smC X), .agg (smC Y)] w fun e w' => e = .returned (.agg (smC (fun m => X m + Y m))) ∧ Below w.heap.size w w' := by
  rw [show smC X = smC (pls X Y 0) by rw [pls_0]]
  go_enter Try.func83, Try.ntmps83
  refine wk_start ?_
  refine wk_seq ?_
  refine wk_region [1, 1, 1] rfl Kx ?_
  simp only [qy]
  refine Rgn fun g1 => ?_
  simp only [qz]
  refine Rgn fun g2 => ?_
  simp only [qz]
  refine Rgn fun g3 => ?_
  simp only [qz]
  refine rg_nil (ek_next (wk_seq (wk_seq ?_)))
  refine wk_region [0] rfl Kx ?_
  simp only [qy]
  refine rg_move ?_
  simp only [qz]
  refine rg_nil (ek_next (wk_block ?_))
  refine wk_loopF [5, 6, 7, 8, 9, 10, 11, 12, 13, 14, 15, 16, 17, 18] (fun mz f s => ∃ (i : Nat), f 6 = .int .i64 i ∧ s = ((g3, .cells #[.int .u64 0, .int .u64 0, .int .u64 0, .int .u64 0, .int .u64 0, .int .u64 0, .int .u64 0, .int .u64 0, .int .u64 0, .int .u64 0, .int .u64 0, .int .u64 0, .int .u64 0, .int .u64 0, .int .u64 0, .int .u64 0, .int .u64 0, .int .u64 0, .int .u64 0, .int .u64 0, .int .u64 0, .int .u64 0, .int .u64 0, .int .u64 0] 107) :: ((g2, .cells (smC Y) 107) :: ((g1, .cells (smC (pls X Y i)) 107) :: []))) ∧ mz = 4 - i ∧ i ≤ 4) ((fun (i : Nat) => 4 - i) (0)) ?_ Kx ?_
  · exact ⟨0, rfl, rfl, rfl, by omega⟩
  rintro mz f1 s ⟨i, hs1_6, rfl, hn, hd1⟩
  simp only [Act.putF, List.foldl_cons, List.foldl_nil, hs1_6, Act.put, Act.eval, q1, q2, q3, q4, q5, q6, q7, q8, q9, q10, q11, q12, q13, q14, q15, q16, q17, q18, Nat.reduceAdd, Bool.not_true, Bool.not_false]
  clear hs1_6
  refine wk_seq ?_
  refine wk_region [0] rfl Kx ?_
  simp only [qy]
  refine rfb_lss rfl rfl rfl rfl ?_
  intro x h1
  cases x
  · (try simp only [qd, ne_eq] at h1)
    simp only [qz]
    refine rg_nil (ek_next (wk_seq (wk_cond_f rfl (wk_exit (ek_then_exit (ek_then_exit (ek_block_exit (ek_next (wk_seq ?_)))))))))
    obtain rfl : i = 4 := by omega
    refine wk_region [0, 1] rfl Kx ?_
    simp only [qy]
    refine rf_loadC (n := 24) (vs := (smC (pls X Y 4)).toList) rfl rfl rfl Try.underlying107 rfl Kx rfl (fun w hw => sm_all (Kn.hd0 (Kn.tl (Kn.tl hw)))) ?_
    simp only [qz]
    refine rf_storeR (n := 24) (vs := (smC (pls X Y 4)).toList) rfl rfl Kx rfl rfl (UpdR.here _ _ _ Nl) Nz ?_
    rw [sm_whole]
    simp only [qz]
    refine rg_nil (ek_next (wk_ret ?_))
    refine ek_ret (fun w hw => ⟨rfl, _, run_results1 rfl rfl (Kn.hd0 hw) Try.underlying107 rfl Kx, ?_⟩)
    (try simp only [qz])
    exact ⟨by rw [← pls_4], hw.below⟩
  (try simp only [qd, ne_eq] at h1)
  simp only [qz]
  refine rg_nil (ek_next (wk_seq (wk_cond_t rfl (wk_skip (ek_next (wk_seq (wk_block (wk_seq ?_))))))))
  refine wk_region [0, 0] rfl Kx ?_
  simp only [qy]
  refine rg_move ?_
  simp only [qz]
  refine rg_assign ?_
  simp only [qz]
  refine rg_nil (ek_next ?_)
  refine wk_draws_m (hz1 := (sc _ (sc _ (sk _ sn)))) [(0, 0), (1, 0), (2, 0), (3, 0), (4, 0), (5, 0), (6, 0), (7, 1), (8, 0), (9, 2)] 9 Kx Kx (fun c d v a w h => by cases d <;> exact h) ?_
  simp only [List.map_cons, List.map_nil, List.getD_cons_zero, List.getD_cons_succ]
  refine rg_move ?_
  simp only [qz]
  refine rg_move ?_
  simp only [qz]
  refine rf_indexA (n := i) (sz := 6) (j := 0 + i * 6) rfl rfl rfl rfl Try.underlying107 Kx Ox rfl ?_
  simp only [qz]
  refine rf_loadC (n := 6) (vs := w6L (W6.of ((pls X Y i) i))) rfl rfl rfl Try.underlying105 rfl Kx rfl (fun w hw => sm_row (Kn.hd0 (Kn.tl (Kn.tl hw))) Ox) ?_
  simp only [qz]
  refine rg_move ?_
  simp only [qz]
  refine rf_indexA (n := i) (sz := 6) (j := 0 + i * 6) rfl rfl rfl rfl Try.underlying107 Kx Ox rfl ?_
  simp only [qz]
  refine rf_loadC (n := 6) (vs := w6L (W6.of (Y i))) rfl rfl rfl Try.underlying105 rfl Kx rfl (fun w hw => sm_row (Kn.hd0 (Kn.tl hw)) Ox) ?_
  simp only [qz]
  apply rg_pure Rx Kx
  case hargs => exact Ax
  case h => exact fun w hw => by have := w6add_any (pls X Y i i) (Y i) w; rw [pls_at] at this; rw [pls_at]; exact this
  case hz => exact (fun _ h => by cases h; exact (sc _ (sc _ (sc _ sn))))
  simp only [qz]
  refine rf_indexA (n := i) (sz := 6) (j := 0 + i * 6) rfl rfl rfl rfl Try.underlying107 Kx Ox rfl ?_
  simp only [qz]
  refine rf_storeRM (n := 6) (vs := w6L (W6.of (X i + Y i))) rfl rfl Kx rfl rfl (UpdR.there _ (UpdR.there _ (UpdR.here _ _ _ (show 0 + i * 6 + 6 ≤ 24 by omega)))) (sc _ (sc _ (sk _ sn))) ?_
  simp only [qz, Nat.reduceAdd]
  refine rg_nil (ek_block (ek_next ?_))
  refine wk_region [0, 0] rfl Kx ?_
  simp only [qy]
  refine rf_add rfl rfl rfl rfl (wrap_ok Ox Ox) ?_
  simp only [qz]
  refine rg_move ?_
  simp only [qz]
  refine rg_nil ?_
  refine ek_roundF (4 - (i + 1)) Ox Kx ?_
  exact ⟨i + 1, rfl, (by rw [sm_set' Ox, pls_step]), by rfl, by omega⟩

end Go.Proofs.Ytjeijnjaleldkaa
namespace Go.Proofs.Ytjeijnjaleldkaa
set_option linter.all false
open Go.RowKit

theorem ar_idx {Y : Nat → Int} {k : Nat} (h : k < 4) : (#[.int .i64 (Y 0), .int .i64 (Y 1), .int .i64 (Y 2), .int .i64 (Y 3)] : Array Value)[k]? = some (.int .i64 (Y k)) := by
  rcases lt4 h with rfl | rfl | rfl | rfl <;> rfl
set_option maxRecDepth 100000 in
set_option maxHeartbeats 1000000 in
theorem smtimes_any (X Y : Nat → Int) (hY : ∀ k, k < 4 → -9223372036854775807 ≤ Y k ∧ Y k ≤ 9223372036854775807) (w : World) : Calls Try.prog 85 #[.agg (smC X), .agg #[.int .i64 (Y 0), .int .i64 (Y 1), .int .i64 (Y 2), .int .i64 (Y 3)]] w fun e w' => e = .returned (.agg (smC (acc X Y 16))) ∧ Below w.heap.size w w' := by
  go_enter Try.func85, Try.ntmps85
  refine wk_start ?_
  refine wk_seq ?_
  refine wk_region [1, 1, 1] rfl Kx ?_
  simp only [qy]
  refine Rgn fun g1 => ?_
  simp only [qz]
  refine Rgn fun g2 => ?_
  simp only [qz]
  refine Rgn fun g3 => ?_
  simp only [qz]
  refine rg_nil (ek_next (wk_seq ?_))
  refine wk_region [1] rfl Kx ?_
  simp only [qy]
  refine Rgn fun g4 => ?_
  simp only [qz]
  refine rg_nil (ek_next (wk_seq (wk_seq ?_)))
  have hz24 := sm_zero
  rw [show ([(g4, Obj.cells (#[.int .u64 0, .int .u64 0, .int .u64 0, .int .u64 0, .int .u64 0, .int .u64 0, .int .u64 0, .int .u64 0, .int .u64 0, .int .u64 0, .int .u64 0, .int .u64 0, .int .u64 0, .int .u64 0, .int .u64 0, .int .u64 0, .int .u64 0, .int .u64 0, .int .u64 0, .int .u64 0, .int .u64 0, .int .u64 0, .int .u64 0, .int .u64 0]) 107), (g3, Obj.cells (#[.int .u64 0, .int .u64 0, .int .u64 0, .int .u64 0, .int .u64 0, .int .u64 0, .int .u64 0, .int .u64 0, .int .u64 0, .int .u64 0, .int .u64 0, .int .u64 0, .int .u64 0, .int .u64 0, .int .u64 0, .int .u64 0, .int .u64 0, .int .u64 0, .int .u64 0, .int .u64 0, .int .u64 0, .int .u64 0, .int .u64 0, .int .u64 0]) 107), (g2, Obj.cells (#[.int .i64 (Y 0), .int .i64 (Y 1), .int .i64 (Y 2), .int .i64 (Y 3)]) 27), (g1, Obj.cells (smC X) 107)] : List Blk) = [(g4, Obj.cells (smC fun _ => 0) 107), (g3, Obj.cells (#[.int .u64 0, .int .u64 0, .int .u64 0, .int .u64 0, .int .u64 0, .int .u64 0, .int .u64 0, .int .u64 0, .int .u64 0, .int .u64 0, .int .u64 0, .int .u64 0, .int .u64 0, .int .u64 0, .int .u64 0, .int .u64 0, .int .u64 0, .int .u64 0, .int .u64 0, .int .u64 0, .int .u64 0, .int .u64 0, .int .u64 0, .int .u64 0]) 107), (g2, Obj.cells (#[.int .i64 (Y 0), .int .i64 (Y 1), .int .i64 (Y 2), .int .i64 (Y 3)]) 27), (g1, Obj.cells (smC X) 107)] from congrArg (fun c => [(g4, Obj.cells c 107), (g3, Obj.cells (#[.int .u64 0, .int .u64 0, .int .u64 0, .int .u64 0, .int .u64 0, .int .u64 0, .int .u64 0, .int .u64 0, .int .u64 0, .int .u64 0, .int .u64 0, .int .u64 0, .int .u64 0, .int .u64 0, .int .u64 0, .int .u64 0, .int .u64 0, .int .u64 0, .int .u64 0, .int .u64 0, .int .u64 0, .int .u64 0, .int .u64 0, .int .u64 0]) 107), (g2, Obj.cells (#[.int .i64 (Y 0), .int .i64 (Y 1), .int .i64 (Y 2), .int .i64 (Y 3)]) 27), (g1, Obj.cells (smC X) 107)]) hz24]
  clear hz24
  refine wk_region [0, 0] rfl Kx ?_
  simp only [qy]
  refine rf_loadC (n := 24) (vs := (smC X).toList) rfl rfl rfl Try.underlying107 rfl Kx rfl (fun w hw => sm_all (Kn.hd0 (Kn.tl (Kn.tl (Kn.tl hw))))) ?_
  rw [show (smC X).toList.toArray = smC X by simp]
  simp only [qz]
  refine rg_move ?_
  simp only [qz]
  refine rg_nil (ek_next (wk_block ?_))
  refine wk_loopF [6, 7, 8, 9, 11, 12, 13, 14, 15, 16, 17, 18, 19, 20, 21, 22, 23, 24, 25, 26, 27, 28, 29, 30, 31, 32, 33, 34, 35, 36, 37, 38, 39, 40, 41, 42] (fun mz f s => ∃ (i : Nat) (T : Nat → Int), f 11 = .int .i64 i ∧ s = ((g4, .cells (smC T) 107) :: ((g3, .cells #[.int .u64 0, .int .u64 0, .int .u64 0, .int .u64 0, .int .u64 0, .int .u64 0, .int .u64 0, .int .u64 0, .int .u64 0, .int .u64 0, .int .u64 0, .int .u64 0, .int .u64 0, .int .u64 0, .int .u64 0, .int .u64 0, .int .u64 0, .int .u64 0, .int .u64 0, .int .u64 0, .int .u64 0, .int .u64 0, .int .u64 0, .int .u64 0] 107) :: ((g2, .cells #[.int .i64 (Y 0), .int .i64 (Y 1), .int .i64 (Y 2), .int .i64 (Y 3)] 27) :: ((g1, .cells (smC X) 107) :: [])))) ∧ mz = 4 - i ∧ i ≤ 4 ∧ Hid (acc X Y (i * 4) = T)) ((fun (i : Nat) (T : Nat → Int) => 4 - i) (0) (fun _ => 0)) ?_ Kx ?_
  · exact ⟨0, fun _ => 0, rfl, rfl, rfl, by omega, (Lib.hid rfl)⟩
  rintro mz f1 s ⟨i, T, hs1_11, rfl, hn, hd1, hd2⟩
  simp only [Act.putF, List.foldl_cons, List.foldl_nil, hs1_11, Act.put, Act.eval, q1, q2, q3, q4, q5, q6, q7, q8, q9, q10, q11, q12, q13, q14, q15, q16, q17, q18, Nat.reduceAdd, Bool.not_true, Bool.not_false]
  clear hs1_11
  have hac := hd2
  clear hd2
  refine wk_seq ?_
  refine wk_region [0] rfl Kx ?_
  simp only [qy]
  refine rfb_lss rfl rfl rfl rfl ?_
  intro x h1
  cases x
  · (try simp only [qd, ne_eq] at h1)
    simp only [qz]
    refine rg_nil (ek_next (wk_seq (wk_cond_f rfl (wk_exit (ek_then_exit (ek_then_exit (ek_block_exit (ek_next (wk_seq ?_)))))))))
    obtain rfl : i = 4 := by omega
    refine wk_region [0, 1] rfl Kx ?_
    simp only [qy]
    refine rf_loadC (n := 24) (vs := (smC T).toList) rfl rfl rfl Try.underlying107 rfl Kx rfl (fun w hw => sm_all (Kn.hd0 hw)) ?_
    simp only [qz]
    refine rf_storeR (n := 24) (vs := (smC T).toList) rfl rfl Kx rfl rfl (UpdR.there _ (UpdR.here _ _ _ Nl)) Nz ?_
    rw [sm_whole]
    simp only [qz]
    refine rg_nil (ek_next (wk_ret ?_))
    refine ek_ret (fun w hw => ⟨rfl, _, run_results1 rfl rfl (Kn.hd0 (Kn.tl hw)) Try.underlying107 rfl Kx, ?_⟩)
    (try simp only [qz])
    exact ⟨by rw [show acc X Y 16 = T from hac.out], hw.below⟩
  (try simp only [qd, ne_eq] at h1)
  simp only [qz]
  refine rg_nil (ek_next (wk_seq (wk_cond_t rfl (wk_skip (ek_next (wk_seq (wk_block (wk_seq ?_))))))))
  refine wk_region [0, 0, 1, 0, 1] rfl Kx ?_
  simp only [qy]
  refine rg_move ?_
  simp only [qz]
  refine rf_idxR (n := i) (sz := 6) rfl rfl rfl rfl Try.underlying107 Try.underlying105 rfl Kx Ox (sm_idx Ox) ?_
  simp only [qz]
  refine Rgn fun g5 => ?_
  simp only [qz]
  refine rg_assign ?_
  simp only [qz]
  refine rf_storeR (n := 6) rfl rfl Kx rfl rfl (UpdR.here _ _ _ Nl) Nz ?_
  simp only [qz, Nat.reduceAdd]
  refine rg_nil (ek_next (wk_seq ?_))
  refine wk_region [0, 0] rfl Kx ?_
  simp only [qy]
  refine rf_loadR (n := 4) rfl rfl rfl Try.underlying27 rfl Kx (fun w hw => Kn.hd0 (Kn.tl (Kn.tl (Kn.tl hw)))) rfl rfl ?_
  simp only [qz]
  refine rg_move ?_
  simp only [qz]
  refine rg_nil (ek_next (wk_block ?_))
  refine wk_loopF [8, 9, 16, 17, 18, 19, 20, 21, 22, 23, 24, 25, 26, 27, 28, 29, 30, 31, 32, 33, 34, 35, 36, 37, 38, 39, 40, 41] (fun mz f s => ∃ (k : Nat) (T2 : Nat → Int), f 16 = .int .i64 k ∧ s = ((g5, .cells (w6L (W6.of (X i))).toArray 105) :: ((g4, .cells (smC T2) 107) :: ((g3, .cells #[.int .u64 0, .int .u64 0, .int .u64 0, .int .u64 0, .int .u64 0, .int .u64 0, .int .u64 0, .int .u64 0, .int .u64 0, .int .u64 0, .int .u64 0, .int .u64 0, .int .u64 0, .int .u64 0, .int .u64 0, .int .u64 0, .int .u64 0, .int .u64 0, .int .u64 0, .int .u64 0, .int .u64 0, .int .u64 0, .int .u64 0, .int .u64 0] 107) :: ((g2, .cells #[.int .i64 (Y 0), .int .i64 (Y 1), .int .i64 (Y 2), .int .i64 (Y 3)] 27) :: ((g1, .cells (smC X) 107) :: []))))) ∧ mz = 4 - k ∧ k ≤ 4 ∧ Hid (acc X Y (i * 4 + k) = T2)) ((fun (k : Nat) (T2 : Nat → Int) => 4 - k) (0) (T)) ?_ Kx ?_
  · exact ⟨0, T, rfl, rfl, rfl, by omega, hac⟩
  rintro mz f2 s ⟨k, T2, hs2_16, rfl, hn, he1, he2⟩
  simp only [Act.putF, List.foldl_cons, List.foldl_nil, hs2_16, Act.put, Act.eval, q1, q2, q3, q4, q5, q6, q7, q8, q9, q10, q11, q12, q13, q14, q15, q16, q17, q18, Nat.reduceAdd, Bool.not_true, Bool.not_false]
  clear hs2_16
  have hac2 := he2
  clear he2
  refine wk_seq ?_
  refine wk_region [0] rfl Kx ?_
  simp only [qy]
  refine rfb_lss rfl rfl rfl rfl ?_
  intro x h2
  cases x
  · (try simp only [qd, ne_eq] at h2)
    simp only [qz]
    refine rg_nil (ek_next (wk_seq (wk_cond_f rfl (wk_exit (ek_then_exit (ek_then_exit (ek_block_exit (ek_block (ek_next ?_)))))))))
    refine wk_region [0, 0] rfl Kx ?_
    simp only [qy]
    refine rf_add rfl rfl rfl rfl (wrap_ok Ox Ox) ?_
    simp only [qz]
    refine rg_move ?_
    simp only [qz]
    refine rg_nil ?_
    obtain rfl : k = 4 := by omega
    have hac' : acc X Y ((i + 1) * 4) = T2 := by rw [← hac2.out]; congr 1; omega
    refine ek_sub (sk _ (sc _ (sc _ (sc _ (sc _ sn))))) ?_
    refine ek_roundF (4 - (i + 1)) Ox Kx ?_
    exact ⟨i + 1, T2, rfl, by rfl, by rfl, Ox, (Lib.hid hac')⟩
  (try simp only [qd, ne_eq] at h2)
  simp only [qz]
  have hyk := hY k Ox
  refine rg_nil (ek_next (wk_seq (wk_cond_t rfl (wk_skip (ek_next (wk_seq (wk_block (wk_seq ?_))))))))
  refine wk_region [0, 0, 0, 0] rfl Kx ?_
  simp only [qy]
  refine rg_move ?_
  simp only [qz]
  refine rf_idx1 (n := k) rfl rfl rfl rfl Try.underlying27 Try.underlying3 rfl Kx Ox (ar_idx Ox) ?_
  simp only [qz]
  refine rg_assign ?_
  simp only [qz]
  refine rg_assign ?_
  simp only [qz]
  refine rg_nil (ek_next (wk_seq (wk_seq ?_)))
  refine wk_region [0, 0, 0, 0] rfl Kx ?_
  simp only [qy]
  refine rg_move ?_
  simp only [qz]
  refine rg_move ?_
  simp only [qz]
  refine rf_add rfl rfl rfl rfl (wrap_ok Ox Ox) ?_
  simp only [qz]
  refine rfb_geq rfl rfl rfl rfl ?_
  intro x h3
  cases x
  · (try simp only [qd, ne_eq] at h3)
    simp only [qz]
    refine rg_nil (ek_next (wk_cond_f rfl (wk_skip (ek_next ?_))))
    refine wk_draws_m (hz1 := (sc _ (sk _ (sc _ (sc _ (sc _ sn)))))) [(0, 0), (1, 0), (2, 0), (3, 0), (4, 0), (5, 0), (6, 0), (7, 0), (8, 0), (9, 0), (10, 0), (11, 0), (12, 1), (13, 1), (14, 0), (15, 2)] 15 Kx Kx (fun c d v a w h => by cases d <;> exact h) ?_
    simp only [List.map_cons, List.map_nil, List.getD_cons_zero, List.getD_cons_succ]
    refine rg_move ?_
    simp only [qz]
    refine rg_move ?_
    simp only [qz]
    refine rf_add rfl rfl rfl rfl (wrap_ok Ox Ox) ?_
    simp only [qz]
    refine rf_rem (r := (((i + k) % 4 : Nat) : Int)) rfl rfl rfl rfl (by decide) ((rem_ok Ox).trans Ox) ?_
    simp only [qz]
    refine rg_move ?_
    simp only [qz]
    refine rg_move ?_
    simp only [qz]
    refine rf_add rfl rfl rfl rfl (wrap_ok Ox Ox) ?_
    simp only [qz]
    refine rf_rem (r := (((i + k) % 4 : Nat) : Int)) rfl rfl rfl rfl (by decide) ((rem_ok Ox).trans Ox) ?_
    simp only [qz]
    refine rf_indexA (n := (i + k) % 4) (sz := 6) (j := 0 + ((i + k) % 4) * 6) rfl rfl rfl rfl Try.underlying107 Kx Ox rfl ?_
    simp only [qz]
    refine rf_loadC (n := 6) (vs := w6L (W6.of (T2 ((i + k) % 4)))) rfl rfl rfl Try.underlying105 rfl Kx rfl (fun w hw => sm_row (Kn.hd0 (Kn.tl hw)) Ox) ?_
    simp only [qz]
    refine rf_loadR (n := 6) rfl rfl rfl Try.underlying105 rfl Kx (fun w hw => Kn.hd0 hw) rfl rfl ?_
    simp only [qz]
    refine rg_move ?_
    simp only [qz]
    apply rg_pure Rx Kx
    case hargs => exact Ax
    case h => exact fun w hw => w6times_any (X i) (Y k) Ox Ox w
    case hz => exact (fun _ h => by cases h; exact (sc _ (sc _ (sc _ (sc _ (sc _ sn))))))
    simp only [qz]
    apply rg_pure Rx Kx
    case hargs => exact Ax
    case h => exact fun w hw => w6add_any (T2 ((i + k) % 4)) (X i * Y k) w
    case hz => exact (fun _ h => by cases h; exact (sc _ (sc _ (sc _ (sc _ (sc _ sn))))))
    simp only [qz]
    refine rf_indexA (n := (i + k) % 4) (sz := 6) (j := 0 + ((i + k) % 4) * 6) rfl rfl rfl rfl Try.underlying107 Kx Ox rfl ?_
    simp only [qz]
    refine rf_storeRM (n := 6) (vs := w6L (W6.of (T2 ((i + k) % 4) + X i * Y k))) rfl rfl Kx rfl rfl (UpdR.there _ (UpdR.here _ _ _ (show 0 + ((i + k) % 4) * 6 + 6 ≤ 24 by omega))) (sc _ (sk _ (sc _ (sc _ (sc _ sn))))) ?_
    simp only [qz, Nat.reduceAdd]
    refine rg_nil (ek_block (ek_next ?_))
    refine wk_region [0, 0] rfl Kx ?_
    simp only [qy]
    refine rf_add rfl rfl rfl rfl (wrap_ok Ox Ox) ?_
    simp only [qz]
    refine rg_move ?_
    simp only [qz]
    refine rg_nil ?_
    refine ek_roundF (4 - (k + 1)) Ox Kx ?_
    exact ⟨k + 1, upd T2 ((i + k) % 4) (T2 ((i + k) % 4) + X i * Y k), rfl, (by rw [sm_set' Ox]), by rfl, Ox, (Lib.hid (by rw [acc_step Ox hac2.out, if_neg Ox]))⟩
  (try simp only [qd, ne_eq] at h3)
  simp only [qz]
  refine rg_nil (ek_next (wk_cond_t rfl ?_))
  refine wk_region [0, 0, 0] rfl Kx ?_
  simp only [qy]
  refine rg_move ?_
  simp only [qz]
  refine rf_neg rfl rfl rfl (wrap_ok Ox Ox) ?_
  simp only [qz]
  refine rg_assign ?_
  simp only [qz]
  refine rg_nil (ek_next ?_)
  refine wk_draws_m (hz1 := (sc _ (sk _ (sc _ (sc _ (sc _ sn)))))) [(0, 0), (1, 0), (2, 0), (3, 0), (4, 0), (5, 0), (6, 0), (7, 0), (8, 0), (9, 0), (10, 0), (11, 0), (12, 1), (13, 1), (14, 0), (15, 2)] 15 Kx Kx (fun c d v a w h => by cases d <;> exact h) ?_
  simp only [List.map_cons, List.map_nil, List.getD_cons_zero, List.getD_cons_succ]
  refine rg_move ?_
  simp only [qz]
  refine rg_move ?_
  simp only [qz]
  refine rf_add rfl rfl rfl rfl (wrap_ok Ox Ox) ?_
  simp only [qz]
  refine rf_rem (r := (((i + k) % 4 : Nat) : Int)) rfl rfl rfl rfl (by decide) ((rem_ok Ox).trans Ox) ?_
  simp only [qz]
  refine rg_move ?_
  simp only [qz]
  refine rg_move ?_
  simp only [qz]
  refine rf_add rfl rfl rfl rfl (wrap_ok Ox Ox) ?_
  simp only [qz]
  refine rf_rem (r := (((i + k) % 4 : Nat) : Int)) rfl rfl rfl rfl (by decide) ((rem_ok Ox).trans Ox) ?_
  simp only [qz]
  refine rf_indexA (n := (i + k) % 4) (sz := 6) (j := 0 + ((i + k) % 4) * 6) rfl rfl rfl rfl Try.underlying107 Kx Ox rfl ?_
  simp only [qz]
  refine rf_loadC (n := 6) (vs := w6L (W6.of (T2 ((i + k) % 4)))) rfl rfl rfl Try.underlying105 rfl Kx rfl (fun w hw => sm_row (Kn.hd0 (Kn.tl hw)) Ox) ?_
  simp only [qz]
  refine rf_loadR (n := 6) rfl rfl rfl Try.underlying105 rfl Kx (fun w hw => Kn.hd0 hw) rfl rfl ?_
  simp only [qz]
  refine rg_move ?_
  simp only [qz]
  apply rg_pure Rx Kx
  case hargs => exact Ax
  case h => exact fun w hw => by have := w6times_any (X i) (-(Y k)) Ox Ox w; rw [Int.mul_neg] at this; exact this
  case hz => exact (fun _ h => by cases h; exact (sc _ (sc _ (sc _ (sc _ (sc _ sn))))))
  simp only [qz]
  apply rg_pure Rx Kx
  case hargs => exact Ax
  case h => exact fun w hw => w6add_any (T2 ((i + k) % 4)) (-(X i * Y k)) w
  case hz => exact (fun _ h => by cases h; exact (sc _ (sc _ (sc _ (sc _ (sc _ sn))))))
  simp only [qz]
  refine rf_indexA (n := (i + k) % 4) (sz := 6) (j := 0 + ((i + k) % 4) * 6) rfl rfl rfl rfl Try.underlying107 Kx Ox rfl ?_
  simp only [qz]
  refine rf_storeRM (n := 6) (vs := w6L (W6.of (T2 ((i + k) % 4) + -(X i * Y k)))) rfl rfl Kx rfl rfl (UpdR.there _ (UpdR.here _ _ _ (show 0 + ((i + k) % 4) * 6 + 6 ≤ 24 by omega))) (sc _ (sk _ (sc _ (sc _ (sc _ sn))))) ?_
  simp only [qz, Nat.reduceAdd]
  refine rg_nil (ek_block (ek_next ?_))
  refine wk_region [0, 0] rfl Kx ?_
  simp only [qy]
  refine rf_add rfl rfl rfl rfl (wrap_ok Ox Ox) ?_
  simp only [qz]
  refine rg_move ?_
  simp only [qz]
  refine rg_nil ?_
  refine ek_roundF (4 - (k + 1)) Ox Kx ?_
  exact ⟨k + 1, upd T2 ((i + k) % 4) (T2 ((i + k) % 4) + -(X i * Y k)), rfl, (by rw [sm_set' Ox]), by rfl, Ox, (Lib.hid (by rw [acc_step Ox hac2.out, if_pos Ox]))⟩

theorem sm_one : (#[.int .u64 (W6.of 1).w0, .int .u64 (W6.of 1).w1, .int .u64 (W6.of 1).w2, .int .u64 (W6.of 1).w3, .int .u64 (W6.of 1).w4, .int .u64 (W6.of 1).w5, .int .u64 0, .int .u64 0, .int .u64 0, .int .u64 0, .int .u64 0, .int .u64 0, .int .u64 0, .int .u64 0, .int .u64 0, .int .u64 0, .int .u64 0, .int .u64 0, .int .u64 0, .int .u64 0, .int .u64 0, .int .u64 0, .int .u64 0, .int .u64 0] : Array Value) = smC (sel4 1 0 0 0) := by
  unfold smC
  simp only [sel4]
  rw [w6_zero]
  rfl
set_option maxRecDepth 100000 in
set_option maxHeartbeats 1000000 in
theorem smone_any  (w : World) : Calls Try.prog 84 #[] w fun e w' => e = .returned (.agg (smC (sel4 1 0 0 0))) ∧ Below w.heap.size w w' := by
  go_enter Try.func84, Try.ntmps84
  refine wk_start ?_
  refine wk_seq ?_
  refine wk_region [1] rfl Kx ?_
  simp only [qy]
  refine Rgn fun g1 => ?_
  simp only [qz]
  refine rg_nil (ek_next (wk_seq ?_))
  refine wk_region [1, 0, 1] rfl Kx ?_
  simp only [qy]
  apply rg_pure Rx Kx
  case hargs => exact Ax
  case h => exact fun w hw => w6whole_any 1 (by decide) (by decide) w
  case hz => exact Nz
  simp only [qz]
  refine rf_build (cs := fun a => #[cellAt (a.eval (.tmp 1)) 0, cellAt (a.eval (.tmp 1)) 1, cellAt (a.eval (.tmp 1)) 2, cellAt (a.eval (.tmp 1)) 3, cellAt (a.eval (.tmp 1)) 4, cellAt (a.eval (.tmp 1)) 5, .int .u64 0, .int .u64 0, .int .u64 0, .int .u64 0, .int .u64 0, .int .u64 0, .int .u64 0, .int .u64 0, .int .u64 0, .int .u64 0, .int .u64 0, .int .u64 0, .int .u64 0, .int .u64 0, .int .u64 0, .int .u64 0, .int .u64 0, .int .u64 0]) rfl rfl Kx ?_
  simp only [qz]
  refine rf_storeR (n := 24) rfl rfl Kx rfl rfl (UpdR.here _ _ _ Nl) Nz ?_
  simp only [qz, Nat.reduceAdd]
  refine rg_nil (ek_next (wk_ret ?_))
  refine ek_ret (fun w hw => ⟨rfl, _, run_results1 rfl rfl (Kn.hd0 hw) Try.underlying107 rfl Kx, ?_⟩)
  (try simp only [qz])
  exact ⟨by rw [sm_one], hw.below⟩

end Go.Proofs.Ytjeijnjaleldkaa
namespace Go.Proofs.Ytjeijnjaleldkaa
set_option linter.all false
open Go.RowKit

set_option maxRecDepth 100000 in
set_option maxHeartbeats 1000000 in
theorem w6_eqIn (x y : W6) (w : World) : (Op.equalIn 9999 105 (w6V x) (w6V y)).run Try.prog w = .ok (decide (x = y)) w := by
  have u3 := Try.underlying103
  have a3 := Try.isAgg103
  have z3 := Try.sizeOf103
  obtain ⟨x0, x1, x2, x3, x4, x5⟩ := x
  obtain ⟨y0, y1, y2, y3, y4, y5⟩ := y
  rw [show (9999 : Nat) = 9998 + 1 from rfl, Op.equalIn]
  simp only [Sem.run_bind, run_underlying Try.underlying105, Result.andThen_ok]
  simp only [Std.Legacy.Range.forIn_eq_forIn_range', Std.Legacy.Range.size, Nat.sub_zero, Nat.add_sub_cancel, Nat.div_one, List.range'_succ, List.range'_zero, List.forIn_cons, List.forIn_nil]
  go_simp
  by_cases h0 : x0 = y0
  · by_cases h1 : x1 = y1
    · by_cases h2 : x2 = y2
      · by_cases h3 : x3 = y3
        · by_cases h4 : x4 = y4
          · by_cases h5 : x5 = y5 <;> simp [h0, h1, h2, h3, h4, h5]
          simp [h0, h1, h2, h3, h4]
        simp [h0, h1, h2, h3]
      simp [h0, h1, h2]
    simp [h0, h1]
  simp [h0]
def smEq (X Y : Nat → Int) : Bool := decide (W6.of (X 0) = W6.of (Y 0)) && (decide (W6.of (X 1) = W6.of (Y 1)) && (decide (W6.of (X 2) = W6.of (Y 2)) && decide (W6.of (X 3) = W6.of (Y 3))))
theorem part_sm {X : Nat → Int} {m : Nat} (hm : m < 4) (w : World) : (part 105 (smC X) (m * 6)).run Try.prog w = .ok (w6V (W6.of (X m))) w := by
  unfold part
  have ha := run_isAgg (P := Try.prog) Try.underlying105 w
  have hz := Try.sizeOf105 w
  simp only [isRow] at ha
  rw [Sem.run_bind, ha, Result.andThen_ok]
  simp only [if_true, Sem.run_bind, hz, Result.andThen_ok, Sem.run_pure]
  rw [sm_idx hm]
set_option maxRecDepth 100000 in
set_option maxHeartbeats 1000000 in
theorem sm_eqIn (X Y : Nat → Int) (w : World) : (Op.equalIn 10000 107 (.agg (smC X)) (.agg (smC Y))).run Try.prog w = .ok (smEq X Y) w := by
  have z4 := Try.sizeOf105
  have p0 := part_sm (X := X) (m := 0) (by decide)
  have p1 := part_sm (X := X) (m := 1) (by decide)
  have p2 := part_sm (X := X) (m := 2) (by decide)
  have p3 := part_sm (X := X) (m := 3) (by decide)
  have r0 := part_sm (X := Y) (m := 0) (by decide)
  have r1 := part_sm (X := Y) (m := 1) (by decide)
  have r2 := part_sm (X := Y) (m := 2) (by decide)
  have r3 := part_sm (X := Y) (m := 3) (by decide)
  have e0 := w6_eqIn (W6.of (X 0)) (W6.of (Y 0))
  have e1 := w6_eqIn (W6.of (X 1)) (W6.of (Y 1))
  have e2 := w6_eqIn (W6.of (X 2)) (W6.of (Y 2))
  have e3 := w6_eqIn (W6.of (X 3)) (W6.of (Y 3))
  unfold smEq
  generalize decide (W6.of (X 0) = W6.of (Y 0)) = b0 at *
  generalize decide (W6.of (X 1) = W6.of (Y 1)) = b1 at *
  generalize decide (W6.of (X 2) = W6.of (Y 2)) = b2 at *
  generalize decide (W6.of (X 3) = W6.of (Y 3)) = b3 at *
  rw [show (10000 : Nat) = 9999 + 1 from rfl, Op.equalIn]
  simp only [Sem.run_bind, run_underlying Try.underlying107, Result.andThen_ok, z4]
  simp only [Std.Legacy.Range.forIn_eq_forIn_range', Std.Legacy.Range.size, Nat.sub_zero, Nat.add_sub_cancel, Nat.div_one, List.range'_succ, List.range'_zero, List.forIn_cons, List.forIn_nil, Nat.zero_add, Nat.reduceAdd]
  simp only [Sem.run_bind, Result.andThen_ok, p0, p1, p2, p3, r0, r1, r2, r3, e0, e1, e2, e3]
  cases b0 <;> cases b1 <;> cases b2 <;> cases b3 <;> simp [Sem.run_bind, Sem.run_pure, Result.andThen_ok, p0, p1, p2, p3, r0, r1, r2, r3, e0, e1, e2, e3]
set_option maxRecDepth 100000 in
theorem sm_guard (op : BinOp) (u v : Operand) (X Y : Nat → Int) (w : World) : (eqGuard op 107 u v (.agg (smC X)) (.agg (smC Y))).run Try.prog w = .ok () w := by
  have h : (Try.prog.eqGuardType Try.prog.depth 107) = false := by kernel_rfl
  unfold eqGuard
  cases op <;> simp [h]
theorem smEq_iff {X Y : Nat → Int} (hX : ∀ m, m < 4 → In384 (X m)) (hY : ∀ m, m < 4 → In384 (Y m)) : smEq X Y = true ↔ ∀ m, m < 4 → X m = Y m := by
  unfold smEq
  simp only [Bool.and_eq_true, decide_eq_true_eq]
  constructor
  · rintro ⟨h0, h1, h2, h3⟩ m hm
    rcases lt4 hm with rfl | rfl | rfl | rfl
    · exact W6.of_inj (hX 0 hm) (hY 0 hm) h0
    · exact W6.of_inj (hX 1 hm) (hY 1 hm) h1
    · exact W6.of_inj (hX 2 hm) (hY 2 hm) h2
    exact W6.of_inj (hX 3 hm) (hY 3 hm) h3
  intro h
  rw [h 0 (by decide), h 1 (by decide), h 2 (by decide), h 3 (by decide)]
  exact ⟨rfl, rfl, rfl, rfl⟩
section
variable {R : Option Nat} {ops : Array Oper} {Q : Exit → Act → World → Prop} {B : World} {F : List Nat} {s0 : Option (List Blk × List Blk)}
variable {l : List (Oper × Nat)} {a : Act} {s : List Blk} {d : Option Tmp} {t : TypeId} {p : String} {af : Array Edge} {gd : Option (Nat × Bool)} {m : Nat}
theorem rfb_neS {x y : Operand} {z : TypeId} (X Y : Nat → Int) (hm : soft03 m = true) (hg : Region.wanted ⟨d, .binOp .neq 107 x y z, t, p, af, gd⟩ (yielded ops a.tmps) = true)
    (hx : a.eval x = .agg (smC X)) (hy : a.eval y = .agg (smC Y)) (h : ∀ b, (!smEq X Y) = b → Rg R Try.prog ops Q B F s0 l (a.put d (.bool b)) s) : Rg R Try.prog ops Q B F s0 ((⟨d, .binOp .neq 107 x y z, t, p, af, gd⟩, m) :: l) a s := by
  refine rg_any hm hg (fun w => ?_) (h _ rfl)
  unfold Yld
  have hb : (binOp .neq 107 (.agg (smC X)) (.agg (smC Y))).run Try.prog w = .ok (.bool (!smEq X Y)) w := by rw [run_neq_struct, sm_eqIn]; rfl
  have hgd := sm_guard .neq x y X Y w
  show ((eqGuard .neq _ x y (a.eval x) (a.eval y) >>= fun _ => binOp .neq _ (a.eval x) (a.eval y)) >>= fun r => pure (Next.value r)).run Try.prog w = _
  rw [hx, hy, Sem.run_bind, Sem.run_bind, hgd, Result.andThen_ok, hb]
  rfl
end
end Go.Proofs.Ytjeijnjaleldkaa
