/- Texts in one: Ws1, Sm, Ws2, Ws3, Pe1. -/
import Derived.Test.YtjeijnjaleldkaaLAlikeF
namespace Go.Proofs.Ytjeijnjaleldkaa
set_option linter.all false
set_option maxRecDepth 100000
set_option maxHeartbeats 1000000
open Go.RowKit
abbrev w6V (x : W6) : Value := .agg #[.int .u64 x.w0, .int .u64 x.w1, .int .u64 x.w2, .int .u64 x.w3, .int .u64 x.w4, .int .u64 x.w5]
theorem same_pure {P : Program} {f : Nat} {args : Array Value} {w : World} {v : Value} (h : Calls P f args w (fun e w' => e = .returned v ∧ w = w')) : Calls P f args w (fun e w' => e = .returned v ∧ Below w.heap.size w w') :=
  h.mono (by rintro e w' ⟨rfl, rfl⟩; exact ⟨rfl, Below.refl _ _⟩)
theorem w6add_any (m n : Int) (w : World) : Calls Try.prog 124 #[w6V (W6.of m), w6V (W6.of n)] w fun e w' => e = .returned (w6V (W6.of (m + n))) ∧ Below w.heap.size w w' := by
 obtain ⟨⟨x0, x1, x2, x3, x4, x5⟩, hx⟩ : ∃ r, W6.of m = r := ⟨_, rfl⟩
 have wx := W6.of_wf m
 rw [hx] at wx
 obtain ⟨xa0, xb0, xa1, xb1, xa2, xb2, xa3, xb3, xa4, xb4, xa5, xb5⟩ := wx
 dsimp only at xa0 xb0 xa1 xb1 xa2 xb2 xa3 xb3 xa4 xb4 xa5 xb5
 obtain ⟨⟨y0, y1, y2, y3, y4, y5⟩, hy⟩ : ∃ r, W6.of n = r := ⟨_, rfl⟩
 have wy := W6.of_wf n
 rw [hy] at wy
 obtain ⟨ya0, yb0, ya1, yb1, ya2, yb2, ya3, yb3, ya4, yb4, ya5, yb5⟩ := wy
 dsimp only at ya0 yb0 ya1 yb1 ya2 yb2 ya3 yb3 ya4 yb4 ya5 yb5
 obtain ⟨s0, hs0⟩ : ∃ s, (x0 + y0 + 0) % 18446744073709551616 = s := ⟨_, rfl⟩
 obtain ⟨c0, hc0⟩ : ∃ s, (x0 + y0 + 0) / 18446744073709551616 = s := ⟨_, rfl⟩
 have hcc0 : 0 ≤ c0 ∧ c0 ≤ 1 := by omega
 have hss0 : 0 ≤ s0 ∧ s0 < 18446744073709551616 := by omega
 obtain ⟨s1, hs1⟩ : ∃ s, (x1 + y1 + c0) % 18446744073709551616 = s := ⟨_, rfl⟩
 obtain ⟨c1, hc1⟩ : ∃ s, (x1 + y1 + c0) / 18446744073709551616 = s := ⟨_, rfl⟩
 have hcc1 : 0 ≤ c1 ∧ c1 ≤ 1 := by omega
 have hss1 : 0 ≤ s1 ∧ s1 < 18446744073709551616 := by omega
 obtain ⟨s2, hs2⟩ : ∃ s, (x2 + y2 + c1) % 18446744073709551616 = s := ⟨_, rfl⟩
 obtain ⟨c2, hc2⟩ : ∃ s, (x2 + y2 + c1) / 18446744073709551616 = s := ⟨_, rfl⟩
 have hcc2 : 0 ≤ c2 ∧ c2 ≤ 1 := by omega
 have hss2 : 0 ≤ s2 ∧ s2 < 18446744073709551616 := by omega
 obtain ⟨s3, hs3⟩ : ∃ s, (x3 + y3 + c2) % 18446744073709551616 = s := ⟨_, rfl⟩
 obtain ⟨c3, hc3⟩ : ∃ s, (x3 + y3 + c2) / 18446744073709551616 = s := ⟨_, rfl⟩
 have hcc3 : 0 ≤ c3 ∧ c3 ≤ 1 := by omega
 have hss3 : 0 ≤ s3 ∧ s3 < 18446744073709551616 := by omega
 obtain ⟨s4, hs4⟩ : ∃ s, (x4 + y4 + c3) % 18446744073709551616 = s := ⟨_, rfl⟩
 obtain ⟨c4, hc4⟩ : ∃ s, (x4 + y4 + c3) / 18446744073709551616 = s := ⟨_, rfl⟩
 have hcc4 : 0 ≤ c4 ∧ c4 ≤ 1 := by omega
 have hss4 : 0 ≤ s4 ∧ s4 < 18446744073709551616 := by omega
 obtain ⟨s5, hs5⟩ : ∃ s, (x5 + y5 + c4) % 18446744073709551616 = s := ⟨_, rfl⟩
 obtain ⟨c5, hc5⟩ : ∃ s, (x5 + y5 + c4) / 18446744073709551616 = s := ⟨_, rfl⟩
 have hcc5 : 0 ≤ c5 ∧ c5 ≤ 1 := by omega
 have hss5 : 0 ≤ s5 ∧ s5 < 18446744073709551616 := by omega
 have heq : (⟨s0, s1, s2, s3, s4, s5⟩ : W6) = W6.of (m + n) := W6.add_eq (c0 := c0) (c1 := c1) (c2 := c2) (c3 := c3) (c4 := c4) (c5 := c5) ⟨by dsimp only; omega, by dsimp only; omega, by dsimp only; omega, by dsimp only; omega, by dsimp only; omega, by dsimp only; omega, by dsimp only; omega, by dsimp only; omega, by dsimp only; omega, by dsimp only; omega, by dsimp only; omega, by dsimp only; omega⟩ (by rw [hx, hy]; dsimp only; omega) (by rw [hx, hy]; dsimp only; omega) (by rw [hx, hy]; dsimp only; omega) (by rw [hx, hy]; dsimp only; omega) (by rw [hx, hy]; dsimp only; omega) (by rw [hx, hy]; dsimp only; omega)
 rw [hx, hy]
 replace heq := Lib.hid heq
 clear hx hy
 go_enter Try.func124, Try.ntmps124
 refine wk_start ?_
 refine wk_seq ?_
 refine wk_region [1, 1, 1] rfl Kx ?_
 simp only [qy]
 refine Rgn fun g1 => ?_
 simp only [qz]
 refine Rgn fun g2 => ?_
 simp only [qz]
 refine Rgn fun g3 => ?_
 simp only [qz]
 refine rg_nil (ek_next (wk_seq ?_))
 refine wk_region [0] rfl Kx ?_
 simp only [qy]
 refine rg_assign ?_
 simp only [qz]
 refine rg_nil (ek_next (wk_seq (wk_seq ?_)))
 refine wk_region [0] rfl Kx ?_
 simp only [qy]
 refine rg_move ?_
 simp only [qz]
 refine rg_nil (ek_next (wk_block ?_))
 refine wk_unroll 6 ?_
 refine wk_seq ?_
 refine wk_region [0] rfl Kx ?_
 simp only [qy]
 refine rf_lss (b := true) rfl rfl rfl rfl (by decide) ?_
 simp only [qz]
 refine rg_nil (ek_next (wk_seq (wk_cond_t rfl (wk_skip (ek_next (wk_seq (wk_block (wk_seq ?_))))))))
 refine wk_region [0, 0] rfl Kx ?_
 simp only [qy]
 refine rg_move ?_
 simp only [qz]
 refine rg_assign ?_
 simp only [qz]
 refine rg_nil (ek_next ?_)
 refine wk_draws_m (hz1 := (sc _ (sc _ (sk _ sn)))) [(0, 0), (1, 0), (2, 0), (3, 0), (4, 0), (5, 0), (6, 0), (7, 0), (8, 1), (9, 0), (10, 0), (11, 3), (12, 0), (13, 2), (14, 0)] 13 Kx Kx (fun c d v a w h => by cases d <;> exact h) ?_
 simp only [List.map_cons, List.map_nil, List.getD_cons_zero, List.getD_cons_succ]
 refine rg_move ?_
 simp only [qz]
 refine rg_move ?_
 simp only [qz]
 refine rf_indexA (n := 0) (sz := 1) (j := 0) rfl rfl rfl rfl Try.underlying105 Kx (by decide) rfl ?_
 simp only [qz]
 refine rf_load rfl rfl rfl Try.underlying103 rfl (fun w hw => (Kn.hd0 (Kn.tl (Kn.tl hw))).at rfl) ?_
 simp only [qz]
 refine rg_move ?_
 simp only [qz]
 refine rf_indexA (n := 0) (sz := 1) (j := 0) rfl rfl rfl rfl Try.underlying105 Kx (by decide) rfl ?_
 simp only [qz]
 refine rf_load rfl rfl rfl Try.underlying103 rfl (fun w hw => (Kn.hd0 (Kn.tl hw)).at rfl) ?_
 simp only [qz]
 refine rg_move ?_
 simp only [qz]
 apply rg_ext Rx
 case hargs => exact Ax
 case h => exact fun w => run_Add64 x0 y0 0 s0 c0 Ox Ox Ox Ox hs0 hc0 w
 case hz => exact (fun _ h => by cases h; exact (sc _ (sc _ (sc _ sn))))
 simp only [qz]
 refine rg_move ?_
 simp only [qz]
 refine rf_extract rfl rfl rfl rfl ?_
 simp only [qz]
 refine rf_extract rfl rfl rfl rfl ?_
 simp only [qz]
 refine rf_indexA (n := 0) (sz := 1) (j := 0) rfl rfl rfl rfl Try.underlying105 Kx (by decide) rfl ?_
 simp only [qz]
 refine rf_storeM rfl rfl Kx rfl rfl (UpdR.there _ (UpdR.there _ (UpdR.here _ _ _ Nl))) (sc _ (sc _ (sk _ sn))) ?_
 simp only [qz]
 refine rg_assign ?_
 simp only [qz]
 refine rg_nil (ek_block (ek_next ?_))
 refine wk_region [0, 0] rfl Kx ?_
 simp only [qy]
 refine rf_add (r := 1) rfl rfl rfl rfl (by decide) ?_
 simp only [qz]
 refine rg_move ?_
 simp only [qz]
 refine rg_nil (ek_again (wk_seq ?_))
 refine wk_region [0] rfl Kx ?_
 simp only [qy]
 refine rf_lss (b := true) rfl rfl rfl rfl (by decide) ?_
 simp only [qz]
 refine rg_nil (ek_next (wk_seq (wk_cond_t rfl (wk_skip (ek_next (wk_seq (wk_block (wk_seq ?_))))))))
 refine wk_region [0, 0] rfl Kx ?_
 simp only [qy]
 refine rg_move ?_
 simp only [qz]
 refine rg_assign ?_
 simp only [qz]
 refine rg_nil (ek_next ?_)
 refine wk_draws_m (hz1 := (sc _ (sc _ (sk _ sn)))) [(0, 0), (1, 0), (2, 0), (3, 0), (4, 0), (5, 0), (6, 0), (7, 0), (8, 1), (9, 0), (10, 0), (11, 3), (12, 0), (13, 2), (14, 0)] 13 Kx Kx (fun c d v a w h => by cases d <;> exact h) ?_
 simp only [List.map_cons, List.map_nil, List.getD_cons_zero, List.getD_cons_succ]
 refine rg_move ?_
 simp only [qz]
 refine rg_move ?_
 simp only [qz]
 refine rf_indexA (n := 1) (sz := 1) (j := 1) rfl rfl rfl rfl Try.underlying105 Kx (by decide) rfl ?_
 simp only [qz]
 refine rf_load rfl rfl rfl Try.underlying103 rfl (fun w hw => (Kn.hd0 (Kn.tl (Kn.tl hw))).at rfl) ?_
 simp only [qz]
 refine rg_move ?_
 simp only [qz]
 refine rf_indexA (n := 1) (sz := 1) (j := 1) rfl rfl rfl rfl Try.underlying105 Kx (by decide) rfl ?_
 simp only [qz]
 refine rf_load rfl rfl rfl Try.underlying103 rfl (fun w hw => (Kn.hd0 (Kn.tl hw)).at rfl) ?_
 simp only [qz]
 refine rg_move ?_
 simp only [qz]
 apply rg_ext Rx
 case hargs => exact Ax
 case h => exact fun w => run_Add64 x1 y1 c0 s1 c1 Ox Ox Ox Ox hs1 hc1 w
 case hz => exact (fun _ h => by cases h; exact (sc _ (sc _ (sc _ sn))))
 simp only [qz]
 refine rg_move ?_
 simp only [qz]
 refine rf_extract rfl rfl rfl rfl ?_
 simp only [qz]
 refine rf_extract rfl rfl rfl rfl ?_
 simp only [qz]
 refine rf_indexA (n := 1) (sz := 1) (j := 1) rfl rfl rfl rfl Try.underlying105 Kx (by decide) rfl ?_
 simp only [qz]
 refine rf_storeM rfl rfl Kx rfl rfl (UpdR.there _ (UpdR.there _ (UpdR.here _ _ _ Nl))) (sc _ (sc _ (sk _ sn))) ?_
 simp only [qz]
 refine rg_assign ?_
 simp only [qz]
 refine rg_nil (ek_block (ek_next ?_))
 refine wk_region [0, 0] rfl Kx ?_
 simp only [qy]
 refine rf_add (r := 2) rfl rfl rfl rfl (by decide) ?_
 simp only [qz]
 refine rg_move ?_
 simp only [qz]
 refine rg_nil (ek_again (wk_seq ?_))
 refine wk_region [0] rfl Kx ?_
 simp only [qy]
 refine rf_lss (b := true) rfl rfl rfl rfl (by decide) ?_
 simp only [qz]
 refine rg_nil (ek_next (wk_seq (wk_cond_t rfl (wk_skip (ek_next (wk_seq (wk_block (wk_seq ?_))))))))
 refine wk_region [0, 0] rfl Kx ?_
 simp only [qy]
 refine rg_move ?_
 simp only [qz]
 refine rg_assign ?_
 simp only [qz]
 refine rg_nil (ek_next ?_)
 refine wk_draws_m (hz1 := (sc _ (sc _ (sk _ sn)))) [(0, 0), (1, 0), (2, 0), (3, 0), (4, 0), (5, 0), (6, 0), (7, 0), (8, 1), (9, 0), (10, 0), (11, 3), (12, 0), (13, 2), (14, 0)] 13 Kx Kx (fun c d v a w h => by cases d <;> exact h) ?_
 simp only [List.map_cons, List.map_nil, List.getD_cons_zero, List.getD_cons_succ]
 refine rg_move ?_
 simp only [qz]
 refine rg_move ?_
 simp only [qz]
 refine rf_indexA (n := 2) (sz := 1) (j := 2) rfl rfl rfl rfl Try.underlying105 Kx (by decide) rfl ?_
 simp only [qz]
 refine rf_load rfl rfl rfl Try.underlying103 rfl (fun w hw => (Kn.hd0 (Kn.tl (Kn.tl hw))).at rfl) ?_
 simp only [qz]
 refine rg_move ?_
 simp only [qz]
 refine rf_indexA (n := 2) (sz := 1) (j := 2) rfl rfl rfl rfl Try.underlying105 Kx (by decide) rfl ?_
 simp only [qz]
 refine rf_load rfl rfl rfl Try.underlying103 rfl (fun w hw => (Kn.hd0 (Kn.tl hw)).at rfl) ?_
 simp only [qz]
 refine rg_move ?_
 simp only [qz]
 apply rg_ext Rx
 case hargs => exact Ax
 case h => exact fun w => run_Add64 x2 y2 c1 s2 c2 Ox Ox Ox Ox hs2 hc2 w
 case hz => exact (fun _ h => by cases h; exact (sc _ (sc _ (sc _ sn))))
 simp only [qz]
 refine rg_move ?_
 simp only [qz]
 refine rf_extract rfl rfl rfl rfl ?_
 simp only [qz]
 refine rf_extract rfl rfl rfl rfl ?_
 simp only [qz]
 refine rf_indexA (n := 2) (sz := 1) (j := 2) rfl rfl rfl rfl Try.underlying105 Kx (by decide) rfl ?_
 simp only [qz]
 refine rf_storeM rfl rfl Kx rfl rfl (UpdR.there _ (UpdR.there _ (UpdR.here _ _ _ Nl))) (sc _ (sc _ (sk _ sn))) ?_
 simp only [qz]
 refine rg_assign ?_
 simp only [qz]
 refine rg_nil (ek_block (ek_next ?_))
 refine wk_region [0, 0] rfl Kx ?_
 simp only [qy]
 refine rf_add (r := 3) rfl rfl rfl rfl (by decide) ?_
 simp only [qz]
 refine rg_move ?_
 simp only [qz]
 refine rg_nil (ek_again (wk_seq ?_))
 refine wk_region [0] rfl Kx ?_
 simp only [qy]
 refine rf_lss (b := true) rfl rfl rfl rfl (by decide) ?_
 simp only [qz]
 refine rg_nil (ek_next (wk_seq (wk_cond_t rfl (wk_skip (ek_next (wk_seq (wk_block (wk_seq ?_))))))))
 refine wk_region [0, 0] rfl Kx ?_
 simp only [qy]
 refine rg_move ?_
 simp only [qz]
 refine rg_assign ?_
 simp only [qz]
 refine rg_nil (ek_next ?_)
 refine wk_draws_m (hz1 := (sc _ (sc _ (sk _ sn)))) [(0, 0), (1, 0), (2, 0), (3, 0), (4, 0), (5, 0), (6, 0), (7, 0), (8, 1), (9, 0), (10, 0), (11, 3), (12, 0), (13, 2), (14, 0)] 13 Kx Kx (fun c d v a w h => by cases d <;> exact h) ?_
 simp only [List.map_cons, List.map_nil, List.getD_cons_zero, List.getD_cons_succ]
 refine rg_move ?_
 simp only [qz]
 refine rg_move ?_
 simp only [qz]
 refine rf_indexA (n := 3) (sz := 1) (j := 3) rfl rfl rfl rfl Try.underlying105 Kx (by decide) rfl ?_
 simp only [qz]
 refine rf_load rfl rfl rfl Try.underlying103 rfl (fun w hw => (Kn.hd0 (Kn.tl (Kn.tl hw))).at rfl) ?_
 simp only [qz]
 refine rg_move ?_
 simp only [qz]
 refine rf_indexA (n := 3) (sz := 1) (j := 3) rfl rfl rfl rfl Try.underlying105 Kx (by decide) rfl ?_
 simp only [qz]
 refine rf_load rfl rfl rfl Try.underlying103 rfl (fun w hw => (Kn.hd0 (Kn.tl hw)).at rfl) ?_
 simp only [qz]
 refine rg_move ?_
 simp only [qz]
 apply rg_ext Rx
 case hargs => exact Ax
 case h => exact fun w => run_Add64 x3 y3 c2 s3 c3 Ox Ox Ox Ox hs3 hc3 w
 case hz => exact (fun _ h => by cases h; exact (sc _ (sc _ (sc _ sn))))
 simp only [qz]
 refine rg_move ?_
 simp only [qz]
 refine rf_extract rfl rfl rfl rfl ?_
 simp only [qz]
 refine rf_extract rfl rfl rfl rfl ?_
 simp only [qz]
 refine rf_indexA (n := 3) (sz := 1) (j := 3) rfl rfl rfl rfl Try.underlying105 Kx (by decide) rfl ?_
 simp only [qz]
 refine rf_storeM rfl rfl Kx rfl rfl (UpdR.there _ (UpdR.there _ (UpdR.here _ _ _ Nl))) (sc _ (sc _ (sk _ sn))) ?_
 simp only [qz]
 refine rg_assign ?_
 simp only [qz]
 refine rg_nil (ek_block (ek_next ?_))
 refine wk_region [0, 0] rfl Kx ?_
 simp only [qy]
 refine rf_add (r := 4) rfl rfl rfl rfl (by decide) ?_
 simp only [qz]
 refine rg_move ?_
 simp only [qz]
 refine rg_nil (ek_again (wk_seq ?_))
 refine wk_region [0] rfl Kx ?_
 simp only [qy]
 refine rf_lss (b := true) rfl rfl rfl rfl (by decide) ?_
 simp only [qz]
 refine rg_nil (ek_next (wk_seq (wk_cond_t rfl (wk_skip (ek_next (wk_seq (wk_block (wk_seq ?_))))))))
 refine wk_region [0, 0] rfl Kx ?_
 simp only [qy]
 refine rg_move ?_
 simp only [qz]
 refine rg_assign ?_
 simp only [qz]
 refine rg_nil (ek_next ?_)
 refine wk_draws_m (hz1 := (sc _ (sc _ (sk _ sn)))) [(0, 0), (1, 0), (2, 0), (3, 0), (4, 0), (5, 0), (6, 0), (7, 0), (8, 1), (9, 0), (10, 0), (11, 3), (12, 0), (13, 2), (14, 0)] 13 Kx Kx (fun c d v a w h => by cases d <;> exact h) ?_
 simp only [List.map_cons, List.map_nil, List.getD_cons_zero, List.getD_cons_succ]
 refine rg_move ?_
 simp only [qz]
 refine rg_move ?_
 simp only [qz]
 refine rf_indexA (n := 4) (sz := 1) (j := 4) rfl rfl rfl rfl Try.underlying105 Kx (by decide) rfl ?_
 simp only [qz]
 refine rf_load rfl rfl rfl Try.underlying103 rfl (fun w hw => (Kn.hd0 (Kn.tl (Kn.tl hw))).at rfl) ?_
 simp only [qz]
 refine rg_move ?_
 simp only [qz]
 refine rf_indexA (n := 4) (sz := 1) (j := 4) rfl rfl rfl rfl Try.underlying105 Kx (by decide) rfl ?_
 simp only [qz]
 refine rf_load rfl rfl rfl Try.underlying103 rfl (fun w hw => (Kn.hd0 (Kn.tl hw)).at rfl) ?_
 simp only [qz]
 refine rg_move ?_
 simp only [qz]
 apply rg_ext Rx
 case hargs => exact Ax
 case h => exact fun w => run_Add64 x4 y4 c3 s4 c4 Ox Ox Ox Ox hs4 hc4 w
 case hz => exact (fun _ h => by cases h; exact (sc _ (sc _ (sc _ sn))))
 simp only [qz]
 refine rg_move ?_
 simp only [qz]
 refine rf_extract rfl rfl rfl rfl ?_
 simp only [qz]
 refine rf_extract rfl rfl rfl rfl ?_
 simp only [qz]
 refine rf_indexA (n := 4) (sz := 1) (j := 4) rfl rfl rfl rfl Try.underlying105 Kx (by decide) rfl ?_
 simp only [qz]
 refine rf_storeM rfl rfl Kx rfl rfl (UpdR.there _ (UpdR.there _ (UpdR.here _ _ _ Nl))) (sc _ (sc _ (sk _ sn))) ?_
 simp only [qz]
 refine rg_assign ?_
 simp only [qz]
 refine rg_nil (ek_block (ek_next ?_))
 refine wk_region [0, 0] rfl Kx ?_
 simp only [qy]
 refine rf_add (r := 5) rfl rfl rfl rfl (by decide) ?_
 simp only [qz]
 refine rg_move ?_
 simp only [qz]
 refine rg_nil (ek_again (wk_seq ?_))
 refine wk_region [0] rfl Kx ?_
 simp only [qy]
 refine rf_lss (b := true) rfl rfl rfl rfl (by decide) ?_
 simp only [qz]
 refine rg_nil (ek_next (wk_seq (wk_cond_t rfl (wk_skip (ek_next (wk_seq (wk_block (wk_seq ?_))))))))
 refine wk_region [0, 0] rfl Kx ?_
 simp only [qy]
 refine rg_move ?_
 simp only [qz]
 refine rg_assign ?_
 simp only [qz]
 refine rg_nil (ek_next ?_)
 refine wk_draws_m (hz1 := (sc _ (sc _ (sk _ sn)))) [(0, 0), (1, 0), (2, 0), (3, 0), (4, 0), (5, 0), (6, 0), (7, 0), (8, 1), (9, 0), (10, 0), (11, 3), (12, 0), (13, 2), (14, 0)] 13 Kx Kx (fun c d v a w h => by cases d <;> exact h) ?_
 simp only [List.map_cons, List.map_nil, List.getD_cons_zero, List.getD_cons_succ]
 refine rg_move ?_
 simp only [qz]
 refine rg_move ?_
 simp only [qz]
 refine rf_indexA (n := 5) (sz := 1) (j := 5) rfl rfl rfl rfl Try.underlying105 Kx (by decide) rfl ?_
 simp only [qz]
 refine rf_load rfl rfl rfl Try.underlying103 rfl (fun w hw => (Kn.hd0 (Kn.tl (Kn.tl hw))).at rfl) ?_
 simp only [qz]
 refine rg_move ?_
 simp only [qz]
 refine rf_indexA (n := 5) (sz := 1) (j := 5) rfl rfl rfl rfl Try.underlying105 Kx (by decide) rfl ?_
 simp only [qz]
 refine rf_load rfl rfl rfl Try.underlying103 rfl (fun w hw => (Kn.hd0 (Kn.tl hw)).at rfl) ?_
 simp only [qz]
 refine rg_move ?_
 simp only [qz]
 apply rg_ext Rx
 case hargs => exact Ax
 case h => exact fun w => run_Add64 x5 y5 c4 s5 c5 Ox Ox Ox Ox hs5 hc5 w
 case hz => exact (fun _ h => by cases h; exact (sc _ (sc _ (sc _ sn))))
 simp only [qz]
 refine rg_move ?_
 simp only [qz]
 refine rf_extract rfl rfl rfl rfl ?_
 simp only [qz]
 refine rf_extract rfl rfl rfl rfl ?_
 simp only [qz]
 refine rf_indexA (n := 5) (sz := 1) (j := 5) rfl rfl rfl rfl Try.underlying105 Kx (by decide) rfl ?_
 simp only [qz]
 refine rf_storeM rfl rfl Kx rfl rfl (UpdR.there _ (UpdR.there _ (UpdR.here _ _ _ Nl))) (sc _ (sc _ (sk _ sn))) ?_
 simp only [qz]
 refine rg_assign ?_
 simp only [qz]
 refine rg_nil (ek_block (ek_next ?_))
 refine wk_region [0, 0] rfl Kx ?_
 simp only [qy]
 refine rf_add (r := 6) rfl rfl rfl rfl (by decide) ?_
 simp only [qz]
 refine rg_move ?_
 simp only [qz]
 refine rg_nil (ek_again (wk_seq ?_))
 refine wk_region [0] rfl Kx ?_
 simp only [qy]
 refine rf_lss (b := false) rfl rfl rfl rfl (by decide) ?_
 simp only [qz]
 refine rg_nil (ek_next (wk_seq (wk_cond_f rfl (wk_exit (ek_then_exit (ek_then_exit (ek_block_exit (ek_next (wk_seq ?_)))))))))
 refine wk_region [0, 1] rfl Kx ?_
 simp only [qy]
 refine rf_loadR (n := 6) rfl rfl rfl Try.underlying105 rfl Kx (fun w hw => Kn.hd0 (Kn.tl (Kn.tl hw))) rfl rfl ?_
 simp only [qz]
 refine rf_storeR (n := 6) rfl rfl Kx rfl rfl (UpdR.here _ _ _ Nl) Nz ?_
 simp only [qz, Nat.reduceAdd]
 refine rg_nil (ek_next (wk_ret ?_))
 refine ek_ret (fun w hw => ⟨rfl, _, run_results1 rfl rfl (Kn.hd0 hw) Try.underlying105 rfl Kx, ?_⟩)
 (try simp only [qz])
 exact ⟨by rw [← heq.out] <;> rfl, hw.below⟩
theorem w6neg_any (m : Int) (w : World) : Calls Try.prog 145 #[w6V (W6.of m)] w fun e w' => e = .returned (w6V (W6.of (-m))) ∧ Below w.heap.size w w' := by
 obtain ⟨⟨x0, x1, x2, x3, x4, x5⟩, hx⟩ : ∃ r, W6.of m = r := ⟨_, rfl⟩
 have wx := W6.of_wf m
 rw [hx] at wx
 obtain ⟨xa0, xb0, xa1, xb1, xa2, xb2, xa3, xb3, xa4, xb4, xa5, xb5⟩ := wx
 dsimp only at xa0 xb0 xa1 xb1 xa2 xb2 xa3 xb3 xa4 xb4 xa5 xb5
 obtain ⟨s0, hs0⟩ : ∃ s, (0 + 18446744073709551616 - x0 - 0) % 18446744073709551616 = s := ⟨_, rfl⟩
 obtain ⟨c0, hc0⟩ : ∃ s, (if 0 < x0 + 0 then (1 : Int) else 0) = s := ⟨_, rfl⟩
 have hcc0 : 0 ≤ c0 ∧ c0 ≤ 1 := by split at hc0 <;> omega
 have hss0 : 0 ≤ s0 ∧ s0 < 18446744073709551616 := by omega
 have hsc0 : s0 = 18446744073709551616 * c0 - x0 - 0 := by split at hc0 <;> omega
 obtain ⟨s1, hs1⟩ : ∃ s, (0 + 18446744073709551616 - x1 - c0) % 18446744073709551616 = s := ⟨_, rfl⟩
 obtain ⟨c1, hc1⟩ : ∃ s, (if 0 < x1 + c0 then (1 : Int) else 0) = s := ⟨_, rfl⟩
 have hcc1 : 0 ≤ c1 ∧ c1 ≤ 1 := by split at hc1 <;> omega
 have hss1 : 0 ≤ s1 ∧ s1 < 18446744073709551616 := by omega
 have hsc1 : s1 = 18446744073709551616 * c1 - x1 - c0 := by split at hc1 <;> omega
 obtain ⟨s2, hs2⟩ : ∃ s, (0 + 18446744073709551616 - x2 - c1) % 18446744073709551616 = s := ⟨_, rfl⟩
 obtain ⟨c2, hc2⟩ : ∃ s, (if 0 < x2 + c1 then (1 : Int) else 0) = s := ⟨_, rfl⟩
 have hcc2 : 0 ≤ c2 ∧ c2 ≤ 1 := by split at hc2 <;> omega
 have hss2 : 0 ≤ s2 ∧ s2 < 18446744073709551616 := by omega
 have hsc2 : s2 = 18446744073709551616 * c2 - x2 - c1 := by split at hc2 <;> omega
 obtain ⟨s3, hs3⟩ : ∃ s, (0 + 18446744073709551616 - x3 - c2) % 18446744073709551616 = s := ⟨_, rfl⟩
 obtain ⟨c3, hc3⟩ : ∃ s, (if 0 < x3 + c2 then (1 : Int) else 0) = s := ⟨_, rfl⟩
 have hcc3 : 0 ≤ c3 ∧ c3 ≤ 1 := by split at hc3 <;> omega
 have hss3 : 0 ≤ s3 ∧ s3 < 18446744073709551616 := by omega
 have hsc3 : s3 = 18446744073709551616 * c3 - x3 - c2 := by split at hc3 <;> omega
 obtain ⟨s4, hs4⟩ : ∃ s, (0 + 18446744073709551616 - x4 - c3) % 18446744073709551616 = s := ⟨_, rfl⟩
 obtain ⟨c4, hc4⟩ : ∃ s, (if 0 < x4 + c3 then (1 : Int) else 0) = s := ⟨_, rfl⟩
 have hcc4 : 0 ≤ c4 ∧ c4 ≤ 1 := by split at hc4 <;> omega
 have hss4 : 0 ≤ s4 ∧ s4 < 18446744073709551616 := by omega
 have hsc4 : s4 = 18446744073709551616 * c4 - x4 - c3 := by split at hc4 <;> omega
 obtain ⟨s5, hs5⟩ : ∃ s, (0 + 18446744073709551616 - x5 - c4) % 18446744073709551616 = s := ⟨_, rfl⟩
 obtain ⟨c5, hc5⟩ : ∃ s, (if 0 < x5 + c4 then (1 : Int) else 0) = s := ⟨_, rfl⟩
 have hcc5 : 0 ≤ c5 ∧ c5 ≤ 1 := by split at hc5 <;> omega
 have hss5 : 0 ≤ s5 ∧ s5 < 18446744073709551616 := by omega
 have hsc5 : s5 = 18446744073709551616 * c5 - x5 - c4 := by split at hc5 <;> omega
 have heq : (⟨s0, s1, s2, s3, s4, s5⟩ : W6) = W6.of (-m) := W6.neg_eq (c0 := c0) (c1 := c1) (c2 := c2) (c3 := c3) (c4 := c4) (c5 := c5) ⟨by dsimp only; omega, by dsimp only; omega, by dsimp only; omega, by dsimp only; omega, by dsimp only; omega, by dsimp only; omega, by dsimp only; omega, by dsimp only; omega, by dsimp only; omega, by dsimp only; omega, by dsimp only; omega, by dsimp only; omega⟩ (by rw [hx]; dsimp only; omega) (by rw [hx]; dsimp only; omega) (by rw [hx]; dsimp only; omega) (by rw [hx]; dsimp only; omega) (by rw [hx]; dsimp only; omega) (by rw [hx]; dsimp only; omega)
 rw [hx]
 replace heq := Lib.hid heq
 clear hx
 go_enter Try.func145, Try.ntmps145
 refine wk_start ?_
 refine wk_seq ?_
 refine wk_region [1, 1] rfl Kx ?_
 simp only [qy]
 refine Rgn fun g1 => ?_
 simp only [qz]
 refine Rgn fun g2 => ?_
 simp only [qz]
 refine rg_nil (ek_next (wk_seq ?_))
 refine wk_region [0] rfl Kx ?_
 simp only [qy]
 refine rg_assign ?_
 simp only [qz]
 refine rg_nil (ek_next (wk_seq (wk_seq ?_)))
 refine wk_region [0] rfl Kx ?_
 simp only [qy]
 refine rg_move ?_
 simp only [qz]
 refine rg_nil (ek_next (wk_block ?_))
 refine wk_unroll 6 ?_
 refine wk_seq ?_
 refine wk_region [0] rfl Kx ?_
 simp only [qy]
 refine rf_lss (b := true) rfl rfl rfl rfl (by decide) ?_
 simp only [qz]
 refine rg_nil (ek_next (wk_seq (wk_cond_t rfl (wk_skip (ek_next (wk_seq (wk_block (wk_seq ?_))))))))
 refine wk_region [0, 0] rfl Kx ?_
 simp only [qy]
 refine rg_move ?_
 simp only [qz]
 refine rg_assign ?_
 simp only [qz]
 refine rg_nil (ek_next ?_)
 refine wk_region [0, 0, 0, 0, 0, 1, 0, 0, 0, 0, 1, 0] rfl Kx ?_
 simp only [qy]
 refine rg_move ?_
 simp only [qz]
 refine rg_move ?_
 simp only [qz]
 refine rf_indexA (n := 0) (sz := 1) (j := 0) rfl rfl rfl rfl Try.underlying105 Kx (by decide) rfl ?_
 simp only [qz]
 refine rf_load rfl rfl rfl Try.underlying103 rfl (fun w hw => (Kn.hd0 (Kn.tl hw)).at rfl) ?_
 simp only [qz]
 refine rg_move ?_
 simp only [qz]
 apply rg_ext Rx
 case hargs => exact Ax
 case h => exact fun w => run_Sub64I 0 x0 0 s0 c0 Ox Ox Ox Ox Ox hs0 hc0 w
 case hz => exact Nz
 simp only [qz]
 refine rg_move ?_
 simp only [qz]
 refine rf_extract rfl rfl rfl rfl ?_
 simp only [qz]
 refine rf_extract rfl rfl rfl rfl ?_
 simp only [qz]
 refine rf_indexA (n := 0) (sz := 1) (j := 0) rfl rfl rfl rfl Try.underlying105 Kx (by decide) rfl ?_
 simp only [qz]
 refine rf_store rfl rfl Kx rfl rfl (UpdR.there _ (UpdR.here _ _ _ Nl)) Nz ?_
 simp only [qz]
 refine rg_assign ?_
 simp only [qz]
 refine rg_nil (ek_block (ek_next ?_))
 refine wk_region [0, 0] rfl Kx ?_
 simp only [qy]
 refine rf_add (r := 1) rfl rfl rfl rfl (by decide) ?_
 simp only [qz]
 refine rg_move ?_
 simp only [qz]
 refine rg_nil (ek_again (wk_seq ?_))
 refine wk_region [0] rfl Kx ?_
 simp only [qy]
 refine rf_lss (b := true) rfl rfl rfl rfl (by decide) ?_
 simp only [qz]
 refine rg_nil (ek_next (wk_seq (wk_cond_t rfl (wk_skip (ek_next (wk_seq (wk_block (wk_seq ?_))))))))
 refine wk_region [0, 0] rfl Kx ?_
 simp only [qy]
 refine rg_move ?_
 simp only [qz]
 refine rg_assign ?_
 simp only [qz]
 refine rg_nil (ek_next ?_)
 refine wk_region [0, 0, 0, 0, 0, 1, 0, 0, 0, 0, 1, 0] rfl Kx ?_
 simp only [qy]
 refine rg_move ?_
 simp only [qz]
 refine rg_move ?_
 simp only [qz]
 refine rf_indexA (n := 1) (sz := 1) (j := 1) rfl rfl rfl rfl Try.underlying105 Kx (by decide) rfl ?_
 simp only [qz]
 refine rf_load rfl rfl rfl Try.underlying103 rfl (fun w hw => (Kn.hd0 (Kn.tl hw)).at rfl) ?_
 simp only [qz]
 refine rg_move ?_
 simp only [qz]
 apply rg_ext Rx
 case hargs => exact Ax
 case h => exact fun w => run_Sub64I 0 x1 c0 s1 c1 Ox Ox Ox Ox Ox hs1 hc1 w
 case hz => exact Nz
 simp only [qz]
 refine rg_move ?_
 simp only [qz]
 refine rf_extract rfl rfl rfl rfl ?_
 simp only [qz]
 refine rf_extract rfl rfl rfl rfl ?_
 simp only [qz]
 refine rf_indexA (n := 1) (sz := 1) (j := 1) rfl rfl rfl rfl Try.underlying105 Kx (by decide) rfl ?_
 simp only [qz]
 refine rf_store rfl rfl Kx rfl rfl (UpdR.there _ (UpdR.here _ _ _ Nl)) Nz ?_
 simp only [qz]
 refine rg_assign ?_
 simp only [qz]
 refine rg_nil (ek_block (ek_next ?_))
 refine wk_region [0, 0] rfl Kx ?_
 simp only [qy]
 refine rf_add (r := 2) rfl rfl rfl rfl (by decide) ?_
 simp only [qz]
 refine rg_move ?_
 simp only [qz]
 refine rg_nil (ek_again (wk_seq ?_))
 refine wk_region [0] rfl Kx ?_
 simp only [qy]
 refine rf_lss (b := true) rfl rfl rfl rfl (by decide) ?_
 simp only [qz]
 refine rg_nil (ek_next (wk_seq (wk_cond_t rfl (wk_skip (ek_next (wk_seq (wk_block (wk_seq ?_))))))))
 refine wk_region [0, 0] rfl Kx ?_
 simp only [qy]
 refine rg_move ?_
 simp only [qz]
 refine rg_assign ?_
 simp only [qz]
 refine rg_nil (ek_next ?_)
 refine wk_region [0, 0, 0, 0, 0, 1, 0, 0, 0, 0, 1, 0] rfl Kx ?_
 simp only [qy]
 refine rg_move ?_
 simp only [qz]
 refine rg_move ?_
 simp only [qz]
 refine rf_indexA (n := 2) (sz := 1) (j := 2) rfl rfl rfl rfl Try.underlying105 Kx (by decide) rfl ?_
 simp only [qz]
 refine rf_load rfl rfl rfl Try.underlying103 rfl (fun w hw => (Kn.hd0 (Kn.tl hw)).at rfl) ?_
 simp only [qz]
 refine rg_move ?_
 simp only [qz]
 apply rg_ext Rx
 case hargs => exact Ax
 case h => exact fun w => run_Sub64I 0 x2 c1 s2 c2 Ox Ox Ox Ox Ox hs2 hc2 w
 case hz => exact Nz
 simp only [qz]
 refine rg_move ?_
 simp only [qz]
 refine rf_extract rfl rfl rfl rfl ?_
 simp only [qz]
 refine rf_extract rfl rfl rfl rfl ?_
 simp only [qz]
 refine rf_indexA (n := 2) (sz := 1) (j := 2) rfl rfl rfl rfl Try.underlying105 Kx (by decide) rfl ?_
 simp only [qz]
 refine rf_store rfl rfl Kx rfl rfl (UpdR.there _ (UpdR.here _ _ _ Nl)) Nz ?_
 simp only [qz]
 refine rg_assign ?_
 simp only [qz]
 refine rg_nil (ek_block (ek_next ?_))
 refine wk_region [0, 0] rfl Kx ?_
 simp only [qy]
 refine rf_add (r := 3) rfl rfl rfl rfl (by decide) ?_
 simp only [qz]
 refine rg_move ?_
 simp only [qz]
 refine rg_nil (ek_again (wk_seq ?_))
 refine wk_region [0] rfl Kx ?_
 simp only [qy]
 refine rf_lss (b := true) rfl rfl rfl rfl (by decide) ?_
 simp only [qz]
 refine rg_nil (ek_next (wk_seq (wk_cond_t rfl (wk_skip (ek_next (wk_seq (wk_block (wk_seq ?_))))))))
 refine wk_region [0, 0] rfl Kx ?_
 simp only [qy]
 refine rg_move ?_
 simp only [qz]
 refine rg_assign ?_
 simp only [qz]
 refine rg_nil (ek_next ?_)
 refine wk_region [0, 0, 0, 0, 0, 1, 0, 0, 0, 0, 1, 0] rfl Kx ?_
 simp only [qy]
 refine rg_move ?_
 simp only [qz]
 refine rg_move ?_
 simp only [qz]
 refine rf_indexA (n := 3) (sz := 1) (j := 3) rfl rfl rfl rfl Try.underlying105 Kx (by decide) rfl ?_
 simp only [qz]
 refine rf_load rfl rfl rfl Try.underlying103 rfl (fun w hw => (Kn.hd0 (Kn.tl hw)).at rfl) ?_
 simp only [qz]
 refine rg_move ?_
 simp only [qz]
 apply rg_ext Rx
 case hargs => exact Ax
 case h => exact fun w => run_Sub64I 0 x3 c2 s3 c3 Ox Ox Ox Ox Ox hs3 hc3 w
 case hz => exact Nz
 simp only [qz]
 refine rg_move ?_
 simp only [qz]
 refine rf_extract rfl rfl rfl rfl ?_
 simp only [qz]
 refine rf_extract rfl rfl rfl rfl ?_
 simp only [qz]
 refine rf_indexA (n := 3) (sz := 1) (j := 3) rfl rfl rfl rfl Try.underlying105 Kx (by decide) rfl ?_
 simp only [qz]
 refine rf_store rfl rfl Kx rfl rfl (UpdR.there _ (UpdR.here _ _ _ Nl)) Nz ?_
 simp only [qz]
 refine rg_assign ?_
 simp only [qz]
 refine rg_nil (ek_block (ek_next ?_))
 refine wk_region [0, 0] rfl Kx ?_
 simp only [qy]
 refine rf_add (r := 4) rfl rfl rfl rfl (by decide) ?_
 simp only [qz]
 refine rg_move ?_
 simp only [qz]
 refine rg_nil (ek_again (wk_seq ?_))
 refine wk_region [0] rfl Kx ?_
 simp only [qy]
 refine rf_lss (b := true) rfl rfl rfl rfl (by decide) ?_
 simp only [qz]
 refine rg_nil (ek_next (wk_seq (wk_cond_t rfl (wk_skip (ek_next (wk_seq (wk_block (wk_seq ?_))))))))
 refine wk_region [0, 0] rfl Kx ?_
 simp only [qy]
 refine rg_move ?_
 simp only [qz]
 refine rg_assign ?_
 simp only [qz]
 refine rg_nil (ek_next ?_)
 refine wk_region [0, 0, 0, 0, 0, 1, 0, 0, 0, 0, 1, 0] rfl Kx ?_
 simp only [qy]
 refine rg_move ?_
 simp only [qz]
 refine rg_move ?_
 simp only [qz]
 refine rf_indexA (n := 4) (sz := 1) (j := 4) rfl rfl rfl rfl Try.underlying105 Kx (by decide) rfl ?_
 simp only [qz]
 refine rf_load rfl rfl rfl Try.underlying103 rfl (fun w hw => (Kn.hd0 (Kn.tl hw)).at rfl) ?_
 simp only [qz]
 refine rg_move ?_
 simp only [qz]
 apply rg_ext Rx
 case hargs => exact Ax
 case h => exact fun w => run_Sub64I 0 x4 c3 s4 c4 Ox Ox Ox Ox Ox hs4 hc4 w
 case hz => exact Nz
 simp only [qz]
 refine rg_move ?_
 simp only [qz]
 refine rf_extract rfl rfl rfl rfl ?_
 simp only [qz]
 refine rf_extract rfl rfl rfl rfl ?_
 simp only [qz]
 refine rf_indexA (n := 4) (sz := 1) (j := 4) rfl rfl rfl rfl Try.underlying105 Kx (by decide) rfl ?_
 simp only [qz]
 refine rf_store rfl rfl Kx rfl rfl (UpdR.there _ (UpdR.here _ _ _ Nl)) Nz ?_
 simp only [qz]
 refine rg_assign ?_
 simp only [qz]
 refine rg_nil (ek_block (ek_next ?_))
 refine wk_region [0, 0] rfl Kx ?_
 simp only [qy]
 refine rf_add (r := 5) rfl rfl rfl rfl (by decide) ?_
 simp only [qz]
 refine rg_move ?_
 simp only [qz]
 refine rg_nil (ek_again (wk_seq ?_))
 refine wk_region [0] rfl Kx ?_
 simp only [qy]
 refine rf_lss (b := true) rfl rfl rfl rfl (by decide) ?_
 simp only [qz]
 refine rg_nil (ek_next (wk_seq (wk_cond_t rfl (wk_skip (ek_next (wk_seq (wk_block (wk_seq ?_))))))))
 refine wk_region [0, 0] rfl Kx ?_
 simp only [qy]
 refine rg_move ?_
 simp only [qz]
 refine rg_assign ?_
 simp only [qz]
 refine rg_nil (ek_next ?_)
 refine wk_region [0, 0, 0, 0, 0, 1, 0, 0, 0, 0, 1, 0] rfl Kx ?_
 simp only [qy]
 refine rg_move ?_
 simp only [qz]
 refine rg_move ?_
 simp only [qz]
 refine rf_indexA (n := 5) (sz := 1) (j := 5) rfl rfl rfl rfl Try.underlying105 Kx (by decide) rfl ?_
 simp only [qz]
 refine rf_load rfl rfl rfl Try.underlying103 rfl (fun w hw => (Kn.hd0 (Kn.tl hw)).at rfl) ?_
 simp only [qz]
 refine rg_move ?_
 simp only [qz]
 apply rg_ext Rx
 case hargs => exact Ax
 case h => exact fun w => run_Sub64I 0 x5 c4 s5 c5 Ox Ox Ox Ox Ox hs5 hc5 w
 case hz => exact Nz
 simp only [qz]
 refine rg_move ?_
 simp only [qz]
 refine rf_extract rfl rfl rfl rfl ?_
 simp only [qz]
 refine rf_extract rfl rfl rfl rfl ?_
 simp only [qz]
 refine rf_indexA (n := 5) (sz := 1) (j := 5) rfl rfl rfl rfl Try.underlying105 Kx (by decide) rfl ?_
 simp only [qz]
 refine rf_store rfl rfl Kx rfl rfl (UpdR.there _ (UpdR.here _ _ _ Nl)) Nz ?_
 simp only [qz]
 refine rg_assign ?_
 simp only [qz]
 refine rg_nil (ek_block (ek_next ?_))
 refine wk_region [0, 0] rfl Kx ?_
 simp only [qy]
 refine rf_add (r := 6) rfl rfl rfl rfl (by decide) ?_
 simp only [qz]
 refine rg_move ?_
 simp only [qz]
 refine rg_nil (ek_again (wk_seq ?_))
 refine wk_region [0] rfl Kx ?_
 simp only [qy]
 refine rf_lss (b := false) rfl rfl rfl rfl (by decide) ?_
 simp only [qz]
 refine rg_nil (ek_next (wk_seq (wk_cond_f rfl (wk_exit (ek_then_exit (ek_then_exit (ek_block_exit (ek_next (wk_seq ?_)))))))))
 refine wk_region [0, 1] rfl Kx ?_
 simp only [qy]
 refine rf_loadR (n := 6) rfl rfl rfl Try.underlying105 rfl Kx (fun w hw => Kn.hd0 (Kn.tl hw)) rfl rfl ?_
 simp only [qz]
 refine rf_storeR (n := 6) rfl rfl Kx rfl rfl (UpdR.here _ _ _ Nl) Nz ?_
 simp only [qz, Nat.reduceAdd]
 refine rg_nil (ek_next (wk_ret ?_))
 refine ek_ret (fun w hw => ⟨rfl, _, run_results1 rfl rfl (Kn.hd0 hw) Try.underlying105 rfl Kx, ?_⟩)
 (try simp only [qz])
 exact ⟨by rw [← heq.out] <;> rfl, hw.below⟩
set_option maxHeartbeats 2000000 in
theorem w6times_pos (m n : Int) (h0 : 0 ≤ n) (h1 : n ≤ 9223372036854775807) (w : World) : Calls Try.prog 125 #[w6V (W6.of m), .int .i64 n] w fun e w' => e = .returned (w6V (W6.of (m * n))) ∧ Below w.heap.size w w' := by
 obtain ⟨⟨x0, x1, x2, x3, x4, x5⟩, hx⟩ : ∃ r, W6.of m = r := ⟨_, rfl⟩
 have wx := W6.of_wf m
 rw [hx] at wx
 obtain ⟨xa0, xb0, xa1, xb1, xa2, xb2, xa3, xb3, xa4, xb4, xa5, xb5⟩ := wx
 dsimp only at xa0 xb0 xa1 xb1 xa2 xb2 xa3 xb3 xa4 xb4 xa5 xb5
 have hp0 : 0 ≤ x0 * n ∧ x0 * n ≤ 18446744073709551615 * n := ⟨Int.mul_nonneg Ox h0, Int.mul_le_mul_of_nonneg_right Ox h0⟩
 have cm0 := mul64_any x0 n Ox Ox h0 Ox
 have hp1 : 0 ≤ x1 * n ∧ x1 * n ≤ 18446744073709551615 * n := ⟨Int.mul_nonneg Ox h0, Int.mul_le_mul_of_nonneg_right Ox h0⟩
 have cm1 := mul64_any x1 n Ox Ox h0 Ox
 have hp2 : 0 ≤ x2 * n ∧ x2 * n ≤ 18446744073709551615 * n := ⟨Int.mul_nonneg Ox h0, Int.mul_le_mul_of_nonneg_right Ox h0⟩
 have cm2 := mul64_any x2 n Ox Ox h0 Ox
 have hp3 : 0 ≤ x3 * n ∧ x3 * n ≤ 18446744073709551615 * n := ⟨Int.mul_nonneg Ox h0, Int.mul_le_mul_of_nonneg_right Ox h0⟩
 have cm3 := mul64_any x3 n Ox Ox h0 Ox
 have hp4 : 0 ≤ x4 * n ∧ x4 * n ≤ 18446744073709551615 * n := ⟨Int.mul_nonneg Ox h0, Int.mul_le_mul_of_nonneg_right Ox h0⟩
 have cm4 := mul64_any x4 n Ox Ox h0 Ox
 have hp5 : 0 ≤ x5 * n ∧ x5 * n ≤ 18446744073709551615 * n := ⟨Int.mul_nonneg Ox h0, Int.mul_le_mul_of_nonneg_right Ox h0⟩
 have cm5 := mul64_any x5 n Ox Ox h0 Ox
 obtain ⟨p0, hq0⟩ : ∃ p, x0 * n = p := ⟨_, rfl⟩
 rw [hq0] at hp0 cm0
 obtain ⟨g0, hg0⟩ : ∃ s, p0 / 18446744073709551616 = s := ⟨_, rfl⟩
 obtain ⟨l0, hl0⟩ : ∃ s, p0 % 18446744073709551616 = s := ⟨_, rfl⟩
 rw [hg0, hl0] at cm0
 replace cm0 := Lib.hid cm0
 obtain ⟨s0, hs0⟩ : ∃ s, (l0 + 0 + 0) % 18446744073709551616 = s := ⟨_, rfl⟩
 obtain ⟨c0, hc0⟩ : ∃ s, (l0 + 0 + 0) / 18446744073709551616 = s := ⟨_, rfl⟩
 obtain ⟨k0, hk0⟩ : ∃ s, g0 + c0 = s := ⟨_, rfl⟩
 have hkk0 : 0 ≤ k0 ∧ k0 ≤ n := by omega
 have hss0 : 0 ≤ s0 ∧ s0 < 18446744073709551616 := by omega
 obtain ⟨p1, hq1⟩ : ∃ p, x1 * n = p := ⟨_, rfl⟩
 rw [hq1] at hp1 cm1
 obtain ⟨g1, hg1⟩ : ∃ s, p1 / 18446744073709551616 = s := ⟨_, rfl⟩
 obtain ⟨l1, hl1⟩ : ∃ s, p1 % 18446744073709551616 = s := ⟨_, rfl⟩
 rw [hg1, hl1] at cm1
 replace cm1 := Lib.hid cm1
 obtain ⟨s1, hs1⟩ : ∃ s, (l1 + k0 + 0) % 18446744073709551616 = s := ⟨_, rfl⟩
 obtain ⟨c1, hc1⟩ : ∃ s, (l1 + k0 + 0) / 18446744073709551616 = s := ⟨_, rfl⟩
 obtain ⟨k1, hk1⟩ : ∃ s, g1 + c1 = s := ⟨_, rfl⟩
 have hkk1 : 0 ≤ k1 ∧ k1 ≤ n := by omega
 have hss1 : 0 ≤ s1 ∧ s1 < 18446744073709551616 := by omega
 obtain ⟨p2, hq2⟩ : ∃ p, x2 * n = p := ⟨_, rfl⟩
 rw [hq2] at hp2 cm2
 obtain ⟨g2, hg2⟩ : ∃ s, p2 / 18446744073709551616 = s := ⟨_, rfl⟩
 obtain ⟨l2, hl2⟩ : ∃ s, p2 % 18446744073709551616 = s := ⟨_, rfl⟩
 rw [hg2, hl2] at cm2
 replace cm2 := Lib.hid cm2
 obtain ⟨s2, hs2⟩ : ∃ s, (l2 + k1 + 0) % 18446744073709551616 = s := ⟨_, rfl⟩
 obtain ⟨c2, hc2⟩ : ∃ s, (l2 + k1 + 0) / 18446744073709551616 = s := ⟨_, rfl⟩
 obtain ⟨k2, hk2⟩ : ∃ s, g2 + c2 = s := ⟨_, rfl⟩
 have hkk2 : 0 ≤ k2 ∧ k2 ≤ n := by omega
 have hss2 : 0 ≤ s2 ∧ s2 < 18446744073709551616 := by omega
 obtain ⟨p3, hq3⟩ : ∃ p, x3 * n = p := ⟨_, rfl⟩
 rw [hq3] at hp3 cm3
 obtain ⟨g3, hg3⟩ : ∃ s, p3 / 18446744073709551616 = s := ⟨_, rfl⟩
 obtain ⟨l3, hl3⟩ : ∃ s, p3 % 18446744073709551616 = s := ⟨_, rfl⟩
 rw [hg3, hl3] at cm3
 replace cm3 := Lib.hid cm3
 obtain ⟨s3, hs3⟩ : ∃ s, (l3 + k2 + 0) % 18446744073709551616 = s := ⟨_, rfl⟩
 obtain ⟨c3, hc3⟩ : ∃ s, (l3 + k2 + 0) / 18446744073709551616 = s := ⟨_, rfl⟩
 obtain ⟨k3, hk3⟩ : ∃ s, g3 + c3 = s := ⟨_, rfl⟩
 have hkk3 : 0 ≤ k3 ∧ k3 ≤ n := by omega
 have hss3 : 0 ≤ s3 ∧ s3 < 18446744073709551616 := by omega
 obtain ⟨p4, hq4⟩ : ∃ p, x4 * n = p := ⟨_, rfl⟩
 rw [hq4] at hp4 cm4
 obtain ⟨g4, hg4⟩ : ∃ s, p4 / 18446744073709551616 = s := ⟨_, rfl⟩
 obtain ⟨l4, hl4⟩ : ∃ s, p4 % 18446744073709551616 = s := ⟨_, rfl⟩
 rw [hg4, hl4] at cm4
 replace cm4 := Lib.hid cm4
 obtain ⟨s4, hs4⟩ : ∃ s, (l4 + k3 + 0) % 18446744073709551616 = s := ⟨_, rfl⟩
 obtain ⟨c4, hc4⟩ : ∃ s, (l4 + k3 + 0) / 18446744073709551616 = s := ⟨_, rfl⟩
 obtain ⟨k4, hk4⟩ : ∃ s, g4 + c4 = s := ⟨_, rfl⟩
 have hkk4 : 0 ≤ k4 ∧ k4 ≤ n := by omega
 have hss4 : 0 ≤ s4 ∧ s4 < 18446744073709551616 := by omega
 obtain ⟨p5, hq5⟩ : ∃ p, x5 * n = p := ⟨_, rfl⟩
 rw [hq5] at hp5 cm5
 obtain ⟨g5, hg5⟩ : ∃ s, p5 / 18446744073709551616 = s := ⟨_, rfl⟩
 obtain ⟨l5, hl5⟩ : ∃ s, p5 % 18446744073709551616 = s := ⟨_, rfl⟩
 rw [hg5, hl5] at cm5
 replace cm5 := Lib.hid cm5
 obtain ⟨s5, hs5⟩ : ∃ s, (l5 + k4 + 0) % 18446744073709551616 = s := ⟨_, rfl⟩
 obtain ⟨c5, hc5⟩ : ∃ s, (l5 + k4 + 0) / 18446744073709551616 = s := ⟨_, rfl⟩
 obtain ⟨k5, hk5⟩ : ∃ s, g5 + c5 = s := ⟨_, rfl⟩
 have hkk5 : 0 ≤ k5 ∧ k5 ≤ n := by omega
 have hss5 : 0 ≤ s5 ∧ s5 < 18446744073709551616 := by omega
 have heq : (⟨s0, s1, s2, s3, s4, s5⟩ : W6) = W6.of (m * n) := W6.times_eq (c0 := k0) (c1 := k1) (c2 := k2) (c3 := k3) (c4 := k4) (c5 := k5) ⟨by dsimp only; omega, by dsimp only; omega, by dsimp only; omega, by dsimp only; omega, by dsimp only; omega, by dsimp only; omega, by dsimp only; omega, by dsimp only; omega, by dsimp only; omega, by dsimp only; omega, by dsimp only; omega, by dsimp only; omega⟩ (by rw [hx]; dsimp only; omega) (by rw [hx]; dsimp only; omega) (by rw [hx]; dsimp only; omega) (by rw [hx]; dsimp only; omega) (by rw [hx]; dsimp only; omega) (by rw [hx]; dsimp only; omega)
 rw [hx]
 replace heq := Lib.hid heq
 clear hx
 go_enter Try.func125, Try.ntmps125
 refine wk_start ?_
 refine wk_seq ?_
 refine wk_region [1, 1] rfl Kx ?_
 simp only [qy]
 refine Rgn fun g1 => ?_
 simp only [qz]
 refine Rgn fun g2 => ?_
 simp only [qz]
 refine rg_nil (ek_next (wk_seq (wk_seq ?_)))
 refine wk_region [0, 0] rfl Kx ?_
 simp only [qy]
 refine rg_move ?_
 simp only [qz]
 refine rfb_lss rfl rfl rfl rfl ?_
 intro x h1
 obtain rfl : x = false := by (refine h1.symm.trans ?_; exact decide_eq_false Ox)
 clear h1
 simp only [qz]
 refine rg_nil (ek_next (wk_cond_f rfl (wk_skip (ek_next (wk_seq ?_)))))
 refine wk_region [1] rfl Kx ?_
 simp only [qy]
 refine Rgn fun g3 => ?_
 simp only [qz]
 refine rg_nil (ek_next (wk_seq ?_))
 refine wk_region [0] rfl Kx ?_
 simp only [qy]
 refine rg_assign ?_
 simp only [qz]
 refine rg_nil (ek_next (wk_seq (wk_seq ?_)))
 refine wk_region [0, 0] rfl Kx ?_
 simp only [qy]
 refine rf_loadR (n := 6) rfl rfl rfl Try.underlying105 rfl Kx (fun w hw => Kn.hd0 (Kn.tl (Kn.tl hw))) rfl rfl ?_
 simp only [qz]
 refine rg_move ?_
 simp only [qz]
 refine rg_nil (ek_next (wk_block ?_))
 refine wk_unroll 6 ?_
 refine wk_seq ?_
 refine wk_region [0] rfl Kx ?_
 simp only [qy]
 refine rf_lss (b := true) rfl rfl rfl rfl (by decide) ?_
 simp only [qz]
 refine rg_nil (ek_next (wk_seq (wk_cond_t rfl (wk_skip (ek_next (wk_seq (wk_block (wk_seq ?_))))))))
 refine wk_region [0, 0, 0, 0] rfl Kx ?_
 simp only [qy]
 refine rg_move ?_
 simp only [qz]
 apply rg_soft
 case hy => (intro w hw; go_simp; (try go_bits); exact Yld.mk _ _)
 simp only [qz]
 refine rg_assign ?_
 simp only [qz]
 refine rg_assign ?_
 simp only [qz]
 refine rg_nil (ek_next (wk_seq ?_))
 refine wk_region [0, 0, 0, 1, 0, 0, 0, 0, 0] rfl Kx ?_
 simp only [qy]
 refine rg_move ?_
 simp only [qz]
 refine rg_move ?_
 simp only [qz]
 refine rf_conv rfl rfl rfl Try.underlying3 Try.underlying103 (wrap_okU Ox Ox) ?_
 simp only [qz]
 apply rg_pure Rx Kx
 case hargs => exact Ax
 case h => exact fun w hw => same_pure (cm0.out w)
 case hz => exact Nz
 simp only [qz]
 refine rg_move ?_
 simp only [qz]
 refine rf_extract rfl rfl rfl rfl ?_
 simp only [qz]
 refine rf_extract rfl rfl rfl rfl ?_
 simp only [qz]
 refine rg_assign ?_
 simp only [qz]
 refine rg_assign ?_
 simp only [qz]
 refine rg_nil (ek_next (wk_seq ?_))
 refine wk_region [0] rfl Kx ?_
 simp only [qy]
 refine rg_assign ?_
 simp only [qz]
 refine rg_nil (ek_next (wk_seq ?_))
 refine wk_region [0, 0, 0, 1, 0, 0, 0, 0, 1, 0] rfl Kx ?_
 simp only [qy]
 refine rg_move ?_
 simp only [qz]
 refine rg_move ?_
 simp only [qz]
 refine rg_move ?_
 simp only [qz]
 apply rg_ext Rx
 case hargs => exact Ax
 case h => exact fun w => run_Add64 l0 0 0 s0 c0 Ox Ox Ox Ox hs0 hc0 w
 case hz => exact Nz
 simp only [qz]
 refine rg_move ?_
 simp only [qz]
 refine rf_extract rfl rfl rfl rfl ?_
 simp only [qz]
 refine rf_extract rfl rfl rfl rfl ?_
 simp only [qz]
 refine rf_indexA (n := 0) (sz := 1) (j := 0) rfl rfl rfl rfl Try.underlying105 Kx (by decide) rfl ?_
 simp only [qz]
 refine rf_store rfl rfl Kx rfl rfl (UpdR.here _ _ _ Nl) Nz ?_
 simp only [qz]
 refine rg_assign ?_
 simp only [qz]
 refine rg_nil (ek_next ?_)
 refine wk_region [0, 0, 0, 0] rfl Kx ?_
 simp only [qy]
 refine rg_move ?_
 simp only [qz]
 refine rg_move ?_
 simp only [qz]
 refine rf_add rfl rfl rfl rfl (wrap_okU Ox Ox) ?_
 simp only [qz]
 rw [hk0]
 refine rg_assign ?_
 simp only [qz]
 refine rg_nil (ek_block (ek_next ?_))
 refine wk_region [0, 0] rfl Kx ?_
 simp only [qy]
 refine rf_add (r := 1) rfl rfl rfl rfl (by decide) ?_
 simp only [qz]
 refine rg_move ?_
 simp only [qz]
 refine rg_nil (ek_again (wk_seq ?_))
 refine wk_region [0] rfl Kx ?_
 simp only [qy]
 refine rf_lss (b := true) rfl rfl rfl rfl (by decide) ?_
 simp only [qz]
 refine rg_nil (ek_next (wk_seq (wk_cond_t rfl (wk_skip (ek_next (wk_seq (wk_block (wk_seq ?_))))))))
 refine wk_region [0, 0, 0, 0] rfl Kx ?_
 simp only [qy]
 refine rg_move ?_
 simp only [qz]
 apply rg_soft
 case hy => (intro w hw; go_simp; (try go_bits); exact Yld.mk _ _)
 simp only [qz]
 refine rg_assign ?_
 simp only [qz]
 refine rg_assign ?_
 simp only [qz]
 refine rg_nil (ek_next (wk_seq ?_))
 refine wk_region [0, 0, 0, 1, 0, 0, 0, 0, 0] rfl Kx ?_
 simp only [qy]
 refine rg_move ?_
 simp only [qz]
 refine rg_move ?_
 simp only [qz]
 refine rf_conv rfl rfl rfl Try.underlying3 Try.underlying103 (wrap_okU Ox Ox) ?_
 simp only [qz]
 apply rg_pure Rx Kx
 case hargs => exact Ax
 case h => exact fun w hw => same_pure (cm1.out w)
 case hz => exact Nz
 simp only [qz]
 refine rg_move ?_
 simp only [qz]
 refine rf_extract rfl rfl rfl rfl ?_
 simp only [qz]
 refine rf_extract rfl rfl rfl rfl ?_
 simp only [qz]
 refine rg_assign ?_
 simp only [qz]
 refine rg_assign ?_
 simp only [qz]
 refine rg_nil (ek_next (wk_seq ?_))
 refine wk_region [0] rfl Kx ?_
 simp only [qy]
 refine rg_assign ?_
 simp only [qz]
 refine rg_nil (ek_next (wk_seq ?_))
 refine wk_region [0, 0, 0, 1, 0, 0, 0, 0, 1, 0] rfl Kx ?_
 simp only [qy]
 refine rg_move ?_
 simp only [qz]
 refine rg_move ?_
 simp only [qz]
 refine rg_move ?_
 simp only [qz]
 apply rg_ext Rx
 case hargs => exact Ax
 case h => exact fun w => run_Add64 l1 k0 0 s1 c1 Ox Ox Ox Ox hs1 hc1 w
 case hz => exact Nz
 simp only [qz]
 refine rg_move ?_
 simp only [qz]
 refine rf_extract rfl rfl rfl rfl ?_
 simp only [qz]
 refine rf_extract rfl rfl rfl rfl ?_
 simp only [qz]
 refine rf_indexA (n := 1) (sz := 1) (j := 1) rfl rfl rfl rfl Try.underlying105 Kx (by decide) rfl ?_
 simp only [qz]
 refine rf_store rfl rfl Kx rfl rfl (UpdR.here _ _ _ Nl) Nz ?_
 simp only [qz]
 refine rg_assign ?_
 simp only [qz]
 refine rg_nil (ek_next ?_)
 refine wk_region [0, 0, 0, 0] rfl Kx ?_
 simp only [qy]
 refine rg_move ?_
 simp only [qz]
 refine rg_move ?_
 simp only [qz]
 refine rf_add rfl rfl rfl rfl (wrap_okU Ox Ox) ?_
 simp only [qz]
 rw [hk1]
 refine rg_assign ?_
 simp only [qz]
 refine rg_nil (ek_block (ek_next ?_))
 refine wk_region [0, 0] rfl Kx ?_
 simp only [qy]
 refine rf_add (r := 2) rfl rfl rfl rfl (by decide) ?_
 simp only [qz]
 refine rg_move ?_
 simp only [qz]
 refine rg_nil (ek_again (wk_seq ?_))
 refine wk_region [0] rfl Kx ?_
 simp only [qy]
 refine rf_lss (b := true) rfl rfl rfl rfl (by decide) ?_
 simp only [qz]
 refine rg_nil (ek_next (wk_seq (wk_cond_t rfl (wk_skip (ek_next (wk_seq (wk_block (wk_seq ?_))))))))
 refine wk_region [0, 0, 0, 0] rfl Kx ?_
 simp only [qy]
 refine rg_move ?_
 simp only [qz]
 apply rg_soft
 case hy => (intro w hw; go_simp; (try go_bits); exact Yld.mk _ _)
 simp only [qz]
 refine rg_assign ?_
 simp only [qz]
 refine rg_assign ?_
 simp only [qz]
 refine rg_nil (ek_next (wk_seq ?_))
 refine wk_region [0, 0, 0, 1, 0, 0, 0, 0, 0] rfl Kx ?_
 simp only [qy]
 refine rg_move ?_
 simp only [qz]
 refine rg_move ?_
 simp only [qz]
 refine rf_conv rfl rfl rfl Try.underlying3 Try.underlying103 (wrap_okU Ox Ox) ?_
 simp only [qz]
 apply rg_pure Rx Kx
 case hargs => exact Ax
 case h => exact fun w hw => same_pure (cm2.out w)
 case hz => exact Nz
 simp only [qz]
 refine rg_move ?_
 simp only [qz]
 refine rf_extract rfl rfl rfl rfl ?_
 simp only [qz]
 refine rf_extract rfl rfl rfl rfl ?_
 simp only [qz]
 refine rg_assign ?_
 simp only [qz]
 refine rg_assign ?_
 simp only [qz]
 refine rg_nil (ek_next (wk_seq ?_))
 refine wk_region [0] rfl Kx ?_
 simp only [qy]
 refine rg_assign ?_
 simp only [qz]
 refine rg_nil (ek_next (wk_seq ?_))
 refine wk_region [0, 0, 0, 1, 0, 0, 0, 0, 1, 0] rfl Kx ?_
 simp only [qy]
 refine rg_move ?_
 simp only [qz]
 refine rg_move ?_
 simp only [qz]
 refine rg_move ?_
 simp only [qz]
 apply rg_ext Rx
 case hargs => exact Ax
 case h => exact fun w => run_Add64 l2 k1 0 s2 c2 Ox Ox Ox Ox hs2 hc2 w
 case hz => exact Nz
 simp only [qz]
 refine rg_move ?_
 simp only [qz]
 refine rf_extract rfl rfl rfl rfl ?_
 simp only [qz]
 refine rf_extract rfl rfl rfl rfl ?_
 simp only [qz]
 refine rf_indexA (n := 2) (sz := 1) (j := 2) rfl rfl rfl rfl Try.underlying105 Kx (by decide) rfl ?_
 simp only [qz]
 refine rf_store rfl rfl Kx rfl rfl (UpdR.here _ _ _ Nl) Nz ?_
 simp only [qz]
 refine rg_assign ?_
 simp only [qz]
 refine rg_nil (ek_next ?_)
 refine wk_region [0, 0, 0, 0] rfl Kx ?_
 simp only [qy]
 refine rg_move ?_
 simp only [qz]
 refine rg_move ?_
 simp only [qz]
 refine rf_add rfl rfl rfl rfl (wrap_okU Ox Ox) ?_
 simp only [qz]
 rw [hk2]
 refine rg_assign ?_
 simp only [qz]
 refine rg_nil (ek_block (ek_next ?_))
 refine wk_region [0, 0] rfl Kx ?_
 simp only [qy]
 refine rf_add (r := 3) rfl rfl rfl rfl (by decide) ?_
 simp only [qz]
 refine rg_move ?_
 simp only [qz]
 refine rg_nil (ek_again (wk_seq ?_))
 refine wk_region [0] rfl Kx ?_
 simp only [qy]
 refine rf_lss (b := true) rfl rfl rfl rfl (by decide) ?_
 simp only [qz]
 refine rg_nil (ek_next (wk_seq (wk_cond_t rfl (wk_skip (ek_next (wk_seq (wk_block (wk_seq ?_))))))))
 refine wk_region [0, 0, 0, 0] rfl Kx ?_
 simp only [qy]
 refine rg_move ?_
 simp only [qz]
 apply rg_soft
 case hy => (intro w hw; go_simp; (try go_bits); exact Yld.mk _ _)
 simp only [qz]
 refine rg_assign ?_
 simp only [qz]
 refine rg_assign ?_
 simp only [qz]
 refine rg_nil (ek_next (wk_seq ?_))
 refine wk_region [0, 0, 0, 1, 0, 0, 0, 0, 0] rfl Kx ?_
 simp only [qy]
 refine rg_move ?_
 simp only [qz]
 refine rg_move ?_
 simp only [qz]
 refine rf_conv rfl rfl rfl Try.underlying3 Try.underlying103 (wrap_okU Ox Ox) ?_
 simp only [qz]
 apply rg_pure Rx Kx
 case hargs => exact Ax
 case h => exact fun w hw => same_pure (cm3.out w)
 case hz => exact Nz
 simp only [qz]
 refine rg_move ?_
 simp only [qz]
 refine rf_extract rfl rfl rfl rfl ?_
 simp only [qz]
 refine rf_extract rfl rfl rfl rfl ?_
 simp only [qz]
 refine rg_assign ?_
 simp only [qz]
 refine rg_assign ?_
 simp only [qz]
 refine rg_nil (ek_next (wk_seq ?_))
 refine wk_region [0] rfl Kx ?_
 simp only [qy]
 refine rg_assign ?_
 simp only [qz]
 refine rg_nil (ek_next (wk_seq ?_))
 refine wk_region [0, 0, 0, 1, 0, 0, 0, 0, 1, 0] rfl Kx ?_
 simp only [qy]
 refine rg_move ?_
 simp only [qz]
 refine rg_move ?_
 simp only [qz]
 refine rg_move ?_
 simp only [qz]
 apply rg_ext Rx
 case hargs => exact Ax
 case h => exact fun w => run_Add64 l3 k2 0 s3 c3 Ox Ox Ox Ox hs3 hc3 w
 case hz => exact Nz
 simp only [qz]
 refine rg_move ?_
 simp only [qz]
 refine rf_extract rfl rfl rfl rfl ?_
 simp only [qz]
 refine rf_extract rfl rfl rfl rfl ?_
 simp only [qz]
 refine rf_indexA (n := 3) (sz := 1) (j := 3) rfl rfl rfl rfl Try.underlying105 Kx (by decide) rfl ?_
 simp only [qz]
 refine rf_store rfl rfl Kx rfl rfl (UpdR.here _ _ _ Nl) Nz ?_
 simp only [qz]
 refine rg_assign ?_
 simp only [qz]
 refine rg_nil (ek_next ?_)
 refine wk_region [0, 0, 0, 0] rfl Kx ?_
 simp only [qy]
 refine rg_move ?_
 simp only [qz]
 refine rg_move ?_
 simp only [qz]
 refine rf_add rfl rfl rfl rfl (wrap_okU Ox Ox) ?_
 simp only [qz]
 rw [hk3]
 refine rg_assign ?_
 simp only [qz]
 refine rg_nil (ek_block (ek_next ?_))
 refine wk_region [0, 0] rfl Kx ?_
 simp only [qy]
 refine rf_add (r := 4) rfl rfl rfl rfl (by decide) ?_
 simp only [qz]
 refine rg_move ?_
 simp only [qz]
 refine rg_nil (ek_again (wk_seq ?_))
 refine wk_region [0] rfl Kx ?_
 simp only [qy]
 refine rf_lss (b := true) rfl rfl rfl rfl (by decide) ?_
 simp only [qz]
 refine rg_nil (ek_next (wk_seq (wk_cond_t rfl (wk_skip (ek_next (wk_seq (wk_block (wk_seq ?_))))))))
 refine wk_region [0, 0, 0, 0] rfl Kx ?_
 simp only [qy]
 refine rg_move ?_
 simp only [qz]
 apply rg_soft
 case hy => (intro w hw; go_simp; (try go_bits); exact Yld.mk _ _)
 simp only [qz]
 refine rg_assign ?_
 simp only [qz]
 refine rg_assign ?_
 simp only [qz]
 refine rg_nil (ek_next (wk_seq ?_))
 refine wk_region [0, 0, 0, 1, 0, 0, 0, 0, 0] rfl Kx ?_
 simp only [qy]
 refine rg_move ?_
 simp only [qz]
 refine rg_move ?_
 simp only [qz]
 refine rf_conv rfl rfl rfl Try.underlying3 Try.underlying103 (wrap_okU Ox Ox) ?_
 simp only [qz]
 apply rg_pure Rx Kx
 case hargs => exact Ax
 case h => exact fun w hw => same_pure (cm4.out w)
 case hz => exact Nz
 simp only [qz]
 refine rg_move ?_
 simp only [qz]
 refine rf_extract rfl rfl rfl rfl ?_
 simp only [qz]
 refine rf_extract rfl rfl rfl rfl ?_
 simp only [qz]
 refine rg_assign ?_
 simp only [qz]
 refine rg_assign ?_
 simp only [qz]
 refine rg_nil (ek_next (wk_seq ?_))
 refine wk_region [0] rfl Kx ?_
 simp only [qy]
 refine rg_assign ?_
 simp only [qz]
 refine rg_nil (ek_next (wk_seq ?_))
 refine wk_region [0, 0, 0, 1, 0, 0, 0, 0, 1, 0] rfl Kx ?_
 simp only [qy]
 refine rg_move ?_
 simp only [qz]
 refine rg_move ?_
 simp only [qz]
 refine rg_move ?_
 simp only [qz]
 apply rg_ext Rx
 case hargs => exact Ax
 case h => exact fun w => run_Add64 l4 k3 0 s4 c4 Ox Ox Ox Ox hs4 hc4 w
 case hz => exact Nz
 simp only [qz]
 refine rg_move ?_
 simp only [qz]
 refine rf_extract rfl rfl rfl rfl ?_
 simp only [qz]
 refine rf_extract rfl rfl rfl rfl ?_
 simp only [qz]
 refine rf_indexA (n := 4) (sz := 1) (j := 4) rfl rfl rfl rfl Try.underlying105 Kx (by decide) rfl ?_
 simp only [qz]
 refine rf_store rfl rfl Kx rfl rfl (UpdR.here _ _ _ Nl) Nz ?_
 simp only [qz]
 refine rg_assign ?_
 simp only [qz]
 refine rg_nil (ek_next ?_)
 refine wk_region [0, 0, 0, 0] rfl Kx ?_
 simp only [qy]
 refine rg_move ?_
 simp only [qz]
 refine rg_move ?_
 simp only [qz]
 refine rf_add rfl rfl rfl rfl (wrap_okU Ox Ox) ?_
 simp only [qz]
 rw [hk4]
 refine rg_assign ?_
 simp only [qz]
 refine rg_nil (ek_block (ek_next ?_))
 refine wk_region [0, 0] rfl Kx ?_
 simp only [qy]
 refine rf_add (r := 5) rfl rfl rfl rfl (by decide) ?_
 simp only [qz]
 refine rg_move ?_
 simp only [qz]
 refine rg_nil (ek_again (wk_seq ?_))
 refine wk_region [0] rfl Kx ?_
 simp only [qy]
 refine rf_lss (b := true) rfl rfl rfl rfl (by decide) ?_
 simp only [qz]
 refine rg_nil (ek_next (wk_seq (wk_cond_t rfl (wk_skip (ek_next (wk_seq (wk_block (wk_seq ?_))))))))
 refine wk_region [0, 0, 0, 0] rfl Kx ?_
 simp only [qy]
 refine rg_move ?_
 simp only [qz]
 apply rg_soft
 case hy => (intro w hw; go_simp; (try go_bits); exact Yld.mk _ _)
 simp only [qz]
 refine rg_assign ?_
 simp only [qz]
 refine rg_assign ?_
 simp only [qz]
 refine rg_nil (ek_next (wk_seq ?_))
 refine wk_region [0, 0, 0, 1, 0, 0, 0, 0, 0] rfl Kx ?_
 simp only [qy]
 refine rg_move ?_
 simp only [qz]
 refine rg_move ?_
 simp only [qz]
 refine rf_conv rfl rfl rfl Try.underlying3 Try.underlying103 (wrap_okU Ox Ox) ?_
 simp only [qz]
 apply rg_pure Rx Kx
 case hargs => exact Ax
 case h => exact fun w hw => same_pure (cm5.out w)
 case hz => exact Nz
 simp only [qz]
 refine rg_move ?_
 simp only [qz]
 refine rf_extract rfl rfl rfl rfl ?_
 simp only [qz]
 refine rf_extract rfl rfl rfl rfl ?_
 simp only [qz]
 refine rg_assign ?_
 simp only [qz]
 refine rg_assign ?_
 simp only [qz]
 refine rg_nil (ek_next (wk_seq ?_))
 refine wk_region [0] rfl Kx ?_
 simp only [qy]
 refine rg_assign ?_
 simp only [qz]
 refine rg_nil (ek_next (wk_seq ?_))
 refine wk_region [0, 0, 0, 1, 0, 0, 0, 0, 1, 0] rfl Kx ?_
 simp only [qy]
 refine rg_move ?_
 simp only [qz]
 refine rg_move ?_
 simp only [qz]
 refine rg_move ?_
 simp only [qz]
 apply rg_ext Rx
 case hargs => exact Ax
 case h => exact fun w => run_Add64 l5 k4 0 s5 c5 Ox Ox Ox Ox hs5 hc5 w
 case hz => exact Nz
 simp only [qz]
 refine rg_move ?_
 simp only [qz]
 refine rf_extract rfl rfl rfl rfl ?_
 simp only [qz]
 refine rf_extract rfl rfl rfl rfl ?_
 simp only [qz]
 refine rf_indexA (n := 5) (sz := 1) (j := 5) rfl rfl rfl rfl Try.underlying105 Kx (by decide) rfl ?_
 simp only [qz]
 refine rf_store rfl rfl Kx rfl rfl (UpdR.here _ _ _ Nl) Nz ?_
 simp only [qz]
 refine rg_assign ?_
 simp only [qz]
 refine rg_nil (ek_next ?_)
 refine wk_region [0, 0, 0, 0] rfl Kx ?_
 simp only [qy]
 refine rg_move ?_
 simp only [qz]
 refine rg_move ?_
 simp only [qz]
 refine rf_add rfl rfl rfl rfl (wrap_okU Ox Ox) ?_
 simp only [qz]
 rw [hk5]
 refine rg_assign ?_
 simp only [qz]
 refine rg_nil (ek_block (ek_next ?_))
 refine wk_region [0, 0] rfl Kx ?_
 simp only [qy]
 refine rf_add (r := 6) rfl rfl rfl rfl (by decide) ?_
 simp only [qz]
 refine rg_move ?_
 simp only [qz]
 refine rg_nil (ek_again (wk_seq ?_))
 refine wk_region [0] rfl Kx ?_
 simp only [qy]
 refine rf_lss (b := false) rfl rfl rfl rfl (by decide) ?_
 simp only [qz]
 refine rg_nil (ek_next (wk_seq (wk_cond_f rfl (wk_exit (ek_then_exit (ek_then_exit (ek_block_exit (ek_next (wk_seq ?_)))))))))
 refine wk_region [0, 1] rfl Kx ?_
 simp only [qy]
 refine rf_loadR (n := 6) rfl rfl rfl Try.underlying105 rfl Kx (fun w hw => Kn.hd0 hw) rfl rfl ?_
 simp only [qz]
 refine rf_storeR (n := 6) rfl rfl Kx rfl rfl (UpdR.there _ (UpdR.here _ _ _ Nl)) Nz ?_
 simp only [qz, Nat.reduceAdd]
 refine rg_nil (ek_next (wk_ret ?_))
 refine ek_ret (fun w hw => ⟨rfl, _, run_results1 rfl rfl (Kn.hd0 (Kn.tl hw)) Try.underlying105 rfl Kx, ?_⟩)
 (try simp only [qz])
 exact ⟨by rw [← heq.out] <;> rfl, hw.below⟩
theorem w6times_neg (m n : Int) (h0 : n < 0) (h1 : -9223372036854775807 ≤ n) (w : World) : Calls Try.prog 125 #[w6V (W6.of m), .int .i64 n] w fun e w' => e = .returned (w6V (W6.of (m * n))) ∧ Below w.heap.size w w' := by
 go_enter Try.func125, Try.ntmps125
 refine wk_start ?_
 refine wk_seq ?_
 refine wk_region [1, 1] rfl Kx ?_
 simp only [qy]
 refine Rgn fun g1 => ?_
 simp only [qz]
 refine Rgn fun g2 => ?_
 simp only [qz]
 refine rg_nil (ek_next (wk_seq (wk_seq ?_)))
 refine wk_region [0, 0] rfl Kx ?_
 simp only [qy]
 refine rg_move ?_
 simp only [qz]
 refine rfb_lss rfl rfl rfl rfl ?_
 intro x h1
 obtain rfl : x = true := by (refine h1.symm.trans ?_; exact decide_eq_true Ox)
 clear h1
 simp only [qz]
 refine rg_nil (ek_next (wk_cond_t rfl (wk_seq ?_)))
 refine wk_region [0, 1, 0, 0, 1, 1] rfl Kx ?_
 simp only [qy]
 refine rf_loadR (n := 6) rfl rfl rfl Try.underlying105 rfl Kx (fun w hw => Kn.hd0 (Kn.tl hw)) rfl rfl ?_
 simp only [qz]
 apply rg_pure Rx Kx
 case hargs => exact Ax
 case h => exact fun w hw => w6neg_any m w
 case hz => exact Nz
 simp only [qz]
 refine rg_move ?_
 simp only [qz]
 refine rf_neg rfl rfl rfl (wrap_ok Ox Ox) ?_
 simp only [qz]
 apply rg_pure Rx Kx
 case hargs => exact Ax
 case h => exact fun w hw => w6times_pos (-m) (-n) Ox Ox w
 case hz => exact Nz
 simp only [qz]
 refine rf_storeR (n := 6) rfl rfl Kx rfl rfl (UpdR.here _ _ _ Nl) Nz ?_
 simp only [qz, Nat.reduceAdd]
 refine rg_nil (ek_next (wk_ret (ek_then_ret ?_)))
 refine ek_ret (fun w hw => ⟨rfl, _, run_results1 rfl rfl (Kn.hd0 hw) Try.underlying105 rfl Kx, ?_⟩)
 (try simp only [qz])
 exact ⟨by rw [show -m * -n = m * n by grind], hw.below⟩
theorem w6times_any (m n : Int) (h0 : -9223372036854775807 ≤ n) (h1 : n ≤ 9223372036854775807) (w : World) : Calls Try.prog 125 #[w6V (W6.of m), .int .i64 n] w fun e w' => e = .returned (w6V (W6.of (m * n))) ∧ Below w.heap.size w w' := by
 rcases Int.lt_or_le n 0 with h | h
 ·exact w6times_neg m n h h0 w
 exact w6times_pos m n h h1 w
theorem w6whole_any (n : Int) (h0 : -9223372036854775808 ≤ n) (h1 : n < 9223372036854775808) (w : World) : Calls Try.prog 86 #[.int .i64 n] w fun e w' => e = .returned (w6V (W6.of n)) ∧ Below w.heap.size w w' := by
 go_enter Try.func86, Try.ntmps86
 refine wk_start ?_
 refine wk_seq ?_
 refine wk_region [1] rfl Kx ?_
 simp only [qy]
 refine Rgn fun g1 => ?_
 simp only [qz]
 refine rg_nil (ek_next (wk_seq ?_))
 refine wk_region [0, 0, 0, 1, 1] rfl Kx ?_
 simp only [qy]
 refine rg_move ?_
 simp only [qz]
 refine rf_conv rfl rfl rfl Try.underlying3 Try.underlying103 (IntKind.wrap_u64 _) ?_
 simp only [qz]
 refine rf_build (cs := fun a => #[a.eval (.tmp 6), .int .u64 0, .int .u64 0, .int .u64 0, .int .u64 0, .int .u64 0]) rfl rfl Kx ?_
 simp only [qz]
 refine Rgn fun g2 => ?_
 simp only [qz]
 refine rf_storeR (n := 6) rfl rfl Kx rfl rfl (UpdR.here _ _ _ Nl) Nz ?_
 simp only [qz, Nat.reduceAdd]
 refine rg_nil (ek_next (wk_seq (wk_seq ?_)))
 refine wk_region [0, 0] rfl Kx ?_
 simp only [qy]
 refine rg_move ?_
 simp only [qz]
 refine rfb_lss rfl rfl rfl rfl ?_
 intro x h1
 cases x
 ·(try simp only [qd, ne_eq] at h1)
  simp only [qz]
  refine rg_nil (ek_next (wk_cond_f rfl (wk_skip (ek_next (wk_seq ?_)))))
  refine wk_region [0, 1] rfl Kx ?_
  simp only [qy]
  refine rf_loadR (n := 6) rfl rfl rfl Try.underlying105 rfl Kx (fun w hw => Kn.hd0 hw) rfl rfl ?_
  simp only [qz]
  refine rf_storeR (n := 6) rfl rfl Kx rfl rfl (UpdR.there _ (UpdR.here _ _ _ Nl)) Nz ?_
  simp only [qz, Nat.reduceAdd]
  refine rg_nil (ek_next (wk_ret ?_))
  refine ek_ret (fun w hw => ⟨rfl, _, run_results1 rfl rfl (Kn.hd0 (Kn.tl hw)) Try.underlying105 rfl Kx, ?_⟩)
  (try simp only [qz])
  exact ⟨by rw [W6.of_whole Ox Ox]; simp [*]; try omega, hw.below⟩
 (try simp only [qd, ne_eq] at h1)
 simp only [qz]
 refine rg_nil (ek_next (wk_cond_t rfl (wk_seq ?_)))
 refine wk_region [0] rfl Kx ?_
 simp only [qy]
 refine rg_assign ?_
 simp only [qz]
 refine rg_nil (ek_next (wk_block ?_))
 refine wk_unroll 6 ?_
 refine wk_seq (wk_seq ?_)
 refine wk_region [0, 0] rfl Kx ?_
 simp only [qy]
 refine rg_move ?_
 simp only [qz]
 refine rf_lss (b := true) rfl rfl rfl rfl (by decide) ?_
 simp only [qz]
 refine rg_nil (ek_next (wk_cond_t rfl (wk_skip (ek_next (wk_seq (wk_block ?_))))))
 refine wk_region [0, 0, 1] rfl Kx ?_
 simp only [qy]
 refine rg_move ?_
 simp only [qz]
 refine rf_indexA (n := 1) (sz := 1) (j := 1) rfl rfl rfl rfl Try.underlying105 Kx (by decide) rfl ?_
 simp only [qz]
 refine rf_store rfl rfl Kx rfl rfl (UpdR.here _ _ _ Nl) Nz ?_
 simp only [qz]
 refine rg_nil (ek_block (ek_next ?_))
 refine wk_region [0, 0, 0] rfl Kx ?_
 simp only [qy]
 refine rg_move ?_
 simp only [qz]
 refine rf_add (r := 2) rfl rfl rfl rfl (by decide) ?_
 simp only [qz]
 refine rg_assign ?_
 simp only [qz]
 refine rg_nil (ek_again (wk_seq (wk_seq ?_)))
 refine wk_region [0, 0] rfl Kx ?_
 simp only [qy]
 refine rg_move ?_
 simp only [qz]
 refine rf_lss (b := true) rfl rfl rfl rfl (by decide) ?_
 simp only [qz]
 refine rg_nil (ek_next (wk_cond_t rfl (wk_skip (ek_next (wk_seq (wk_block ?_))))))
 refine wk_region [0, 0, 1] rfl Kx ?_
 simp only [qy]
 refine rg_move ?_
 simp only [qz]
 refine rf_indexA (n := 2) (sz := 1) (j := 2) rfl rfl rfl rfl Try.underlying105 Kx (by decide) rfl ?_
 simp only [qz]
 refine rf_store rfl rfl Kx rfl rfl (UpdR.here _ _ _ Nl) Nz ?_
 simp only [qz]
 refine rg_nil (ek_block (ek_next ?_))
 refine wk_region [0, 0, 0] rfl Kx ?_
 simp only [qy]
 refine rg_move ?_
 simp only [qz]
 refine rf_add (r := 3) rfl rfl rfl rfl (by decide) ?_
 simp only [qz]
 refine rg_assign ?_
 simp only [qz]
 refine rg_nil (ek_again (wk_seq (wk_seq ?_)))
 refine wk_region [0, 0] rfl Kx ?_
 simp only [qy]
 refine rg_move ?_
 simp only [qz]
 refine rf_lss (b := true) rfl rfl rfl rfl (by decide) ?_
 simp only [qz]
 refine rg_nil (ek_next (wk_cond_t rfl (wk_skip (ek_next (wk_seq (wk_block ?_))))))
 refine wk_region [0, 0, 1] rfl Kx ?_
 simp only [qy]
 refine rg_move ?_
 simp only [qz]
 refine rf_indexA (n := 3) (sz := 1) (j := 3) rfl rfl rfl rfl Try.underlying105 Kx (by decide) rfl ?_
 simp only [qz]
 refine rf_store rfl rfl Kx rfl rfl (UpdR.here _ _ _ Nl) Nz ?_
 simp only [qz]
 refine rg_nil (ek_block (ek_next ?_))
 refine wk_region [0, 0, 0] rfl Kx ?_
 simp only [qy]
 refine rg_move ?_
 simp only [qz]
 refine rf_add (r := 4) rfl rfl rfl rfl (by decide) ?_
 simp only [qz]
 refine rg_assign ?_
 simp only [qz]
 refine rg_nil (ek_again (wk_seq (wk_seq ?_)))
 refine wk_region [0, 0] rfl Kx ?_
 simp only [qy]
 refine rg_move ?_
 simp only [qz]
 refine rf_lss (b := true) rfl rfl rfl rfl (by decide) ?_
 simp only [qz]
 refine rg_nil (ek_next (wk_cond_t rfl (wk_skip (ek_next (wk_seq (wk_block ?_))))))
 refine wk_region [0, 0, 1] rfl Kx ?_
 simp only [qy]
 refine rg_move ?_
 simp only [qz]
 refine rf_indexA (n := 4) (sz := 1) (j := 4) rfl rfl rfl rfl Try.underlying105 Kx (by decide) rfl ?_
 simp only [qz]
 refine rf_store rfl rfl Kx rfl rfl (UpdR.here _ _ _ Nl) Nz ?_
 simp only [qz]
 refine rg_nil (ek_block (ek_next ?_))
 refine wk_region [0, 0, 0] rfl Kx ?_
 simp only [qy]
 refine rg_move ?_
 simp only [qz]
 refine rf_add (r := 5) rfl rfl rfl rfl (by decide) ?_
 simp only [qz]
 refine rg_assign ?_
 simp only [qz]
 refine rg_nil (ek_again (wk_seq (wk_seq ?_)))
 refine wk_region [0, 0] rfl Kx ?_
 simp only [qy]
 refine rg_move ?_
 simp only [qz]
 refine rf_lss (b := true) rfl rfl rfl rfl (by decide) ?_
 simp only [qz]
 refine rg_nil (ek_next (wk_cond_t rfl (wk_skip (ek_next (wk_seq (wk_block ?_))))))
 refine wk_region [0, 0, 1] rfl Kx ?_
 simp only [qy]
 refine rg_move ?_
 simp only [qz]
 refine rf_indexA (n := 5) (sz := 1) (j := 5) rfl rfl rfl rfl Try.underlying105 Kx (by decide) rfl ?_
 simp only [qz]
 refine rf_store rfl rfl Kx rfl rfl (UpdR.here _ _ _ Nl) Nz ?_
 simp only [qz]
 refine rg_nil (ek_block (ek_next ?_))
 refine wk_region [0, 0, 0] rfl Kx ?_
 simp only [qy]
 refine rg_move ?_
 simp only [qz]
 refine rf_add (r := 6) rfl rfl rfl rfl (by decide) ?_
 simp only [qz]
 refine rg_assign ?_
 simp only [qz]
 refine rg_nil (ek_again (wk_seq (wk_seq ?_)))
 refine wk_region [0, 0] rfl Kx ?_
 simp only [qy]
 refine rg_move ?_
 simp only [qz]
 refine rf_lss (b := false) rfl rfl rfl rfl (by decide) ?_
 simp only [qz]
 refine rg_nil (ek_next (wk_cond_f rfl (wk_exit (ek_then_exit (ek_then_exit (ek_block_exit (ek_next (wk_seq ?_))))))))
 refine wk_region [0, 1] rfl Kx ?_
 simp only [qy]
 refine rf_loadR (n := 6) rfl rfl rfl Try.underlying105 rfl Kx (fun w hw => Kn.hd0 hw) rfl rfl ?_
 simp only [qz]
 refine rf_storeR (n := 6) rfl rfl Kx rfl rfl (UpdR.there _ (UpdR.here _ _ _ Nl)) Nz ?_
 simp only [qz, Nat.reduceAdd]
 refine rg_nil (ek_next (wk_ret ?_))
 refine ek_ret (fun w hw => ⟨rfl, _, run_results1 rfl rfl (Kn.hd0 (Kn.tl hw)) Try.underlying105 rfl Kx, ?_⟩)
 (try simp only [qz])
 exact ⟨by rw [W6.of_whole Ox Ox]; simp [*]; try omega, hw.below⟩
abbrev w6L (x : W6) : List Value := [.int .u64 x.w0, .int .u64 x.w1, .int .u64 x.w2, .int .u64 x.w3, .int .u64 x.w4, .int .u64 x.w5]
def smC (T : Nat → Int) : Array Value := (w6L (W6.of (T 0)) ++ (w6L (W6.of (T 1)) ++ (w6L (W6.of (T 2)) ++ w6L (W6.of (T 3))))).toArray
theorem sm_row {w : World} {g t m : Nat} {T : Nat → Int} (h : Hd w g t (smC T)) (hm : m < 4) : w.rangeAt g (0 + m * 6) (w6L (W6.of (T m))) := by
 have := cells_range h (0 + m * 6) 6
 have e : ((smC T).toList.drop (0 + m * 6)).take 6 = w6L (W6.of (T m)) := by
  rcases lt4 hm with rfl | rfl | rfl | rfl <;> rfl
 rwa [e] at this
theorem sm_idx {m : Nat} {T : Nat → Int} (hm : m < 4) : (smC T).extract (m * 6) (m * 6 + 6) = (w6L (W6.of (T m))).toArray := by
 rcases lt4 hm with rfl | rfl | rfl | rfl <;> rfl
theorem smX0 (x0 x1 x2 x3 y : W6) : setMany (w6L x0 ++ (w6L x1 ++ (w6L x2 ++ w6L x3))).toArray 0 (w6L y) = (w6L y ++ (w6L x1 ++ (w6L x2 ++ w6L x3))).toArray := by kernel_rfl
theorem smX1 (x0 x1 x2 x3 y : W6) : setMany (w6L x0 ++ (w6L x1 ++ (w6L x2 ++ w6L x3))).toArray 6 (w6L y) = (w6L x0 ++ (w6L y ++ (w6L x2 ++ w6L x3))).toArray := by kernel_rfl
theorem smX2 (x0 x1 x2 x3 y : W6) : setMany (w6L x0 ++ (w6L x1 ++ (w6L x2 ++ w6L x3))).toArray 12 (w6L y) = (w6L x0 ++ (w6L x1 ++ (w6L y ++ w6L x3))).toArray := by kernel_rfl
theorem smX3 (x0 x1 x2 x3 y : W6) : setMany (w6L x0 ++ (w6L x1 ++ (w6L x2 ++ w6L x3))).toArray 18 (w6L y) = (w6L x0 ++ (w6L x1 ++ (w6L x2 ++ w6L y))).toArray := by kernel_rfl
theorem sm_set {m : Nat} {T : Nat → Int} {t : Int} (hm : m < 4) : setMany (smC T) (0 + m * 6) (w6L (W6.of t)) = smC (upd T m t) := by
 unfold smC
 rcases lt4 hm with rfl | rfl | rfl | rfl
 ·rw [upd_same, upd_other T t (show 1 ≠ 0 by decide), upd_other T t (show 2 ≠ 0 by decide), upd_other T t (show 3 ≠ 0 by decide)]; exact smX0 ..
 ·rw [upd_same, upd_other T t (show 0 ≠ 1 by decide), upd_other T t (show 2 ≠ 1 by decide), upd_other T t (show 3 ≠ 1 by decide)]; exact smX1 ..
 ·rw [upd_same, upd_other T t (show 0 ≠ 2 by decide), upd_other T t (show 1 ≠ 2 by decide), upd_other T t (show 3 ≠ 2 by decide)]; exact smX2 ..
 rw [upd_same, upd_other T t (show 0 ≠ 3 by decide), upd_other T t (show 1 ≠ 3 by decide), upd_other T t (show 2 ≠ 3 by decide)]; exact smX3 ..
theorem sm_set' {m : Nat} {T : Nat → Int} {t : Int} (hm : m < 4) : ((((((smC T).setIfInBounds (0 + m * 6) (.int .u64 (W6.of t).w0)).setIfInBounds (0 + m * 6 + 1) (.int .u64 (W6.of t).w1)).setIfInBounds (0 + m * 6 + 1 + 1) (.int .u64 (W6.of t).w2)).setIfInBounds (0 + m * 6 + 1 + 1 + 1) (.int .u64 (W6.of t).w3)).setIfInBounds
    (0 + m * 6 + 1 + 1 + 1 + 1) (.int .u64 (W6.of t).w4)).setIfInBounds (0 + m * 6 + 1 + 1 + 1 + 1 + 1) (.int .u64 (W6.of t).w5) = smC (upd T m t) := by rw [← sm_set hm]; simp only [setMany]
theorem w6_zero : W6.of 0 = ⟨0, 0, 0, 0, 0, 0⟩ := by decide
theorem sm_zero : (#[.int .u64 0, .int .u64 0, .int .u64 0, .int .u64 0, .int .u64 0, .int .u64 0, .int .u64 0, .int .u64 0, .int .u64 0, .int .u64 0, .int .u64 0, .int .u64 0, .int .u64 0, .int .u64 0, .int .u64 0, .int .u64 0, .int .u64 0, .int .u64 0, .int .u64 0, .int .u64 0, .int .u64 0, .int .u64 0, .int .u64 0, .int .u64 0] : Array Value) = smC (fun _ => 0) := by
 unfold smC
 rw [w6_zero]
 rfl
theorem sm_all {w : World} {g t : Nat} {T : Nat → Int} (h : Hd w g t (smC T)) : w.rangeAt g 0 (smC T).toList := by
 have := cells_range h 0 24
 have e : ((smC T).toList.drop 0).take 24 = (smC T).toList := rfl
 rwa [e] at this
theorem smC_congr {T T' : Nat → Int} (h : ∀ m, m < 4 → T m = T' m) : smC T = smC T' := by
 unfold smC
 rw [h 0 (by decide), h 1 (by decide), h 2 (by decide), h 3 (by decide)]
def pls (X Y : Nat → Int) (i m : Nat) : Int := if m < i then X m + Y m else X m
theorem pls_step (X Y : Nat → Int) (i : Nat) : upd (pls X Y i) i (X i + Y i) = pls X Y (i + 1) := by
 funext m
 unfold upd pls
 by_cases h : m = i
 ·subst h; rw [if_pos rfl, if_pos Ox]
 rw [if_neg h]
 by_cases h2 : m < i
 ·rw [if_pos h2, if_pos Ox]
 rw [if_neg h2, if_neg Ox]
theorem pls_at (X Y : Nat → Int) (i : Nat) : pls X Y i i = X i := if_neg Ox
theorem pls_0 (X Y : Nat → Int) : pls X Y 0 = X := by funext m; exact if_neg Ox
theorem pls_4 (X Y : Nat → Int) : smC (pls X Y 4) = smC (fun m => X m + Y m) := smC_congr fun m hm => if_pos hm
theorem sm_whole {T : Nat → Int} : setMany (#[.int .u64 0, .int .u64 0, .int .u64 0, .int .u64 0, .int .u64 0, .int .u64 0, .int .u64 0, .int .u64 0, .int .u64 0, .int .u64 0, .int .u64 0, .int .u64 0, .int .u64 0, .int .u64 0, .int .u64 0, .int .u64 0, .int .u64 0, .int .u64 0, .int .u64 0, .int .u64 0, .int .u64 0, .int .u64 0, .int .u64 0, .int .u64 0] : Array Value) 0 (smC T).toList = smC T := by kernel_rfl
theorem smplus_any (X Y : Nat → Int) (w : World) : Calls Try.prog 83 #[.agg (smC X), .agg (smC Y)] w fun e w' => e = .returned (.agg (smC (fun m => X m + Y m))) ∧ Below w.heap.size w w' := by
 rw [show smC X = smC (pls X Y 0) by rw [pls_0]]
 go_enter Try.func83, Try.ntmps83
 refine wk_start ?_
 refine wk_seq ?_
 refine wk_region [1, 1, 1] rfl Kx ?_
 simp only [qy]
 refine Rgn fun g1 => ?_
 simp only [qz]
 refine Rgn fun g2 => ?_
 simp only [qz]
 refine Rgn fun g3 => ?_
 simp only [qz]
 refine rg_nil (ek_next (wk_seq (wk_seq ?_)))
 refine wk_region [0] rfl Kx ?_
 simp only [qy]
 refine rg_move ?_
 simp only [qz]
 refine rg_nil (ek_next (wk_block ?_))
 refine wk_loopF [5, 6, 7, 8, 9, 10, 11, 12, 13, 14, 15, 16, 17, 18] (fun mz f s => ∃ (i : Nat), f 6 = .int .i64 i ∧ s = ((g3, .cells #[.int .u64 0, .int .u64 0, .int .u64 0, .int .u64 0, .int .u64 0, .int .u64 0, .int .u64 0, .int .u64 0, .int .u64 0, .int .u64 0, .int .u64 0, .int .u64 0, .int .u64 0, .int .u64 0, .int .u64 0, .int .u64 0, .int .u64 0, .int .u64 0, .int .u64 0, .int .u64 0, .int .u64 0, .int .u64 0, .int .u64 0, .int .u64 0] 107) :: ((g2, .cells (smC Y) 107) :: ((g1, .cells (smC (pls X Y i)) 107) :: []))) ∧ mz = 4 - i ∧ i ≤ 4) ((fun (i : Nat) => 4 - i) (0)) ?_ Kx ?_
 ·exact ⟨0, rfl, rfl, rfl, by omega⟩
 rintro mz f1 s ⟨i, hs1_6, rfl, hn, hd1⟩
 simp only [Act.putF, List.foldl_cons, List.foldl_nil, hs1_6, Act.put, Act.eval, q1, q2, q3, q4, q5, q6, q7, q8, q9, q10, q11, q12, q13, q14, q15, q16, q17, q18, Nat.reduceAdd, Bool.not_true, Bool.not_false]
 clear hs1_6
 refine wk_seq ?_
 refine wk_region [0] rfl Kx ?_
 simp only [qy]
 refine rfb_lss rfl rfl rfl rfl ?_
 intro x h1
 cases x
 ·(try simp only [qd, ne_eq] at h1)
  simp only [qz]
  refine rg_nil (ek_next (wk_seq (wk_cond_f rfl (wk_exit (ek_then_exit (ek_then_exit (ek_block_exit (ek_next (wk_seq ?_)))))))))
  obtain rfl : i = 4 := by omega
  refine wk_region [0, 1] rfl Kx ?_
  simp only [qy]
  refine rf_loadC (n := 24) (vs := (smC (pls X Y 4)).toList) rfl rfl rfl Try.underlying107 rfl Kx rfl (fun w hw => sm_all (Kn.hd0 (Kn.tl (Kn.tl hw)))) ?_
  simp only [qz]
  refine rf_storeR (n := 24) (vs := (smC (pls X Y 4)).toList) rfl rfl Kx rfl rfl (UpdR.here _ _ _ Nl) Nz ?_
  rw [sm_whole]
  simp only [qz]
  refine rg_nil (ek_next (wk_ret ?_))
  refine ek_ret (fun w hw => ⟨rfl, _, run_results1 rfl rfl (Kn.hd0 hw) Try.underlying107 rfl Kx, ?_⟩)
  (try simp only [qz])
  exact ⟨by rw [← pls_4], hw.below⟩
 (try simp only [qd, ne_eq] at h1)
 simp only [qz]
 refine rg_nil (ek_next (wk_seq (wk_cond_t rfl (wk_skip (ek_next (wk_seq (wk_block (wk_seq ?_))))))))
 refine wk_region [0, 0] rfl Kx ?_
 simp only [qy]
 refine rg_move ?_
 simp only [qz]
 refine rg_assign ?_
 simp only [qz]
 refine rg_nil (ek_next ?_)
 refine wk_draws_m (hz1 := (sc _ (sc _ (sk _ sn)))) [(0, 0), (1, 0), (2, 0), (3, 0), (4, 0), (5, 0), (6, 0), (7, 1), (8, 0), (9, 2)] 9 Kx Kx (fun c d v a w h => by cases d <;> exact h) ?_
 simp only [List.map_cons, List.map_nil, List.getD_cons_zero, List.getD_cons_succ]
 refine rg_move ?_
 simp only [qz]
 refine rg_move ?_
 simp only [qz]
 refine rf_indexA (n := i) (sz := 6) (j := 0 + i * 6) rfl rfl rfl rfl Try.underlying107 Kx Ox rfl ?_
 simp only [qz]
 refine rf_loadC (n := 6) (vs := w6L (W6.of ((pls X Y i) i))) rfl rfl rfl Try.underlying105 rfl Kx rfl (fun w hw => sm_row (Kn.hd0 (Kn.tl (Kn.tl hw))) Ox) ?_
 simp only [qz]
 refine rg_move ?_
 simp only [qz]
 refine rf_indexA (n := i) (sz := 6) (j := 0 + i * 6) rfl rfl rfl rfl Try.underlying107 Kx Ox rfl ?_
 simp only [qz]
 refine rf_loadC (n := 6) (vs := w6L (W6.of (Y i))) rfl rfl rfl Try.underlying105 rfl Kx rfl (fun w hw => sm_row (Kn.hd0 (Kn.tl hw)) Ox) ?_
 simp only [qz]
 apply rg_pure Rx Kx
 case hargs => exact Ax
 case h => exact fun w hw => by have := w6add_any (pls X Y i i) (Y i) w; rw [pls_at] at this; rw [pls_at]; exact this
 case hz => exact (fun _ h => by cases h; exact (sc _ (sc _ (sc _ sn))))
 simp only [qz]
 refine rf_indexA (n := i) (sz := 6) (j := 0 + i * 6) rfl rfl rfl rfl Try.underlying107 Kx Ox rfl ?_
 simp only [qz]
 refine rf_storeRM (n := 6) (vs := w6L (W6.of (X i + Y i))) rfl rfl Kx rfl rfl (UpdR.there _ (UpdR.there _ (UpdR.here _ _ _ (show 0 + i * 6 + 6 ≤ 24 by omega)))) (sc _ (sc _ (sk _ sn))) ?_
 simp only [qz, Nat.reduceAdd]
 refine rg_nil (ek_block (ek_next ?_))
 refine wk_region [0, 0] rfl Kx ?_
 simp only [qy]
 refine rf_add rfl rfl rfl rfl (wrap_ok Ox Ox) ?_
 simp only [qz]
 refine rg_move ?_
 simp only [qz]
 refine rg_nil ?_
 refine ek_roundF (4 - (i + 1)) Ox Kx ?_
 exact ⟨i + 1, rfl, (by rw [sm_set' Ox, pls_step]), by rfl, by omega⟩
theorem ar_idx {Y : Nat → Int} {k : Nat} (h : k < 4) : (#[.int .i64 (Y 0), .int .i64 (Y 1), .int .i64 (Y 2), .int .i64 (Y 3)] : Array Value)[k]? = some (.int .i64 (Y k)) := by
 rcases lt4 h with rfl | rfl | rfl | rfl <;> rfl
theorem smtimes_any (X Y : Nat → Int) (hY : ∀ k, k < 4 → -9223372036854775807 ≤ Y k ∧ Y k ≤ 9223372036854775807) (w : World) : Calls Try.prog 85 #[.agg (smC X), .agg #[.int .i64 (Y 0), .int .i64 (Y 1), .int .i64 (Y 2), .int .i64 (Y 3)]] w fun e w' => e = .returned (.agg (smC (acc X Y 16))) ∧ Below w.heap.size w w' := by
 go_enter Try.func85, Try.ntmps85
 refine wk_start ?_
 refine wk_seq ?_
 refine wk_region [1, 1, 1] rfl Kx ?_
 simp only [qy]
 refine Rgn fun g1 => ?_
 simp only [qz]
 refine Rgn fun g2 => ?_
 simp only [qz]
 refine Rgn fun g3 => ?_
 simp only [qz]
 refine rg_nil (ek_next (wk_seq ?_))
 refine wk_region [1] rfl Kx ?_
 simp only [qy]
 refine Rgn fun g4 => ?_
 simp only [qz]
 refine rg_nil (ek_next (wk_seq (wk_seq ?_)))
 have hz24 := sm_zero
 rw [show ([(g4, Obj.cells (#[.int .u64 0, .int .u64 0, .int .u64 0, .int .u64 0, .int .u64 0, .int .u64 0, .int .u64 0, .int .u64 0, .int .u64 0, .int .u64 0, .int .u64 0, .int .u64 0, .int .u64 0, .int .u64 0, .int .u64 0, .int .u64 0, .int .u64 0, .int .u64 0, .int .u64 0, .int .u64 0, .int .u64 0, .int .u64 0, .int .u64 0, .int .u64 0]) 107), (g3, Obj.cells (#[.int .u64 0, .int .u64 0, .int .u64 0, .int .u64 0, .int .u64 0, .int .u64 0, .int .u64 0, .int .u64 0, .int .u64 0, .int .u64 0, .int .u64 0, .int .u64 0, .int .u64 0, .int .u64 0, .int .u64 0, .int .u64 0, .int .u64 0, .int .u64 0, .int .u64 0, .int .u64 0, .int .u64 0, .int .u64 0, .int .u64 0, .int .u64 0]) 107), (g2, Obj.cells (#[.int .i64 (Y 0), .int .i64 (Y 1), .int .i64 (Y 2), .int .i64 (Y 3)]) 27), (g1, Obj.cells (smC X) 107)] : List Blk) = [(g4, Obj.cells (smC fun _ => 0) 107), (g3, Obj.cells (#[.int .u64 0, .int .u64 0, .int .u64 0, .int .u64 0, .int .u64 0, .int .u64 0, .int .u64 0, .int .u64 0, .int .u64 0, .int .u64 0, .int .u64 0, .int .u64 0, .int .u64 0, .int .u64 0, .int .u64 0, .int .u64 0, .int .u64 0, .int .u64 0, .int .u64 0, .int .u64 0, .int .u64 0, .int .u64 0, .int .u64 0, .int .u64 0]) 107), (g2, Obj.cells (#[.int .i64 (Y 0), .int .i64 (Y 1), .int .i64 (Y 2), .int .i64 (Y 3)]) 27), (g1, Obj.cells (smC X) 107)] from congrArg (fun c => [(g4, Obj.cells c 107), (g3, Obj.cells (#[.int .u64 0, .int .u64 0, .int .u64 0, .int .u64 0, .int .u64 0, .int .u64 0, .int .u64 0, .int .u64 0, .int .u64 0, .int .u64 0, .int .u64 0, .int .u64 0, .int .u64 0, .int .u64 0, .int .u64 0, .int .u64 0, .int .u64 0, .int .u64 0, .int .u64 0, .int .u64 0, .int .u64 0, .int .u64 0, .int .u64 0, .int .u64 0]) 107), (g2, Obj.cells (#[.int .i64 (Y 0), .int .i64 (Y 1), .int .i64 (Y 2), .int .i64 (Y 3)]) 27), (g1, Obj.cells (smC X) 107)]) hz24]
 clear hz24
 refine wk_region [0, 0] rfl Kx ?_
 simp only [qy]
 refine rf_loadC (n := 24) (vs := (smC X).toList) rfl rfl rfl Try.underlying107 rfl Kx rfl (fun w hw => sm_all (Kn.hd0 (Kn.tl (Kn.tl (Kn.tl hw))))) ?_
 rw [show (smC X).toList.toArray = smC X by simp]
 simp only [qz]
 refine rg_move ?_
 simp only [qz]
 refine rg_nil (ek_next (wk_block ?_))
 refine wk_loopF [6, 7, 8, 9, 11, 12, 13, 14, 15, 16, 17, 18, 19, 20, 21, 22, 23, 24, 25, 26, 27, 28, 29, 30, 31, 32, 33, 34, 35, 36, 37, 38, 39, 40, 41, 42] (fun mz f s => ∃ (i : Nat) (T : Nat → Int), f 11 = .int .i64 i ∧ s = ((g4, .cells (smC T) 107) :: ((g3, .cells #[.int .u64 0, .int .u64 0, .int .u64 0, .int .u64 0, .int .u64 0, .int .u64 0, .int .u64 0, .int .u64 0, .int .u64 0, .int .u64 0, .int .u64 0, .int .u64 0, .int .u64 0, .int .u64 0, .int .u64 0, .int .u64 0, .int .u64 0, .int .u64 0, .int .u64 0, .int .u64 0, .int .u64 0, .int .u64 0, .int .u64 0, .int .u64 0] 107) :: ((g2, .cells #[.int .i64 (Y 0), .int .i64 (Y 1), .int .i64 (Y 2), .int .i64 (Y 3)] 27) :: ((g1, .cells (smC X) 107) :: [])))) ∧ mz = 4 - i ∧ i ≤ 4 ∧ Hid (acc X Y (i * 4) = T)) ((fun (i : Nat) (T : Nat → Int) => 4 - i) (0) (fun _ => 0)) ?_ Kx ?_
 ·exact ⟨0, fun _ => 0, rfl, rfl, rfl, by omega, (Lib.hid rfl)⟩
 rintro mz f1 s ⟨i, T, hs1_11, rfl, hn, hd1, hd2⟩
 simp only [Act.putF, List.foldl_cons, List.foldl_nil, hs1_11, Act.put, Act.eval, q1, q2, q3, q4, q5, q6, q7, q8, q9, q10, q11, q12, q13, q14, q15, q16, q17, q18, Nat.reduceAdd, Bool.not_true, Bool.not_false]
 clear hs1_11
 have hac := hd2
 clear hd2
 refine wk_seq ?_
 refine wk_region [0] rfl Kx ?_
 simp only [qy]
 refine rfb_lss rfl rfl rfl rfl ?_
 intro x h1
 cases x
 ·(try simp only [qd, ne_eq] at h1)
  simp only [qz]
  refine rg_nil (ek_next (wk_seq (wk_cond_f rfl (wk_exit (ek_then_exit (ek_then_exit (ek_block_exit (ek_next (wk_seq ?_)))))))))
  obtain rfl : i = 4 := by omega
  refine wk_region [0, 1] rfl Kx ?_
  simp only [qy]
  refine rf_loadC (n := 24) (vs := (smC T).toList) rfl rfl rfl Try.underlying107 rfl Kx rfl (fun w hw => sm_all (Kn.hd0 hw)) ?_
  simp only [qz]
  refine rf_storeR (n := 24) (vs := (smC T).toList) rfl rfl Kx rfl rfl (UpdR.there _ (UpdR.here _ _ _ Nl)) Nz ?_
  rw [sm_whole]
  simp only [qz]
  refine rg_nil (ek_next (wk_ret ?_))
  refine ek_ret (fun w hw => ⟨rfl, _, run_results1 rfl rfl (Kn.hd0 (Kn.tl hw)) Try.underlying107 rfl Kx, ?_⟩)
  (try simp only [qz])
  exact ⟨by rw [show acc X Y 16 = T from hac.out], hw.below⟩
 (try simp only [qd, ne_eq] at h1)
 simp only [qz]
 refine rg_nil (ek_next (wk_seq (wk_cond_t rfl (wk_skip (ek_next (wk_seq (wk_block (wk_seq ?_))))))))
 refine wk_region [0, 0, 1, 0, 1] rfl Kx ?_
 simp only [qy]
 refine rg_move ?_
 simp only [qz]
 refine rf_idxR (n := i) (sz := 6) rfl rfl rfl rfl Try.underlying107 Try.underlying105 rfl Kx Ox (sm_idx Ox) ?_
 simp only [qz]
 refine Rgn fun g5 => ?_
 simp only [qz]
 refine rg_assign ?_
 simp only [qz]
 refine rf_storeR (n := 6) rfl rfl Kx rfl rfl (UpdR.here _ _ _ Nl) Nz ?_
 simp only [qz, Nat.reduceAdd]
 refine rg_nil (ek_next (wk_seq ?_))
 refine wk_region [0, 0] rfl Kx ?_
 simp only [qy]
 refine rf_loadR (n := 4) rfl rfl rfl Try.underlying27 rfl Kx (fun w hw => Kn.hd0 (Kn.tl (Kn.tl (Kn.tl hw)))) rfl rfl ?_
 simp only [qz]
 refine rg_move ?_
 simp only [qz]
 refine rg_nil (ek_next (wk_block ?_))
 refine wk_loopF [8, 9, 16, 17, 18, 19, 20, 21, 22, 23, 24, 25, 26, 27, 28, 29, 30, 31, 32, 33, 34, 35, 36, 37, 38, 39, 40, 41] (fun mz f s => ∃ (k : Nat) (T2 : Nat → Int), f 16 = .int .i64 k ∧ s = ((g5, .cells (w6L (W6.of (X i))).toArray 105) :: ((g4, .cells (smC T2) 107) :: ((g3, .cells #[.int .u64 0, .int .u64 0, .int .u64 0, .int .u64 0, .int .u64 0, .int .u64 0, .int .u64 0, .int .u64 0, .int .u64 0, .int .u64 0, .int .u64 0, .int .u64 0, .int .u64 0, .int .u64 0, .int .u64 0, .int .u64 0, .int .u64 0, .int .u64 0, .int .u64 0, .int .u64 0, .int .u64 0, .int .u64 0, .int .u64 0, .int .u64 0] 107) :: ((g2, .cells #[.int .i64 (Y 0), .int .i64 (Y 1), .int .i64 (Y 2), .int .i64 (Y 3)] 27) :: ((g1, .cells (smC X) 107) :: []))))) ∧ mz = 4 - k ∧ k ≤ 4 ∧ Hid (acc X Y (i * 4 + k) = T2)) ((fun (k : Nat) (T2 : Nat → Int) => 4 - k) (0) (T)) ?_ Kx ?_
 ·exact ⟨0, T, rfl, rfl, rfl, by omega, hac⟩
 rintro mz f2 s ⟨k, T2, hs2_16, rfl, hn, he1, he2⟩
 simp only [Act.putF, List.foldl_cons, List.foldl_nil, hs2_16, Act.put, Act.eval, q1, q2, q3, q4, q5, q6, q7, q8, q9, q10, q11, q12, q13, q14, q15, q16, q17, q18, Nat.reduceAdd, Bool.not_true, Bool.not_false]
 clear hs2_16
 have hac2 := he2
 clear he2
 refine wk_seq ?_
 refine wk_region [0] rfl Kx ?_
 simp only [qy]
 refine rfb_lss rfl rfl rfl rfl ?_
 intro x h2
 cases x
 ·(try simp only [qd, ne_eq] at h2)
  simp only [qz]
  refine rg_nil (ek_next (wk_seq (wk_cond_f rfl (wk_exit (ek_then_exit (ek_then_exit (ek_block_exit (ek_block (ek_next ?_)))))))))
  refine wk_region [0, 0] rfl Kx ?_
  simp only [qy]
  refine rf_add rfl rfl rfl rfl (wrap_ok Ox Ox) ?_
  simp only [qz]
  refine rg_move ?_
  simp only [qz]
  refine rg_nil ?_
  obtain rfl : k = 4 := by omega
  have hac' : acc X Y ((i + 1) * 4) = T2 := by rw [← hac2.out]; congr 1; omega
  refine ek_sub (sk _ (sc _ (sc _ (sc _ (sc _ sn))))) ?_
  refine ek_roundF (4 - (i + 1)) Ox Kx ?_
  exact ⟨i + 1, T2, rfl, by rfl, by rfl, Ox, (Lib.hid hac')⟩
 (try simp only [qd, ne_eq] at h2)
 simp only [qz]
 have hyk := hY k Ox
 refine rg_nil (ek_next (wk_seq (wk_cond_t rfl (wk_skip (ek_next (wk_seq (wk_block (wk_seq ?_))))))))
 refine wk_region [0, 0, 0, 0] rfl Kx ?_
 simp only [qy]
 refine rg_move ?_
 simp only [qz]
 refine rf_idx1 (n := k) rfl rfl rfl rfl Try.underlying27 Try.underlying3 rfl Kx Ox (ar_idx Ox) ?_
 simp only [qz]
 refine rg_assign ?_
 simp only [qz]
 refine rg_assign ?_
 simp only [qz]
 refine rg_nil (ek_next (wk_seq (wk_seq ?_)))
 refine wk_region [0, 0, 0, 0] rfl Kx ?_
 simp only [qy]
 refine rg_move ?_
 simp only [qz]
 refine rg_move ?_
 simp only [qz]
 refine rf_add rfl rfl rfl rfl (wrap_ok Ox Ox) ?_
 simp only [qz]
 refine rfb_geq rfl rfl rfl rfl ?_
 intro x h3
 cases x
 ·(try simp only [qd, ne_eq] at h3)
  simp only [qz]
  refine rg_nil (ek_next (wk_cond_f rfl (wk_skip (ek_next ?_))))
  refine wk_draws_m (hz1 := (sc _ (sk _ (sc _ (sc _ (sc _ sn)))))) [(0, 0), (1, 0), (2, 0), (3, 0), (4, 0), (5, 0), (6, 0), (7, 0), (8, 0), (9, 0), (10, 0), (11, 0), (12, 1), (13, 1), (14, 0), (15, 2)] 15 Kx Kx (fun c d v a w h => by cases d <;> exact h) ?_
  simp only [List.map_cons, List.map_nil, List.getD_cons_zero, List.getD_cons_succ]
  refine rg_move ?_
  simp only [qz]
  refine rg_move ?_
  simp only [qz]
  refine rf_add rfl rfl rfl rfl (wrap_ok Ox Ox) ?_
  simp only [qz]
  refine rf_rem (r := (((i + k) % 4 : Nat) : Int)) rfl rfl rfl rfl (by decide) ((rem_ok Ox).trans Ox) ?_
  simp only [qz]
  refine rg_move ?_
  simp only [qz]
  refine rg_move ?_
  simp only [qz]
  refine rf_add rfl rfl rfl rfl (wrap_ok Ox Ox) ?_
  simp only [qz]
  refine rf_rem (r := (((i + k) % 4 : Nat) : Int)) rfl rfl rfl rfl (by decide) ((rem_ok Ox).trans Ox) ?_
  simp only [qz]
  refine rf_indexA (n := (i + k) % 4) (sz := 6) (j := 0 + ((i + k) % 4) * 6) rfl rfl rfl rfl Try.underlying107 Kx Ox rfl ?_
  simp only [qz]
  refine rf_loadC (n := 6) (vs := w6L (W6.of (T2 ((i + k) % 4)))) rfl rfl rfl Try.underlying105 rfl Kx rfl (fun w hw => sm_row (Kn.hd0 (Kn.tl hw)) Ox) ?_
  simp only [qz]
  refine rf_loadR (n := 6) rfl rfl rfl Try.underlying105 rfl Kx (fun w hw => Kn.hd0 hw) rfl rfl ?_
  simp only [qz]
  refine rg_move ?_
  simp only [qz]
  apply rg_pure Rx Kx
  case hargs => exact Ax
  case h => exact fun w hw => w6times_any (X i) (Y k) Ox Ox w
  case hz => exact (fun _ h => by cases h; exact (sc _ (sc _ (sc _ (sc _ (sc _ sn))))))
  simp only [qz]
  apply rg_pure Rx Kx
  case hargs => exact Ax
  case h => exact fun w hw => w6add_any (T2 ((i + k) % 4)) (X i * Y k) w
  case hz => exact (fun _ h => by cases h; exact (sc _ (sc _ (sc _ (sc _ (sc _ sn))))))
  simp only [qz]
  refine rf_indexA (n := (i + k) % 4) (sz := 6) (j := 0 + ((i + k) % 4) * 6) rfl rfl rfl rfl Try.underlying107 Kx Ox rfl ?_
  simp only [qz]
  refine rf_storeRM (n := 6) (vs := w6L (W6.of (T2 ((i + k) % 4) + X i * Y k))) rfl rfl Kx rfl rfl (UpdR.there _ (UpdR.here _ _ _ (show 0 + ((i + k) % 4) * 6 + 6 ≤ 24 by omega))) (sc _ (sk _ (sc _ (sc _ (sc _ sn))))) ?_
  simp only [qz, Nat.reduceAdd]
  refine rg_nil (ek_block (ek_next ?_))
  refine wk_region [0, 0] rfl Kx ?_
  simp only [qy]
  refine rf_add rfl rfl rfl rfl (wrap_ok Ox Ox) ?_
  simp only [qz]
  refine rg_move ?_
  simp only [qz]
  refine rg_nil ?_
  refine ek_roundF (4 - (k + 1)) Ox Kx ?_
  exact ⟨k + 1, upd T2 ((i + k) % 4) (T2 ((i + k) % 4) + X i * Y k), rfl, (by rw [sm_set' Ox]), by rfl, Ox, (Lib.hid (by rw [acc_step Ox hac2.out, if_neg Ox]))⟩
 (try simp only [qd, ne_eq] at h3)
 simp only [qz]
 refine rg_nil (ek_next (wk_cond_t rfl ?_))
 refine wk_region [0, 0, 0] rfl Kx ?_
 simp only [qy]
 refine rg_move ?_
 simp only [qz]
 refine rf_neg rfl rfl rfl (wrap_ok Ox Ox) ?_
 simp only [qz]
 refine rg_assign ?_
 simp only [qz]
 refine rg_nil (ek_next ?_)
 refine wk_draws_m (hz1 := (sc _ (sk _ (sc _ (sc _ (sc _ sn)))))) [(0, 0), (1, 0), (2, 0), (3, 0), (4, 0), (5, 0), (6, 0), (7, 0), (8, 0), (9, 0), (10, 0), (11, 0), (12, 1), (13, 1), (14, 0), (15, 2)] 15 Kx Kx (fun c d v a w h => by cases d <;> exact h) ?_
 simp only [List.map_cons, List.map_nil, List.getD_cons_zero, List.getD_cons_succ]
 refine rg_move ?_
 simp only [qz]
 refine rg_move ?_
 simp only [qz]
 refine rf_add rfl rfl rfl rfl (wrap_ok Ox Ox) ?_
 simp only [qz]
 refine rf_rem (r := (((i + k) % 4 : Nat) : Int)) rfl rfl rfl rfl (by decide) ((rem_ok Ox).trans Ox) ?_
 simp only [qz]
 refine rg_move ?_
 simp only [qz]
 refine rg_move ?_
 simp only [qz]
 refine rf_add rfl rfl rfl rfl (wrap_ok Ox Ox) ?_
 simp only [qz]
 refine rf_rem (r := (((i + k) % 4 : Nat) : Int)) rfl rfl rfl rfl (by decide) ((rem_ok Ox).trans Ox) ?_
 simp only [qz]
 refine rf_indexA (n := (i + k) % 4) (sz := 6) (j := 0 + ((i + k) % 4) * 6) rfl rfl rfl rfl Try.underlying107 Kx Ox rfl ?_
 simp only [qz]
 refine rf_loadC (n := 6) (vs := w6L (W6.of (T2 ((i + k) % 4)))) rfl rfl rfl Try.underlying105 rfl Kx rfl (fun w hw => sm_row (Kn.hd0 (Kn.tl hw)) Ox) ?_
 simp only [qz]
 refine rf_loadR (n := 6) rfl rfl rfl Try.underlying105 rfl Kx (fun w hw => Kn.hd0 hw) rfl rfl ?_
 simp only [qz]
 refine rg_move ?_
 simp only [qz]
 apply rg_pure Rx Kx
 case hargs => exact Ax
 case h => exact fun w hw => by have := w6times_any (X i) (-(Y k)) Ox Ox w; rw [Int.mul_neg] at this; exact this
 case hz => exact (fun _ h => by cases h; exact (sc _ (sc _ (sc _ (sc _ (sc _ sn))))))
 simp only [qz]
 apply rg_pure Rx Kx
 case hargs => exact Ax
 case h => exact fun w hw => w6add_any (T2 ((i + k) % 4)) (-(X i * Y k)) w
 case hz => exact (fun _ h => by cases h; exact (sc _ (sc _ (sc _ (sc _ (sc _ sn))))))
 simp only [qz]
 refine rf_indexA (n := (i + k) % 4) (sz := 6) (j := 0 + ((i + k) % 4) * 6) rfl rfl rfl rfl Try.underlying107 Kx Ox rfl ?_
 simp only [qz]
 refine rf_storeRM (n := 6) (vs := w6L (W6.of (T2 ((i + k) % 4) + -(X i * Y k)))) rfl rfl Kx rfl rfl (UpdR.there _ (UpdR.here _ _ _ (show 0 + ((i + k) % 4) * 6 + 6 ≤ 24 by omega))) (sc _ (sk _ (sc _ (sc _ (sc _ sn))))) ?_
 simp only [qz, Nat.reduceAdd]
 refine rg_nil (ek_block (ek_next ?_))
 refine wk_region [0, 0] rfl Kx ?_
 simp only [qy]
 refine rf_add rfl rfl rfl rfl (wrap_ok Ox Ox) ?_
 simp only [qz]
 refine rg_move ?_
 simp only [qz]
 refine rg_nil ?_
 refine ek_roundF (4 - (k + 1)) Ox Kx ?_
 exact ⟨k + 1, upd T2 ((i + k) % 4) (T2 ((i + k) % 4) + -(X i * Y k)), rfl, (by rw [sm_set' Ox]), by rfl, Ox, (Lib.hid (by rw [acc_step Ox hac2.out, if_pos Ox]))⟩
theorem sm_one : (#[.int .u64 (W6.of 1).w0, .int .u64 (W6.of 1).w1, .int .u64 (W6.of 1).w2, .int .u64 (W6.of 1).w3, .int .u64 (W6.of 1).w4, .int .u64 (W6.of 1).w5, .int .u64 0, .int .u64 0, .int .u64 0, .int .u64 0, .int .u64 0, .int .u64 0, .int .u64 0, .int .u64 0, .int .u64 0, .int .u64 0, .int .u64 0, .int .u64 0, .int .u64 0, .int .u64 0, .int .u64 0, .int .u64 0, .int .u64 0, .int .u64 0] : Array Value) = smC (sel4 1 0 0 0) := by
 unfold smC
 simp only [sel4]
 rw [w6_zero]
 rfl
theorem smone_any  (w : World) : Calls Try.prog 84 #[] w fun e w' => e = .returned (.agg (smC (sel4 1 0 0 0))) ∧ Below w.heap.size w w' := by
 go_enter Try.func84, Try.ntmps84
 refine wk_start ?_
 refine wk_seq ?_
 refine wk_region [1] rfl Kx ?_
 simp only [qy]
 refine Rgn fun g1 => ?_
 simp only [qz]
 refine rg_nil (ek_next (wk_seq ?_))
 refine wk_region [1, 0, 1] rfl Kx ?_
 simp only [qy]
 apply rg_pure Rx Kx
 case hargs => exact Ax
 case h => exact fun w hw => w6whole_any 1 (by decide) (by decide) w
 case hz => exact Nz
 simp only [qz]
 refine rf_build (cs := fun a => #[cellAt (a.eval (.tmp 1)) 0, cellAt (a.eval (.tmp 1)) 1, cellAt (a.eval (.tmp 1)) 2, cellAt (a.eval (.tmp 1)) 3, cellAt (a.eval (.tmp 1)) 4, cellAt (a.eval (.tmp 1)) 5, .int .u64 0, .int .u64 0, .int .u64 0, .int .u64 0, .int .u64 0, .int .u64 0, .int .u64 0, .int .u64 0, .int .u64 0, .int .u64 0, .int .u64 0, .int .u64 0, .int .u64 0, .int .u64 0, .int .u64 0, .int .u64 0, .int .u64 0, .int .u64 0]) rfl rfl Kx ?_
 simp only [qz]
 refine rf_storeR (n := 24) rfl rfl Kx rfl rfl (UpdR.here _ _ _ Nl) Nz ?_
 simp only [qz, Nat.reduceAdd]
 refine rg_nil (ek_next (wk_ret ?_))
 refine ek_ret (fun w hw => ⟨rfl, _, run_results1 rfl rfl (Kn.hd0 hw) Try.underlying107 rfl Kx, ?_⟩)
 (try simp only [qz])
 exact ⟨by rw [sm_one], hw.below⟩
theorem bit1 (x : Int) : bits .and .u64 x 1 = x % 2 := by
 show IntKind.u64.wrap ((BitVec.ofInt 64 x &&& BitVec.ofInt 64 1).toNat : Int) = _
 have h1 : (BitVec.ofInt 64 (1 : Int)).toNat = 2 ^ 1 - 1 := by decide
 rw [BitVec.toNat_and, h1, Nat.and_two_pow_sub_one_eq_mod, BitVec.toNat_ofInt, IntKind.wrap_u64]
 omega
theorem or_high {x y : Int} (hx : 0 ≤ x) (hx1 : x < 9223372036854775808) (hy : y = 0 ∨ y = 9223372036854775808) : bits .or .u64 x y = x + y := by
 show IntKind.u64.wrap ((BitVec.ofInt 64 x ||| BitVec.ofInt 64 y).toNat : Int) = _
 rcases hy with rfl | rfl
 ·rw [show BitVec.ofInt 64 (0 : Int) = 0#64 from rfl, BitVec.or_zero, BitVec.toNat_ofInt, IntKind.wrap_u64]
  omega
 have h1 : (BitVec.ofInt 64 (9223372036854775808 : Int)).toNat = 2 ^ 63 * 1 := by decide
 have h2 : (BitVec.ofInt 64 x).toNat = x.toNat := by rw [BitVec.toNat_ofInt]; omega
 have h3 : x.toNat < 2 ^ 63 := by omega
 rw [BitVec.toNat_or, h1, h2, Nat.or_comm, ← Nat.two_pow_add_eq_or_of_lt h3, IntKind.wrap_u64]
 omega
theorem w6half_any (m : Int) (hm : In384 m) (he : m % 2 = 0) (w : World) : Calls Try.prog 146 #[w6V (W6.of m)] w fun e w' => e = .returned (w6V (W6.of (m / 2))) ∧ Below w.heap.size w w' := by
 obtain ⟨⟨x0, x1, x2, x3, x4, x5⟩, hx⟩ : ∃ r, W6.of m = r := ⟨_, rfl⟩
 have wx := W6.of_wf m
 rw [hx] at wx
 obtain ⟨xa0, xb0, xa1, xb1, xa2, xb2, xa3, xb3, xa4, xb4, xa5, xb5⟩ := wx
 dsimp only at xa0 xb0 xa1 xb1 xa2 xb2 xa3 xb3 xa4 xb4 xa5 xb5
 have heq : (⟨x0 / 2 + x1 % 2 * 9223372036854775808, x1 / 2 + x2 % 2 * 9223372036854775808, x2 / 2 + x3 % 2 * 9223372036854775808, x3 / 2 + x4 % 2 * 9223372036854775808, x4 / 2 + x5 % 2 * 9223372036854775808, x5 / 2 + x5 / 9223372036854775808 * 9223372036854775808⟩ : W6) = W6.of (m / 2) := by (have := W6.half_eq hm he; rw [hx] at this; exact this)
 rw [hx]
 replace heq := Lib.hid heq
 clear hx hm he
 go_enter Try.func146, Try.ntmps146
 refine wk_start ?_
 refine wk_seq ?_
 refine wk_region [1, 1] rfl Kx ?_
 simp only [qy]
 refine Rgn fun g1 => ?_
 simp only [qz]
 refine Rgn fun g2 => ?_
 simp only [qz]
 refine rg_nil (ek_next (wk_seq (wk_seq ?_)))
 refine wk_region [0] rfl Kx ?_
 simp only [qy]
 refine rg_move ?_
 simp only [qz]
 refine rg_nil (ek_next (wk_block ?_))
 refine wk_unroll 6 ?_
 refine wk_seq ?_
 refine wk_region [0] rfl Kx ?_
 simp only [qy]
 refine rf_lss (b := true) rfl rfl rfl rfl (by decide) ?_
 simp only [qz]
 refine rg_nil (ek_next (wk_seq (wk_cond_t rfl (wk_skip (ek_next (wk_seq (wk_block (wk_seq ?_))))))))
 refine wk_region [0, 0] rfl Kx ?_
 simp only [qy]
 refine rg_move ?_
 simp only [qz]
 refine rg_assign ?_
 simp only [qz]
 refine rg_nil (ek_next (wk_seq ?_))
 refine wk_region [0, 0, 0, 0, 0, 0] rfl Kx ?_
 simp only [qy]
 refine rg_move ?_
 simp only [qz]
 refine rf_indexA (n := 0) (sz := 1) (j := 0) rfl rfl rfl rfl Try.underlying105 Kx (by decide) rfl ?_
 simp only [qz]
 refine rf_load rfl rfl rfl Try.underlying103 rfl (fun w hw => (Kn.hd0 (Kn.tl hw)).at rfl) ?_
 simp only [qz]
 refine rf_shr (c := 63) (q := 9223372036854775808) rfl rfl rfl rfl rfl (by decide) ?_
 simp only [qz]
 refine rf_shl (c := 63) (q := 9223372036854775808) (r := x0 / 9223372036854775808 * 9223372036854775808) rfl rfl rfl rfl rfl (by decide) (wrap_okU Ox Ox) ?_
 simp only [qz]
 refine rg_assign ?_
 simp only [qz]
 refine rg_nil (ek_next (wk_seq (wk_seq ?_)))
 refine wk_region [0, 0, 0] rfl Kx ?_
 simp only [qy]
 refine rg_move ?_
 simp only [qz]
 refine rf_add (r := 1) rfl rfl rfl rfl (by decide) ?_
 simp only [qz]
 refine rf_lss (b := true) rfl rfl rfl rfl (by decide) ?_
 simp only [qz]
 refine rg_nil (ek_next (wk_cond_t rfl ?_))
 refine wk_region [0, 0, 0, 0, 0, 0] rfl Kx ?_
 simp only [qy]
 refine rg_move ?_
 simp only [qz]
 refine rf_add (r := 1) rfl rfl rfl rfl (by decide) ?_
 simp only [qz]
 refine rf_indexA (n := 1) (sz := 1) (j := 1) rfl rfl rfl rfl Try.underlying105 Kx (by decide) rfl ?_
 simp only [qz]
 refine rf_load rfl rfl rfl Try.underlying103 rfl (fun w hw => (Kn.hd0 (Kn.tl hw)).at rfl) ?_
 simp only [qz]
 refine rf_shl (c := 63) (q := 9223372036854775808) (r := x1 % 2 * 9223372036854775808) rfl rfl rfl rfl rfl (by decide) ((IntKind.wrap_u64 _).trans Ox) ?_
 simp only [qz]
 refine rg_assign ?_
 simp only [qz]
 refine rg_nil (ek_next ?_)
 refine wk_region [0, 0, 0, 0, 0, 0, 0, 0, 1] rfl Kx ?_
 simp only [qy]
 refine rg_move ?_
 simp only [qz]
 refine rg_move ?_
 simp only [qz]
 refine rf_indexA (n := 0) (sz := 1) (j := 0) rfl rfl rfl rfl Try.underlying105 Kx (by decide) rfl ?_
 simp only [qz]
 refine rf_load rfl rfl rfl Try.underlying103 rfl (fun w hw => (Kn.hd0 (Kn.tl hw)).at rfl) ?_
 simp only [qz]
 refine rf_shr (c := 1) (q := 2) rfl rfl rfl rfl rfl (by decide) ?_
 simp only [qz]
 refine rg_move ?_
 simp only [qz]
 refine rf_or (r := x0 / 2 + x1 % 2 * 9223372036854775808) rfl rfl rfl rfl (or_high Ox Ox Ox) ?_
 simp only [qz]
 refine rf_indexA (n := 0) (sz := 1) (j := 0) rfl rfl rfl rfl Try.underlying105 Kx (by decide) rfl ?_
 simp only [qz]
 refine rf_store rfl rfl Kx rfl rfl (UpdR.there _ (UpdR.here _ _ _ Nl)) Nz ?_
 simp only [qz]
 refine rg_nil (ek_block (ek_next ?_))
 refine wk_region [0, 0] rfl Kx ?_
 simp only [qy]
 refine rf_add (r := 1) rfl rfl rfl rfl (by decide) ?_
 simp only [qz]
 refine rg_move ?_
 simp only [qz]
 refine rg_nil (ek_again (wk_seq ?_))
 refine wk_region [0] rfl Kx ?_
 simp only [qy]
 refine rf_lss (b := true) rfl rfl rfl rfl (by decide) ?_
 simp only [qz]
 refine rg_nil (ek_next (wk_seq (wk_cond_t rfl (wk_skip (ek_next (wk_seq (wk_block (wk_seq ?_))))))))
 refine wk_region [0, 0] rfl Kx ?_
 simp only [qy]
 refine rg_move ?_
 simp only [qz]
 refine rg_assign ?_
 simp only [qz]
 refine rg_nil (ek_next (wk_seq ?_))
 refine wk_region [0, 0, 0, 0, 0, 0] rfl Kx ?_
 simp only [qy]
 refine rg_move ?_
 simp only [qz]
 refine rf_indexA (n := 1) (sz := 1) (j := 1) rfl rfl rfl rfl Try.underlying105 Kx (by decide) rfl ?_
 simp only [qz]
 refine rf_load rfl rfl rfl Try.underlying103 rfl (fun w hw => (Kn.hd0 (Kn.tl hw)).at rfl) ?_
 simp only [qz]
 refine rf_shr (c := 63) (q := 9223372036854775808) rfl rfl rfl rfl rfl (by decide) ?_
 simp only [qz]
 refine rf_shl (c := 63) (q := 9223372036854775808) (r := x1 / 9223372036854775808 * 9223372036854775808) rfl rfl rfl rfl rfl (by decide) (wrap_okU Ox Ox) ?_
 simp only [qz]
 refine rg_assign ?_
 simp only [qz]
 refine rg_nil (ek_next (wk_seq (wk_seq ?_)))
 refine wk_region [0, 0, 0] rfl Kx ?_
 simp only [qy]
 refine rg_move ?_
 simp only [qz]
 refine rf_add (r := 2) rfl rfl rfl rfl (by decide) ?_
 simp only [qz]
 refine rf_lss (b := true) rfl rfl rfl rfl (by decide) ?_
 simp only [qz]
 refine rg_nil (ek_next (wk_cond_t rfl ?_))
 refine wk_region [0, 0, 0, 0, 0, 0] rfl Kx ?_
 simp only [qy]
 refine rg_move ?_
 simp only [qz]
 refine rf_add (r := 2) rfl rfl rfl rfl (by decide) ?_
 simp only [qz]
 refine rf_indexA (n := 2) (sz := 1) (j := 2) rfl rfl rfl rfl Try.underlying105 Kx (by decide) rfl ?_
 simp only [qz]
 refine rf_load rfl rfl rfl Try.underlying103 rfl (fun w hw => (Kn.hd0 (Kn.tl hw)).at rfl) ?_
 simp only [qz]
 refine rf_shl (c := 63) (q := 9223372036854775808) (r := x2 % 2 * 9223372036854775808) rfl rfl rfl rfl rfl (by decide) ((IntKind.wrap_u64 _).trans Ox) ?_
 simp only [qz]
 refine rg_assign ?_
 simp only [qz]
 refine rg_nil (ek_next ?_)
 refine wk_region [0, 0, 0, 0, 0, 0, 0, 0, 1] rfl Kx ?_
 simp only [qy]
 refine rg_move ?_
 simp only [qz]
 refine rg_move ?_
 simp only [qz]
 refine rf_indexA (n := 1) (sz := 1) (j := 1) rfl rfl rfl rfl Try.underlying105 Kx (by decide) rfl ?_
 simp only [qz]
 refine rf_load rfl rfl rfl Try.underlying103 rfl (fun w hw => (Kn.hd0 (Kn.tl hw)).at rfl) ?_
 simp only [qz]
 refine rf_shr (c := 1) (q := 2) rfl rfl rfl rfl rfl (by decide) ?_
 simp only [qz]
 refine rg_move ?_
 simp only [qz]
 refine rf_or (r := x1 / 2 + x2 % 2 * 9223372036854775808) rfl rfl rfl rfl (or_high Ox Ox Ox) ?_
 simp only [qz]
 refine rf_indexA (n := 1) (sz := 1) (j := 1) rfl rfl rfl rfl Try.underlying105 Kx (by decide) rfl ?_
 simp only [qz]
 refine rf_store rfl rfl Kx rfl rfl (UpdR.there _ (UpdR.here _ _ _ Nl)) Nz ?_
 simp only [qz]
 refine rg_nil (ek_block (ek_next ?_))
 refine wk_region [0, 0] rfl Kx ?_
 simp only [qy]
 refine rf_add (r := 2) rfl rfl rfl rfl (by decide) ?_
 simp only [qz]
 refine rg_move ?_
 simp only [qz]
 refine rg_nil (ek_again (wk_seq ?_))
 refine wk_region [0] rfl Kx ?_
 simp only [qy]
 refine rf_lss (b := true) rfl rfl rfl rfl (by decide) ?_
 simp only [qz]
 refine rg_nil (ek_next (wk_seq (wk_cond_t rfl (wk_skip (ek_next (wk_seq (wk_block (wk_seq ?_))))))))
 refine wk_region [0, 0] rfl Kx ?_
 simp only [qy]
 refine rg_move ?_
 simp only [qz]
 refine rg_assign ?_
 simp only [qz]
 refine rg_nil (ek_next (wk_seq ?_))
 refine wk_region [0, 0, 0, 0, 0, 0] rfl Kx ?_
 simp only [qy]
 refine rg_move ?_
 simp only [qz]
 refine rf_indexA (n := 2) (sz := 1) (j := 2) rfl rfl rfl rfl Try.underlying105 Kx (by decide) rfl ?_
 simp only [qz]
 refine rf_load rfl rfl rfl Try.underlying103 rfl (fun w hw => (Kn.hd0 (Kn.tl hw)).at rfl) ?_
 simp only [qz]
 refine rf_shr (c := 63) (q := 9223372036854775808) rfl rfl rfl rfl rfl (by decide) ?_
 simp only [qz]
 refine rf_shl (c := 63) (q := 9223372036854775808) (r := x2 / 9223372036854775808 * 9223372036854775808) rfl rfl rfl rfl rfl (by decide) (wrap_okU Ox Ox) ?_
 simp only [qz]
 refine rg_assign ?_
 simp only [qz]
 refine rg_nil (ek_next (wk_seq (wk_seq ?_)))
 refine wk_region [0, 0, 0] rfl Kx ?_
 simp only [qy]
 refine rg_move ?_
 simp only [qz]
 refine rf_add (r := 3) rfl rfl rfl rfl (by decide) ?_
 simp only [qz]
 refine rf_lss (b := true) rfl rfl rfl rfl (by decide) ?_
 simp only [qz]
 refine rg_nil (ek_next (wk_cond_t rfl ?_))
 refine wk_region [0, 0, 0, 0, 0, 0] rfl Kx ?_
 simp only [qy]
 refine rg_move ?_
 simp only [qz]
 refine rf_add (r := 3) rfl rfl rfl rfl (by decide) ?_
 simp only [qz]
 refine rf_indexA (n := 3) (sz := 1) (j := 3) rfl rfl rfl rfl Try.underlying105 Kx (by decide) rfl ?_
 simp only [qz]
 refine rf_load rfl rfl rfl Try.underlying103 rfl (fun w hw => (Kn.hd0 (Kn.tl hw)).at rfl) ?_
 simp only [qz]
 refine rf_shl (c := 63) (q := 9223372036854775808) (r := x3 % 2 * 9223372036854775808) rfl rfl rfl rfl rfl (by decide) ((IntKind.wrap_u64 _).trans Ox) ?_
 simp only [qz]
 refine rg_assign ?_
 simp only [qz]
 refine rg_nil (ek_next ?_)
 refine wk_region [0, 0, 0, 0, 0, 0, 0, 0, 1] rfl Kx ?_
 simp only [qy]
 refine rg_move ?_
 simp only [qz]
 refine rg_move ?_
 simp only [qz]
 refine rf_indexA (n := 2) (sz := 1) (j := 2) rfl rfl rfl rfl Try.underlying105 Kx (by decide) rfl ?_
 simp only [qz]
 refine rf_load rfl rfl rfl Try.underlying103 rfl (fun w hw => (Kn.hd0 (Kn.tl hw)).at rfl) ?_
 simp only [qz]
 refine rf_shr (c := 1) (q := 2) rfl rfl rfl rfl rfl (by decide) ?_
 simp only [qz]
 refine rg_move ?_
 simp only [qz]
 refine rf_or (r := x2 / 2 + x3 % 2 * 9223372036854775808) rfl rfl rfl rfl (or_high Ox Ox Ox) ?_
 simp only [qz]
 refine rf_indexA (n := 2) (sz := 1) (j := 2) rfl rfl rfl rfl Try.underlying105 Kx (by decide) rfl ?_
 simp only [qz]
 refine rf_store rfl rfl Kx rfl rfl (UpdR.there _ (UpdR.here _ _ _ Nl)) Nz ?_
 simp only [qz]
 refine rg_nil (ek_block (ek_next ?_))
 refine wk_region [0, 0] rfl Kx ?_
 simp only [qy]
 refine rf_add (r := 3) rfl rfl rfl rfl (by decide) ?_
 simp only [qz]
 refine rg_move ?_
 simp only [qz]
 refine rg_nil (ek_again (wk_seq ?_))
 refine wk_region [0] rfl Kx ?_
 simp only [qy]
 refine rf_lss (b := true) rfl rfl rfl rfl (by decide) ?_
 simp only [qz]
 refine rg_nil (ek_next (wk_seq (wk_cond_t rfl (wk_skip (ek_next (wk_seq (wk_block (wk_seq ?_))))))))
 refine wk_region [0, 0] rfl Kx ?_
 simp only [qy]
 refine rg_move ?_
 simp only [qz]
 refine rg_assign ?_
 simp only [qz]
 refine rg_nil (ek_next (wk_seq ?_))
 refine wk_region [0, 0, 0, 0, 0, 0] rfl Kx ?_
 simp only [qy]
 refine rg_move ?_
 simp only [qz]
 refine rf_indexA (n := 3) (sz := 1) (j := 3) rfl rfl rfl rfl Try.underlying105 Kx (by decide) rfl ?_
 simp only [qz]
 refine rf_load rfl rfl rfl Try.underlying103 rfl (fun w hw => (Kn.hd0 (Kn.tl hw)).at rfl) ?_
 simp only [qz]
 refine rf_shr (c := 63) (q := 9223372036854775808) rfl rfl rfl rfl rfl (by decide) ?_
 simp only [qz]
 refine rf_shl (c := 63) (q := 9223372036854775808) (r := x3 / 9223372036854775808 * 9223372036854775808) rfl rfl rfl rfl rfl (by decide) (wrap_okU Ox Ox) ?_
 simp only [qz]
 refine rg_assign ?_
 simp only [qz]
 refine rg_nil (ek_next (wk_seq (wk_seq ?_)))
 refine wk_region [0, 0, 0] rfl Kx ?_
 simp only [qy]
 refine rg_move ?_
 simp only [qz]
 refine rf_add (r := 4) rfl rfl rfl rfl (by decide) ?_
 simp only [qz]
 refine rf_lss (b := true) rfl rfl rfl rfl (by decide) ?_
 simp only [qz]
 refine rg_nil (ek_next (wk_cond_t rfl ?_))
 refine wk_region [0, 0, 0, 0, 0, 0] rfl Kx ?_
 simp only [qy]
 refine rg_move ?_
 simp only [qz]
 refine rf_add (r := 4) rfl rfl rfl rfl (by decide) ?_
 simp only [qz]
 refine rf_indexA (n := 4) (sz := 1) (j := 4) rfl rfl rfl rfl Try.underlying105 Kx (by decide) rfl ?_
 simp only [qz]
 refine rf_load rfl rfl rfl Try.underlying103 rfl (fun w hw => (Kn.hd0 (Kn.tl hw)).at rfl) ?_
 simp only [qz]
 refine rf_shl (c := 63) (q := 9223372036854775808) (r := x4 % 2 * 9223372036854775808) rfl rfl rfl rfl rfl (by decide) ((IntKind.wrap_u64 _).trans Ox) ?_
 simp only [qz]
 refine rg_assign ?_
 simp only [qz]
 refine rg_nil (ek_next ?_)
 refine wk_region [0, 0, 0, 0, 0, 0, 0, 0, 1] rfl Kx ?_
 simp only [qy]
 refine rg_move ?_
 simp only [qz]
 refine rg_move ?_
 simp only [qz]
 refine rf_indexA (n := 3) (sz := 1) (j := 3) rfl rfl rfl rfl Try.underlying105 Kx (by decide) rfl ?_
 simp only [qz]
 refine rf_load rfl rfl rfl Try.underlying103 rfl (fun w hw => (Kn.hd0 (Kn.tl hw)).at rfl) ?_
 simp only [qz]
 refine rf_shr (c := 1) (q := 2) rfl rfl rfl rfl rfl (by decide) ?_
 simp only [qz]
 refine rg_move ?_
 simp only [qz]
 refine rf_or (r := x3 / 2 + x4 % 2 * 9223372036854775808) rfl rfl rfl rfl (or_high Ox Ox Ox) ?_
 simp only [qz]
 refine rf_indexA (n := 3) (sz := 1) (j := 3) rfl rfl rfl rfl Try.underlying105 Kx (by decide) rfl ?_
 simp only [qz]
 refine rf_store rfl rfl Kx rfl rfl (UpdR.there _ (UpdR.here _ _ _ Nl)) Nz ?_
 simp only [qz]
 refine rg_nil (ek_block (ek_next ?_))
 refine wk_region [0, 0] rfl Kx ?_
 simp only [qy]
 refine rf_add (r := 4) rfl rfl rfl rfl (by decide) ?_
 simp only [qz]
 refine rg_move ?_
 simp only [qz]
 refine rg_nil (ek_again (wk_seq ?_))
 refine wk_region [0] rfl Kx ?_
 simp only [qy]
 refine rf_lss (b := true) rfl rfl rfl rfl (by decide) ?_
 simp only [qz]
 refine rg_nil (ek_next (wk_seq (wk_cond_t rfl (wk_skip (ek_next (wk_seq (wk_block (wk_seq ?_))))))))
 refine wk_region [0, 0] rfl Kx ?_
 simp only [qy]
 refine rg_move ?_
 simp only [qz]
 refine rg_assign ?_
 simp only [qz]
 refine rg_nil (ek_next (wk_seq ?_))
 refine wk_region [0, 0, 0, 0, 0, 0] rfl Kx ?_
 simp only [qy]
 refine rg_move ?_
 simp only [qz]
 refine rf_indexA (n := 4) (sz := 1) (j := 4) rfl rfl rfl rfl Try.underlying105 Kx (by decide) rfl ?_
 simp only [qz]
 refine rf_load rfl rfl rfl Try.underlying103 rfl (fun w hw => (Kn.hd0 (Kn.tl hw)).at rfl) ?_
 simp only [qz]
 refine rf_shr (c := 63) (q := 9223372036854775808) rfl rfl rfl rfl rfl (by decide) ?_
 simp only [qz]
 refine rf_shl (c := 63) (q := 9223372036854775808) (r := x4 / 9223372036854775808 * 9223372036854775808) rfl rfl rfl rfl rfl (by decide) (wrap_okU Ox Ox) ?_
 simp only [qz]
 refine rg_assign ?_
 simp only [qz]
 refine rg_nil (ek_next (wk_seq (wk_seq ?_)))
 refine wk_region [0, 0, 0] rfl Kx ?_
 simp only [qy]
 refine rg_move ?_
 simp only [qz]
 refine rf_add (r := 5) rfl rfl rfl rfl (by decide) ?_
 simp only [qz]
 refine rf_lss (b := true) rfl rfl rfl rfl (by decide) ?_
 simp only [qz]
 refine rg_nil (ek_next (wk_cond_t rfl ?_))
 refine wk_region [0, 0, 0, 0, 0, 0] rfl Kx ?_
 simp only [qy]
 refine rg_move ?_
 simp only [qz]
 refine rf_add (r := 5) rfl rfl rfl rfl (by decide) ?_
 simp only [qz]
 refine rf_indexA (n := 5) (sz := 1) (j := 5) rfl rfl rfl rfl Try.underlying105 Kx (by decide) rfl ?_
 simp only [qz]
 refine rf_load rfl rfl rfl Try.underlying103 rfl (fun w hw => (Kn.hd0 (Kn.tl hw)).at rfl) ?_
 simp only [qz]
 refine rf_shl (c := 63) (q := 9223372036854775808) (r := x5 % 2 * 9223372036854775808) rfl rfl rfl rfl rfl (by decide) ((IntKind.wrap_u64 _).trans Ox) ?_
 simp only [qz]
 refine rg_assign ?_
 simp only [qz]
 refine rg_nil (ek_next ?_)
 refine wk_region [0, 0, 0, 0, 0, 0, 0, 0, 1] rfl Kx ?_
 simp only [qy]
 refine rg_move ?_
 simp only [qz]
 refine rg_move ?_
 simp only [qz]
 refine rf_indexA (n := 4) (sz := 1) (j := 4) rfl rfl rfl rfl Try.underlying105 Kx (by decide) rfl ?_
 simp only [qz]
 refine rf_load rfl rfl rfl Try.underlying103 rfl (fun w hw => (Kn.hd0 (Kn.tl hw)).at rfl) ?_
 simp only [qz]
 refine rf_shr (c := 1) (q := 2) rfl rfl rfl rfl rfl (by decide) ?_
 simp only [qz]
 refine rg_move ?_
 simp only [qz]
 refine rf_or (r := x4 / 2 + x5 % 2 * 9223372036854775808) rfl rfl rfl rfl (or_high Ox Ox Ox) ?_
 simp only [qz]
 refine rf_indexA (n := 4) (sz := 1) (j := 4) rfl rfl rfl rfl Try.underlying105 Kx (by decide) rfl ?_
 simp only [qz]
 refine rf_store rfl rfl Kx rfl rfl (UpdR.there _ (UpdR.here _ _ _ Nl)) Nz ?_
 simp only [qz]
 refine rg_nil (ek_block (ek_next ?_))
 refine wk_region [0, 0] rfl Kx ?_
 simp only [qy]
 refine rf_add (r := 5) rfl rfl rfl rfl (by decide) ?_
 simp only [qz]
 refine rg_move ?_
 simp only [qz]
 refine rg_nil (ek_again (wk_seq ?_))
 refine wk_region [0] rfl Kx ?_
 simp only [qy]
 refine rf_lss (b := true) rfl rfl rfl rfl (by decide) ?_
 simp only [qz]
 refine rg_nil (ek_next (wk_seq (wk_cond_t rfl (wk_skip (ek_next (wk_seq (wk_block (wk_seq ?_))))))))
 refine wk_region [0, 0] rfl Kx ?_
 simp only [qy]
 refine rg_move ?_
 simp only [qz]
 refine rg_assign ?_
 simp only [qz]
 refine rg_nil (ek_next (wk_seq ?_))
 refine wk_region [0, 0, 0, 0, 0, 0] rfl Kx ?_
 simp only [qy]
 refine rg_move ?_
 simp only [qz]
 refine rf_indexA (n := 5) (sz := 1) (j := 5) rfl rfl rfl rfl Try.underlying105 Kx (by decide) rfl ?_
 simp only [qz]
 refine rf_load rfl rfl rfl Try.underlying103 rfl (fun w hw => (Kn.hd0 (Kn.tl hw)).at rfl) ?_
 simp only [qz]
 refine rf_shr (c := 63) (q := 9223372036854775808) rfl rfl rfl rfl rfl (by decide) ?_
 simp only [qz]
 refine rf_shl (c := 63) (q := 9223372036854775808) (r := x5 / 9223372036854775808 * 9223372036854775808) rfl rfl rfl rfl rfl (by decide) (wrap_okU Ox Ox) ?_
 simp only [qz]
 refine rg_assign ?_
 simp only [qz]
 refine rg_nil (ek_next (wk_seq (wk_seq ?_)))
 refine wk_region [0, 0, 0] rfl Kx ?_
 simp only [qy]
 refine rg_move ?_
 simp only [qz]
 refine rf_add (r := 6) rfl rfl rfl rfl (by decide) ?_
 simp only [qz]
 refine rf_lss (b := false) rfl rfl rfl rfl (by decide) ?_
 simp only [qz]
 refine rg_nil (ek_next (wk_cond_f rfl (wk_skip (ek_next ?_))))
 refine wk_region [0, 0, 0, 0, 0, 0, 0, 0, 1] rfl Kx ?_
 simp only [qy]
 refine rg_move ?_
 simp only [qz]
 refine rg_move ?_
 simp only [qz]
 refine rf_indexA (n := 5) (sz := 1) (j := 5) rfl rfl rfl rfl Try.underlying105 Kx (by decide) rfl ?_
 simp only [qz]
 refine rf_load rfl rfl rfl Try.underlying103 rfl (fun w hw => (Kn.hd0 (Kn.tl hw)).at rfl) ?_
 simp only [qz]
 refine rf_shr (c := 1) (q := 2) rfl rfl rfl rfl rfl (by decide) ?_
 simp only [qz]
 refine rg_move ?_
 simp only [qz]
 refine rf_or (r := x5 / 2 + x5 / 9223372036854775808 * 9223372036854775808) rfl rfl rfl rfl (or_high Ox Ox Ox) ?_
 simp only [qz]
 refine rf_indexA (n := 5) (sz := 1) (j := 5) rfl rfl rfl rfl Try.underlying105 Kx (by decide) rfl ?_
 simp only [qz]
 refine rf_store rfl rfl Kx rfl rfl (UpdR.there _ (UpdR.here _ _ _ Nl)) Nz ?_
 simp only [qz]
 refine rg_nil (ek_block (ek_next ?_))
 refine wk_region [0, 0] rfl Kx ?_
 simp only [qy]
 refine rf_add (r := 6) rfl rfl rfl rfl (by decide) ?_
 simp only [qz]
 refine rg_move ?_
 simp only [qz]
 refine rg_nil (ek_again (wk_seq ?_))
 refine wk_region [0] rfl Kx ?_
 simp only [qy]
 refine rf_lss (b := false) rfl rfl rfl rfl (by decide) ?_
 simp only [qz]
 refine rg_nil (ek_next (wk_seq (wk_cond_f rfl (wk_exit (ek_then_exit (ek_then_exit (ek_block_exit (ek_next (wk_seq ?_)))))))))
 refine wk_region [0, 1] rfl Kx ?_
 simp only [qy]
 refine rf_loadR (n := 6) rfl rfl rfl Try.underlying105 rfl Kx (fun w hw => Kn.hd0 (Kn.tl hw)) rfl rfl ?_
 simp only [qz]
 refine rf_storeR (n := 6) rfl rfl Kx rfl rfl (UpdR.here _ _ _ Nl) Nz ?_
 simp only [qz, Nat.reduceAdd]
 refine rg_nil (ek_next (wk_ret ?_))
 refine ek_ret (fun w hw => ⟨rfl, _, run_results1 rfl rfl (Kn.hd0 hw) Try.underlying105 rfl Kx, ?_⟩)
 (try simp only [qz])
 exact ⟨by rw [← heq.out] <;> rfl, hw.below⟩
theorem w6odd_any (m : Int) (w : World) : Calls Try.prog 144 #[w6V (W6.of m)] w fun e w' => e = .returned (.bool (decide (m % 2 = 1))) ∧ Below w.heap.size w w' := by
 go_enter Try.func144, Try.ntmps144
 refine wk_start ?_
 refine wk_seq ?_
 refine wk_region [1, 0] rfl Kx ?_
 simp only [qy]
 refine Rgn fun g1 => ?_
 simp only [qz]
 refine rg_assign ?_
 simp only [qz]
 refine rg_nil (ek_next (wk_seq ?_))
 refine wk_region [0, 0, 0, 0, 0] rfl Kx ?_
 simp only [qy]
 refine rf_indexA (n := 0) (sz := 1) (j := 0) rfl rfl rfl rfl Try.underlying105 Kx (by decide) rfl ?_
 simp only [qz]
 refine rf_load rfl rfl rfl Try.underlying103 rfl (fun w hw => (Kn.hd0 hw).at rfl) ?_
 simp only [qz]
 refine rf_and (r := (W6.of m).w0 % 2) rfl rfl rfl rfl (bit1 _) ?_
 simp only [qz]
 refine rf_eql rfl rfl rfl rfl rfl ?_
 simp only [qz]
 refine rg_assign ?_
 simp only [qz]
 refine rg_nil (ek_next (wk_ret ?_))
 refine ek_ret (fun w hw => ⟨rfl, _, res_t _ rfl, ?_⟩)
 (try simp only [qz])
 exact ⟨by rw [W6.odd_eq m], hw.below⟩
theorem w6_eqTop (x y : W6) (w : World) : (Op.equalIn 10000 105 (w6V x) (w6V y)).run Try.prog w = .ok (decide (x = y)) w := by
 have u3 := Try.underlying103
 have a3 := Try.isAgg103
 have z3 := Try.sizeOf103
 obtain ⟨x0, x1, x2, x3, x4, x5⟩ := x
 obtain ⟨y0, y1, y2, y3, y4, y5⟩ := y
 rw [show (10000 : Nat) = 9999 + 1 from rfl, Op.equalIn]
 simp only [Sem.run_bind, run_underlying Try.underlying105, Result.andThen_ok]
 simp only [Std.Legacy.Range.forIn_eq_forIn_range', Std.Legacy.Range.size, Nat.sub_zero, Nat.add_sub_cancel, Nat.div_one, List.range'_succ, List.range'_zero, List.forIn_cons, List.forIn_nil]
 go_simp
 by_cases h0 : x0 = y0
 ·by_cases h1 : x1 = y1
  ·by_cases h2 : x2 = y2
   ·by_cases h3 : x3 = y3
    ·by_cases h4 : x4 = y4
     ·by_cases h5 : x5 = y5 <;> simp [h0, h1, h2, h3, h4, h5]
     simp [h0, h1, h2, h3, h4]
    simp [h0, h1, h2, h3]
   simp [h0, h1, h2]
  simp [h0, h1]
 simp [h0]
theorem w6_guard (op : BinOp) (u v : Operand) (x y : W6) (w : World) : (eqGuard op 105 u v (w6V x) (w6V y)).run Try.prog w = .ok () w := by
 have h : (Try.prog.eqGuardType Try.prog.depth 105) = false := by kernel_rfl
 unfold eqGuard
 cases op <;> simp [h]
section
variable {R : Option Nat} {ops : Array Oper} {Q : Exit → Act → World → Prop} {B : World} {F : List Nat} {s0 : Option (List Blk × List Blk)} {P : Program}
variable {l : List (Oper × Nat)} {a : Act} {s : List Blk} {d : Option Tmp} {t : TypeId} {p : String} {af : Array Edge} {gd : Option (Nat × Bool)} {m : Nat}
theorem rfb_eqW {x y : Operand} {z : TypeId} (u v : W6) (hm : soft03 m = true) (hg : Region.wanted ⟨d, .binOp .eql 105 x y z, t, p, af, gd⟩ (yielded ops a.tmps) = true)
    (hx : a.eval x = w6V u) (hy : a.eval y = w6V v) (h : ∀ b, decide (u = v) = b → Rg R Try.prog ops Q B F s0 l (a.put d (.bool b)) s) : Rg R Try.prog ops Q B F s0 ((⟨d, .binOp .eql 105 x y z, t, p, af, gd⟩, m) :: l) a s := by
  refine rg_any hm hg (fun w => ?_) (h _ rfl)
  unfold Yld
  have hb : (binOp .eql 105 (w6V u) (w6V v)).run Try.prog w = .ok (.bool (decide (u = v))) w := by rw [run_eql_struct, w6_eqTop]; rfl
  have hgd := w6_guard .eql x y u v w
  show ((eqGuard .eql _ x y (a.eval x) (a.eval y) >>= fun _ => binOp .eql _ (a.eval x) (a.eval y)) >>= fun r => pure (Next.value r)).run Try.prog w = _
  rw [hx, hy, Sem.run_bind, Sem.run_bind, hgd, Result.andThen_ok, hb]
  rfl
theorem rfb_odd {T : TypeId} {x y : Operand} {z : TypeId} (i j : Int) (hu : P.underlying T = some .bool) (hm : soft03 m = true) (hg : Region.wanted ⟨d, .binOp .eql T x y z, t, p, af, gd⟩ (yielded ops a.tmps) = true)
    (hx : a.eval x = .bool (decide (i % 2 = 1))) (hy : a.eval y = .bool (decide (j % 2 = 1))) (h : ∀ b, decide ((i + j) % 2 = 0) = b → Rg R P ops Q B F s0 l (a.put d (.bool b)) s) : Rg R P ops Q B F s0 ((⟨d, .binOp .eql T x y z, t, p, af, gd⟩, m) :: l) a s := by
  refine rg_any hm hg (fun w => ?_) (h _ rfl)
  unfold Yld
  by_cases h1 : i % 2 = 1 <;> by_cases h2 : j % 2 = 1 <;> by_cases h3 : (i + j) % 2 = 0 <;> first | (exfalso; omega) | (simp [execOp, hx, hy, eqGuard, binOp, h1, h2, h3, run_equal_bool w T _ _ hu])
end
theorem w6small_any (m : Int) (hm : In384 m) (w : World) : Calls Try.prog 147 #[w6V (W6.of m)] w fun e w' => ∃ n, e = .returned (.tuple #[.int .i64 n, .bool (smB m)]) ∧ (smB m = true → n = m) ∧ Below w.heap.size w w' := by
 obtain ⟨n, hn⟩ : ∃ n, IntKind.i64.wrap (W6.of m).w0 = n := ⟨_, rfl⟩
 have hn2 := hn
 rw [IntKind.wrap_i64] at hn2
 have hnr : -9223372036854775808 ≤ n ∧ n < 9223372036854775808 := by omega
 have hmn : (m - n) % 18446744073709551616 = 0 := by (have : (W6.of m).w0 = m % 18446744073709551616 := rfl; omega)
 clear hn2
 go_enter Try.func147, Try.ntmps147
 refine wk_start ?_
 refine wk_seq ?_
 refine wk_region [1, 0, 0] rfl Kx ?_
 simp only [qy]
 refine Rgn fun g1 => ?_
 simp only [qz]
 refine rg_assign ?_
 simp only [qz]
 refine rg_assign ?_
 simp only [qz]
 refine rg_nil (ek_next (wk_seq ?_))
 refine wk_region [0, 0, 0, 0] rfl Kx ?_
 simp only [qy]
 refine rf_indexA (n := 0) (sz := 1) (j := 0) rfl rfl rfl rfl Try.underlying105 Kx (by decide) rfl ?_
 simp only [qz]
 refine rf_load rfl rfl rfl Try.underlying103 rfl (fun w hw => (Kn.hd0 hw).at rfl) ?_
 simp only [qz]
 refine rf_conv rfl rfl rfl Try.underlying103 Try.underlying3 (hn) ?_
 simp only [qz]
 refine rg_assign ?_
 simp only [qz]
 refine rg_nil (ek_next (wk_seq ?_))
 refine wk_draws _ _ [(0, 0), (1, 0), (3, 0), (2, 1), (4, 0), (5, 0), (6, 0), (7, 0), (8, 0), (9, 0), (10, 0), (11, 0), (12, 0), (13, 0), (14, 0)] [] Kx Kx (fun c d v a w h => by cases d <;> exact h) ((sc _ sn)) (fun e => by first | exact absurd e (by decide) | rfl) ?_
 simp only [List.map_cons, List.map_nil, List.getD_cons_zero, List.getD_cons_succ]
 refine rg_move ?_
 simp only [qz]
 refine rg_move ?_
 simp only [qz]
 refine rf_loadR (n := 6) rfl rfl rfl Try.underlying105 rfl Kx (fun w hw => Kn.hd0 hw) rfl rfl ?_
 simp only [qz]
 apply rg_pure Rx Kx
 case hargs => exact Ax
 case h => exact fun w hw => w6whole_any n Ox Ox w
 case hz => exact (fun _ h => by cases h; exact (sc _ sn))
 simp only [qz]
 refine rfb_eqW (W6.of n) (W6.of m) rfl rfl rfl rfl ?_
 intro x h1
 cases x
 ·(try simp only [qd, ne_eq] at h1)
  simp only [qz]
  have hnm : n ≠ m := fun e => h1 (by rw [e])
  refine rg_move ?_
  simp only [qz]
  refine rg_skip Rx ?_
  simp only [qz]
  refine rg_skip Rx ?_
  simp only [qz]
  refine rf_pick rfl rfl rfl ?_
  simp only [qz]
  refine rg_move ?_
  simp only [qz]
  refine rg_skip Rx ?_
  simp only [qz]
  refine rg_skip Rx ?_
  simp only [qz]
  refine rf_pick rfl rfl rfl ?_
  simp only [qz]
  refine rg_assign ?_
  simp only [qz]
  refine rg_assign ?_
  simp only [qz]
  refine rg_nil (ek_next (wk_ret ?_))
  refine ek_ret (fun w hw => ⟨rfl, _, res_tt _ _ rfl, ?_⟩)
  (try simp only [qz])
  exact ⟨n, by (have : smB m = _ := rfl; unfold smB; congr 3; simp; omega), (fun h => by simp [smB] at h; omega), hw.below⟩
 (try simp only [qd, ne_eq] at h1)
 simp only [qz]
 have hnm : n = m := W6.of_inj (by unfold In384; omega) hm h1
 refine rg_move ?_
 simp only [qz]
 apply rg_soft_g
 case hg => rfl
 case hy => (intro w hw; go_simp; (try go_bits); exact Yld.mk _ _)
 simp only [qz]
 refine rfb_geq rfl rfl rfl rfl ?_
 intro x h2
 cases x
 ·(try simp only [qd, ne_eq] at h2)
  simp only [qz]
  refine rf_pick rfl rfl rfl ?_
  simp only [qz]
  refine rg_move ?_
  simp only [qz]
  refine rg_skip Rx ?_
  simp only [qz]
  refine rg_skip Rx ?_
  simp only [qz]
  refine rf_pick rfl rfl rfl ?_
  simp only [qz]
  refine rg_assign ?_
  simp only [qz]
  refine rg_assign ?_
  simp only [qz]
  refine rg_nil (ek_next (wk_ret ?_))
  refine ek_ret (fun w hw => ⟨rfl, _, res_tt _ _ rfl, ?_⟩)
  (try simp only [qz])
  exact ⟨n, by (have : smB m = _ := rfl; unfold smB; congr 3; simp; omega), (fun h => by simp [smB] at h; omega), hw.below⟩
 (try simp only [qd, ne_eq] at h2)
 simp only [qz]
 refine rf_pick rfl rfl rfl ?_
 simp only [qz]
 refine rg_move ?_
 simp only [qz]
 apply rg_soft_g
 case hg => rfl
 case hy => (intro w hw; go_simp; (try go_bits); exact Yld.mk _ _)
 simp only [qz]
 refine rf_leq rfl rfl rfl rfl rfl ?_
 simp only [qz]
 refine rf_pick rfl rfl rfl ?_
 simp only [qz]
 refine rg_assign ?_
 simp only [qz]
 refine rg_assign ?_
 simp only [qz]
 refine rg_nil (ek_next (wk_ret ?_))
 refine ek_ret (fun w hw => ⟨rfl, _, res_tt _ _ rfl, ?_⟩)
 (try simp only [qz])
 exact ⟨n, by (have : smB m = _ := rfl; unfold smB; congr 3; simp; omega), (fun h => by simp [smB] at h; omega), hw.below⟩
end Go.Proofs.Ytjeijnjaleldkaa
