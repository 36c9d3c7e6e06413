/- Texts in one: Ws1, Sm, Ws2, Ws3, EqS, Pe3, Pe4, PrA, Ch2, Ch3, Ws5, UnPl, Us1, AgP0, AgP1, PgT, PgU, PgV. -/
import Derived.Test.YthjjkajjpejcdaaGreatLTpH
import Derived.DeepKeys
namespace Go.Proofs.YthjjkajjpejcdaaGreat
set_option linter.all false
set_option maxRecDepth 100000
set_option maxHeartbeats 1000000
open Go.RowKit
abbrev w6V (x : W6) : Value := .agg #[.int .u64 x.w0, .int .u64 x.w1, .int .u64 x.w2, .int .u64 x.w3, .int .u64 x.w4, .int .u64 x.w5]
theorem same_pure {P : Program} {f : Nat} {args : Array Value} {w : World} {v : Value} (h : Calls P f args w (fun e w' => e = .returned v ∧ w = w')) : Calls P f args w (fun e w' => e = .returned v ∧ Below w.heap.size w w') :=
  h.mono (by rintro e w' ⟨rfl, rfl⟩; exact ⟨rfl, Below.refl _ _⟩)
theorem w6add_any (m n : Int) (w : World) : Calls Tryz.prog 144 #[w6V (W6.of m), w6V (W6.of n)] w fun e w' => e = .returned (w6V (W6.of (m + n))) ∧ Below w.heap.size w w' := by
 obtain ⟨⟨x0, x1, x2, x3, x4, x5⟩, hx⟩ : ∃ r, W6.of m = r := ⟨_, rfl⟩
 have wx := W6.of_wf m
 rw [hx] at wx
 obtain ⟨xa0, xb0, xa1, xb1, xa2, xb2, xa3, xb3, xa4, xb4, xa5, xb5⟩ := wx
 dsimp only at xa0 xb0 xa1 xb1 xa2 xb2 xa3 xb3 xa4 xb4 xa5 xb5
 obtain ⟨⟨y0, y1, y2, y3, y4, y5⟩, hy⟩ : ∃ r, W6.of n = r := ⟨_, rfl⟩
 have wy := W6.of_wf n
 rw [hy] at wy
 obtain ⟨ya0, yb0, ya1, yb1, ya2, yb2, ya3, yb3, ya4, yb4, ya5, yb5⟩ := wy
 dsimp only at ya0 yb0 ya1 yb1 ya2 yb2 ya3 yb3 ya4 yb4 ya5 yb5
 obtain ⟨s0, hs0⟩ : ∃ s, (x0 + y0 + 0) % 18446744073709551616 = s := ⟨_, rfl⟩
 obtain ⟨c0, hc0⟩ : ∃ s, (x0 + y0 + 0) / 18446744073709551616 = s := ⟨_, rfl⟩
 have hcc0 : 0 ≤ c0 ∧ c0 ≤ 1 := by omega
 have hss0 : 0 ≤ s0 ∧ s0 < 18446744073709551616 := by omega
 obtain ⟨s1, hs1⟩ : ∃ s, (x1 + y1 + c0) % 18446744073709551616 = s := ⟨_, rfl⟩
 obtain ⟨c1, hc1⟩ : ∃ s, (x1 + y1 + c0) / 18446744073709551616 = s := ⟨_, rfl⟩
 have hcc1 : 0 ≤ c1 ∧ c1 ≤ 1 := by omega
 have hss1 : 0 ≤ s1 ∧ s1 < 18446744073709551616 := by omega
 obtain ⟨s2, hs2⟩ : ∃ s, (x2 + y2 + c1) % 18446744073709551616 = s := ⟨_, rfl⟩
 obtain ⟨c2, hc2⟩ : ∃ s, (x2 + y2 + c1) / 18446744073709551616 = s := ⟨_, rfl⟩
 have hcc2 : 0 ≤ c2 ∧ c2 ≤ 1 := by omega
 have hss2 : 0 ≤ s2 ∧ s2 < 18446744073709551616 := by omega
 obtain ⟨s3, hs3⟩ : ∃ s, (x3 + y3 + c2) % 18446744073709551616 = s := ⟨_, rfl⟩
 obtain ⟨c3, hc3⟩ : ∃ s, (x3 + y3 + c2) / 18446744073709551616 = s := ⟨_, rfl⟩
 have hcc3 : 0 ≤ c3 ∧ c3 ≤ 1 := by omega
 have hss3 : 0 ≤ s3 ∧ s3 < 18446744073709551616 := by omega
 obtain ⟨s4, hs4⟩ : ∃ s, (x4 + y4 + c3) % 18446744073709551616 = s := ⟨_, rfl⟩
 obtain ⟨c4, hc4⟩ : ∃ s, (x4 + y4 + c3) / 18446744073709551616 = s := ⟨_, rfl⟩
 have hcc4 : 0 ≤ c4 ∧ c4 ≤ 1 := by omega
 have hss4 : 0 ≤ s4 ∧ s4 < 18446744073709551616 := by omega
 obtain ⟨s5, hs5⟩ : ∃ s, (x5 + y5 + c4) % 18446744073709551616 = s := ⟨_, rfl⟩
 obtain ⟨c5, hc5⟩ : ∃ s, (x5 + y5 + c4) / 18446744073709551616 = s := ⟨_, rfl⟩
 have hcc5 : 0 ≤ c5 ∧ c5 ≤ 1 := by omega
 have hss5 : 0 ≤ s5 ∧ s5 < 18446744073709551616 := by omega
 have heq : (⟨s0, s1, s2, s3, s4, s5⟩ : W6) = W6.of (m + n) := W6.add_eq (c0 := c0) (c1 := c1) (c2 := c2) (c3 := c3) (c4 := c4) (c5 := c5) ⟨by dsimp only; omega, by dsimp only; omega, by dsimp only; omega, by dsimp only; omega, by dsimp only; omega, by dsimp only; omega, by dsimp only; omega, by dsimp only; omega, by dsimp only; omega, by dsimp only; omega, by dsimp only; omega, by dsimp only; omega⟩ (by rw [hx, hy]; dsimp only; omega) (by rw [hx, hy]; dsimp only; omega) (by rw [hx, hy]; dsimp only; omega) (by rw [hx, hy]; dsimp only; omega) (by rw [hx, hy]; dsimp only; omega) (by rw [hx, hy]; dsimp only; omega)
 rw [hx, hy]
 replace heq := Lib.hid heq
 clear hx hy
 go_enter Tryz.func144, Tryz.ntmps144
 refine wk_start ?_
 refine wk_seq ?_
 refine Wr [1, 1, 1] ?_
 refine Rgn fun g1 => ?_
 simp only [qz]
 refine Rgn fun g2 => ?_
 simp only [qz]
 refine Rgn fun g3 => ?_
 simp only [qz]
 refine Zr ?_
 refine Wx [0] ?_
 refine Zr ?_
 refine Wx [0] ?_
 refine rg_nil (ek_next (wk_block ?_))
 refine wk_unroll 6 ?_
 refine wk_seq ?_
 refine Wr [0] ?_
 refine rf_lss (b := true) rfl rfl rfl rfl (by decide) (Nq ?_)
 refine Zr ?_
 refine Wx [0, 0] ?_
 refine rg_nil (ek_next ?_)
 refine wk_draws_m (hz1 := (sc _ (sc _ (sk _ sn)))) [(0, 0), (1, 0), (2, 0), (3, 0), (4, 0), (5, 0), (6, 0), (7, 0), (8, 1), (9, 0), (10, 0), (11, 3), (12, 0), (13, 2), (14, 0)] 13 Kx Kx (fun c d v a w h => by cases d <;> exact h) ?_
 simp only [List.map_cons, List.map_nil, List.getD_cons_zero, List.getD_cons_succ]
 refine Zx ?_
 refine Ia 0 1 0 UU166 ?_
 refine rf_load rfl rfl rfl UU140 rfl (fun w hw => (Kn.hd0 (Kn.tl (Kn.tl hw))).at rfl) (Zx ?_)
 refine Ia 0 1 0 UU166 ?_
 refine rf_load rfl rfl rfl UU140 rfl (fun w hw => (Kn.hd0 (Kn.tl hw)).at rfl) (Zx ?_)
 apply rg_ext Rx
 case hargs => exact Ax
 case h => exact fun w => run_Add64 x0 y0 0 s0 c0 Ox Ox Ox Ox hs0 hc0 w
 case hz => exact (fun _ h => by cases h; exact (sc _ (sc _ (sc _ sn))))
 refine Zx ?_
 refine Ia 0 1 0 UU166 ?_
 refine rf_storeM rfl rfl Kx rfl rfl (UpdR.there _ (UpdR.there _ (UpdR.here _ _ _ Nl))) (sc _ (sc _ (sk _ sn))) (Zx ?_)
 refine Zr ?_
 refine Wr [0, 0] ?_
 refine rf_add (r := 1) rfl rfl rfl rfl (by decide) (Zx ?_)
 refine Zr ?_
 refine Wr [0] ?_
 refine rf_lss (b := true) rfl rfl rfl rfl (by decide) (Nq ?_)
 refine Zr ?_
 refine Wx [0, 0] ?_
 refine rg_nil (ek_next ?_)
 refine wk_draws_m (hz1 := (sc _ (sc _ (sk _ sn)))) [(0, 0), (1, 0), (2, 0), (3, 0), (4, 0), (5, 0), (6, 0), (7, 0), (8, 1), (9, 0), (10, 0), (11, 3), (12, 0), (13, 2), (14, 0)] 13 Kx Kx (fun c d v a w h => by cases d <;> exact h) ?_
 simp only [List.map_cons, List.map_nil, List.getD_cons_zero, List.getD_cons_succ]
 refine Zx ?_
 refine Ia 1 1 1 UU166 ?_
 refine rf_load rfl rfl rfl UU140 rfl (fun w hw => (Kn.hd0 (Kn.tl (Kn.tl hw))).at rfl) (Zx ?_)
 refine Ia 1 1 1 UU166 ?_
 refine rf_load rfl rfl rfl UU140 rfl (fun w hw => (Kn.hd0 (Kn.tl hw)).at rfl) (Zx ?_)
 apply rg_ext Rx
 case hargs => exact Ax
 case h => exact fun w => run_Add64 x1 y1 c0 s1 c1 Ox Ox Ox Ox hs1 hc1 w
 case hz => exact (fun _ h => by cases h; exact (sc _ (sc _ (sc _ sn))))
 refine Zx ?_
 refine Ia 1 1 1 UU166 ?_
 refine rf_storeM rfl rfl Kx rfl rfl (UpdR.there _ (UpdR.there _ (UpdR.here _ _ _ Nl))) (sc _ (sc _ (sk _ sn))) (Zx ?_)
 refine Zr ?_
 refine Wr [0, 0] ?_
 refine rf_add (r := 2) rfl rfl rfl rfl (by decide) (Zx ?_)
 refine Zr ?_
 refine Wr [0] ?_
 refine rf_lss (b := true) rfl rfl rfl rfl (by decide) (Nq ?_)
 refine Zr ?_
 refine Wx [0, 0] ?_
 refine rg_nil (ek_next ?_)
 refine wk_draws_m (hz1 := (sc _ (sc _ (sk _ sn)))) [(0, 0), (1, 0), (2, 0), (3, 0), (4, 0), (5, 0), (6, 0), (7, 0), (8, 1), (9, 0), (10, 0), (11, 3), (12, 0), (13, 2), (14, 0)] 13 Kx Kx (fun c d v a w h => by cases d <;> exact h) ?_
 simp only [List.map_cons, List.map_nil, List.getD_cons_zero, List.getD_cons_succ]
 refine Zx ?_
 refine Ia 2 1 2 UU166 ?_
 refine rf_load rfl rfl rfl UU140 rfl (fun w hw => (Kn.hd0 (Kn.tl (Kn.tl hw))).at rfl) (Zx ?_)
 refine Ia 2 1 2 UU166 ?_
 refine rf_load rfl rfl rfl UU140 rfl (fun w hw => (Kn.hd0 (Kn.tl hw)).at rfl) (Zx ?_)
 apply rg_ext Rx
 case hargs => exact Ax
 case h => exact fun w => run_Add64 x2 y2 c1 s2 c2 Ox Ox Ox Ox hs2 hc2 w
 case hz => exact (fun _ h => by cases h; exact (sc _ (sc _ (sc _ sn))))
 refine Zx ?_
 refine Ia 2 1 2 UU166 ?_
 refine rf_storeM rfl rfl Kx rfl rfl (UpdR.there _ (UpdR.there _ (UpdR.here _ _ _ Nl))) (sc _ (sc _ (sk _ sn))) (Zx ?_)
 refine Zr ?_
 refine Wr [0, 0] ?_
 refine rf_add (r := 3) rfl rfl rfl rfl (by decide) (Zx ?_)
 refine Zr ?_
 refine Wr [0] ?_
 refine rf_lss (b := true) rfl rfl rfl rfl (by decide) (Nq ?_)
 refine Zr ?_
 refine Wx [0, 0] ?_
 refine rg_nil (ek_next ?_)
 refine wk_draws_m (hz1 := (sc _ (sc _ (sk _ sn)))) [(0, 0), (1, 0), (2, 0), (3, 0), (4, 0), (5, 0), (6, 0), (7, 0), (8, 1), (9, 0), (10, 0), (11, 3), (12, 0), (13, 2), (14, 0)] 13 Kx Kx (fun c d v a w h => by cases d <;> exact h) ?_
 simp only [List.map_cons, List.map_nil, List.getD_cons_zero, List.getD_cons_succ]
 refine Zx ?_
 refine Ia 3 1 3 UU166 ?_
 refine rf_load rfl rfl rfl UU140 rfl (fun w hw => (Kn.hd0 (Kn.tl (Kn.tl hw))).at rfl) (Zx ?_)
 refine Ia 3 1 3 UU166 ?_
 refine rf_load rfl rfl rfl UU140 rfl (fun w hw => (Kn.hd0 (Kn.tl hw)).at rfl) (Zx ?_)
 apply rg_ext Rx
 case hargs => exact Ax
 case h => exact fun w => run_Add64 x3 y3 c2 s3 c3 Ox Ox Ox Ox hs3 hc3 w
 case hz => exact (fun _ h => by cases h; exact (sc _ (sc _ (sc _ sn))))
 refine Zx ?_
 refine Ia 3 1 3 UU166 ?_
 refine rf_storeM rfl rfl Kx rfl rfl (UpdR.there _ (UpdR.there _ (UpdR.here _ _ _ Nl))) (sc _ (sc _ (sk _ sn))) (Zx ?_)
 refine Zr ?_
 refine Wr [0, 0] ?_
 refine rf_add (r := 4) rfl rfl rfl rfl (by decide) (Zx ?_)
 refine Zr ?_
 refine Wr [0] ?_
 refine rf_lss (b := true) rfl rfl rfl rfl (by decide) (Nq ?_)
 refine Zr ?_
 refine Wx [0, 0] ?_
 refine rg_nil (ek_next ?_)
 refine wk_draws_m (hz1 := (sc _ (sc _ (sk _ sn)))) [(0, 0), (1, 0), (2, 0), (3, 0), (4, 0), (5, 0), (6, 0), (7, 0), (8, 1), (9, 0), (10, 0), (11, 3), (12, 0), (13, 2), (14, 0)] 13 Kx Kx (fun c d v a w h => by cases d <;> exact h) ?_
 simp only [List.map_cons, List.map_nil, List.getD_cons_zero, List.getD_cons_succ]
 refine Zx ?_
 refine Ia 4 1 4 UU166 ?_
 refine rf_load rfl rfl rfl UU140 rfl (fun w hw => (Kn.hd0 (Kn.tl (Kn.tl hw))).at rfl) (Zx ?_)
 refine Ia 4 1 4 UU166 ?_
 refine rf_load rfl rfl rfl UU140 rfl (fun w hw => (Kn.hd0 (Kn.tl hw)).at rfl) (Zx ?_)
 apply rg_ext Rx
 case hargs => exact Ax
 case h => exact fun w => run_Add64 x4 y4 c3 s4 c4 Ox Ox Ox Ox hs4 hc4 w
 case hz => exact (fun _ h => by cases h; exact (sc _ (sc _ (sc _ sn))))
 refine Zx ?_
 refine Ia 4 1 4 UU166 ?_
 refine rf_storeM rfl rfl Kx rfl rfl (UpdR.there _ (UpdR.there _ (UpdR.here _ _ _ Nl))) (sc _ (sc _ (sk _ sn))) (Zx ?_)
 refine Zr ?_
 refine Wr [0, 0] ?_
 refine rf_add (r := 5) rfl rfl rfl rfl (by decide) (Zx ?_)
 refine Zr ?_
 refine Wr [0] ?_
 refine rf_lss (b := true) rfl rfl rfl rfl (by decide) (Nq ?_)
 refine Zr ?_
 refine Wx [0, 0] ?_
 refine rg_nil (ek_next ?_)
 refine wk_draws_m (hz1 := (sc _ (sc _ (sk _ sn)))) [(0, 0), (1, 0), (2, 0), (3, 0), (4, 0), (5, 0), (6, 0), (7, 0), (8, 1), (9, 0), (10, 0), (11, 3), (12, 0), (13, 2), (14, 0)] 13 Kx Kx (fun c d v a w h => by cases d <;> exact h) ?_
 simp only [List.map_cons, List.map_nil, List.getD_cons_zero, List.getD_cons_succ]
 refine Zx ?_
 refine Ia 5 1 5 UU166 ?_
 refine rf_load rfl rfl rfl UU140 rfl (fun w hw => (Kn.hd0 (Kn.tl (Kn.tl hw))).at rfl) (Zx ?_)
 refine Ia 5 1 5 UU166 ?_
 refine rf_load rfl rfl rfl UU140 rfl (fun w hw => (Kn.hd0 (Kn.tl hw)).at rfl) (Zx ?_)
 apply rg_ext Rx
 case hargs => exact Ax
 case h => exact fun w => run_Add64 x5 y5 c4 s5 c5 Ox Ox Ox Ox hs5 hc5 w
 case hz => exact (fun _ h => by cases h; exact (sc _ (sc _ (sc _ sn))))
 refine Zx ?_
 refine Ia 5 1 5 UU166 ?_
 refine rf_storeM rfl rfl Kx rfl rfl (UpdR.there _ (UpdR.there _ (UpdR.here _ _ _ Nl))) (sc _ (sc _ (sk _ sn))) (Zx ?_)
 refine Zr ?_
 refine Wr [0, 0] ?_
 refine rf_add (r := 6) rfl rfl rfl rfl (by decide) (Zx ?_)
 refine Zr ?_
 refine Wr [0] ?_
 refine rf_lss (b := false) rfl rfl rfl rfl (by decide) (Nq ?_)
 refine Zr ?_
 refine Wr [0, 1] ?_
 refine rf_loadR (n := 6) rfl rfl rfl UU166 rfl Kx (fun w hw => Kn.hd0 (Kn.tl (Kn.tl hw))) rfl rfl (Nq ?_)
 refine rf_storeR (n := 6) rfl rfl Kx rfl rfl (UpdR.here _ _ _ Nl) Nz (Nw ?_)
 refine Zr ?_
 refine ek_ret (fun w hw => ⟨rfl, _, run_results1 rfl rfl (Kn.hd0 hw) UU166 rfl Kx, ?_⟩)
 (try simp only [qz])
 exact ⟨by rw [← heq.out] <;> rfl, hw.below⟩
theorem w6neg_any (m : Int) (w : World) : Calls Tryz.prog 147 #[w6V (W6.of m)] w fun e w' => e = .returned (w6V (W6.of (-m))) ∧ Below w.heap.size w w' := by
 obtain ⟨⟨x0, x1, x2, x3, x4, x5⟩, hx⟩ : ∃ r, W6.of m = r := ⟨_, rfl⟩
 have wx := W6.of_wf m
 rw [hx] at wx
 obtain ⟨xa0, xb0, xa1, xb1, xa2, xb2, xa3, xb3, xa4, xb4, xa5, xb5⟩ := wx
 dsimp only at xa0 xb0 xa1 xb1 xa2 xb2 xa3 xb3 xa4 xb4 xa5 xb5
 obtain ⟨s0, hs0⟩ : ∃ s, (0 + 18446744073709551616 - x0 - 0) % 18446744073709551616 = s := ⟨_, rfl⟩
 obtain ⟨c0, hc0⟩ : ∃ s, (if 0 < x0 + 0 then (1 : Int) else 0) = s := ⟨_, rfl⟩
 have hcc0 : 0 ≤ c0 ∧ c0 ≤ 1 := by split at hc0 <;> omega
 have hss0 : 0 ≤ s0 ∧ s0 < 18446744073709551616 := by omega
 have hsc0 : s0 = 18446744073709551616 * c0 - x0 - 0 := by split at hc0 <;> omega
 obtain ⟨s1, hs1⟩ : ∃ s, (0 + 18446744073709551616 - x1 - c0) % 18446744073709551616 = s := ⟨_, rfl⟩
 obtain ⟨c1, hc1⟩ : ∃ s, (if 0 < x1 + c0 then (1 : Int) else 0) = s := ⟨_, rfl⟩
 have hcc1 : 0 ≤ c1 ∧ c1 ≤ 1 := by split at hc1 <;> omega
 have hss1 : 0 ≤ s1 ∧ s1 < 18446744073709551616 := by omega
 have hsc1 : s1 = 18446744073709551616 * c1 - x1 - c0 := by split at hc1 <;> omega
 obtain ⟨s2, hs2⟩ : ∃ s, (0 + 18446744073709551616 - x2 - c1) % 18446744073709551616 = s := ⟨_, rfl⟩
 obtain ⟨c2, hc2⟩ : ∃ s, (if 0 < x2 + c1 then (1 : Int) else 0) = s := ⟨_, rfl⟩
 have hcc2 : 0 ≤ c2 ∧ c2 ≤ 1 := by split at hc2 <;> omega
 have hss2 : 0 ≤ s2 ∧ s2 < 18446744073709551616 := by omega
 have hsc2 : s2 = 18446744073709551616 * c2 - x2 - c1 := by split at hc2 <;> omega
 obtain ⟨s3, hs3⟩ : ∃ s, (0 + 18446744073709551616 - x3 - c2) % 18446744073709551616 = s := ⟨_, rfl⟩
 obtain ⟨c3, hc3⟩ : ∃ s, (if 0 < x3 + c2 then (1 : Int) else 0) = s := ⟨_, rfl⟩
 have hcc3 : 0 ≤ c3 ∧ c3 ≤ 1 := by split at hc3 <;> omega
 have hss3 : 0 ≤ s3 ∧ s3 < 18446744073709551616 := by omega
 have hsc3 : s3 = 18446744073709551616 * c3 - x3 - c2 := by split at hc3 <;> omega
 obtain ⟨s4, hs4⟩ : ∃ s, (0 + 18446744073709551616 - x4 - c3) % 18446744073709551616 = s := ⟨_, rfl⟩
 obtain ⟨c4, hc4⟩ : ∃ s, (if 0 < x4 + c3 then (1 : Int) else 0) = s := ⟨_, rfl⟩
 have hcc4 : 0 ≤ c4 ∧ c4 ≤ 1 := by split at hc4 <;> omega
 have hss4 : 0 ≤ s4 ∧ s4 < 18446744073709551616 := by omega
 have hsc4 : s4 = 18446744073709551616 * c4 - x4 - c3 := by split at hc4 <;> omega
 obtain ⟨s5, hs5⟩ : ∃ s, (0 + 18446744073709551616 - x5 - c4) % 18446744073709551616 = s := ⟨_, rfl⟩
 obtain ⟨c5, hc5⟩ : ∃ s, (if 0 < x5 + c4 then (1 : Int) else 0) = s := ⟨_, rfl⟩
 have hcc5 : 0 ≤ c5 ∧ c5 ≤ 1 := by split at hc5 <;> omega
 have hss5 : 0 ≤ s5 ∧ s5 < 18446744073709551616 := by omega
 have hsc5 : s5 = 18446744073709551616 * c5 - x5 - c4 := by split at hc5 <;> omega
 have heq : (⟨s0, s1, s2, s3, s4, s5⟩ : W6) = W6.of (-m) := W6.neg_eq (c0 := c0) (c1 := c1) (c2 := c2) (c3 := c3) (c4 := c4) (c5 := c5) ⟨by dsimp only; omega, by dsimp only; omega, by dsimp only; omega, by dsimp only; omega, by dsimp only; omega, by dsimp only; omega, by dsimp only; omega, by dsimp only; omega, by dsimp only; omega, by dsimp only; omega, by dsimp only; omega, by dsimp only; omega⟩ (by rw [hx]; dsimp only; omega) (by rw [hx]; dsimp only; omega) (by rw [hx]; dsimp only; omega) (by rw [hx]; dsimp only; omega) (by rw [hx]; dsimp only; omega) (by rw [hx]; dsimp only; omega)
 rw [hx]
 replace heq := Lib.hid heq
 clear hx
 go_enter Tryz.func147, Tryz.ntmps147
 refine wk_start ?_
 refine wk_seq ?_
 refine Wr [1, 1] ?_
 refine Rgn fun g1 => ?_
 simp only [qz]
 refine Rgn fun g2 => ?_
 simp only [qz]
 refine Zr ?_
 refine Wx [0] ?_
 refine Zr ?_
 refine Wx [0] ?_
 refine rg_nil (ek_next (wk_block ?_))
 refine wk_unroll 6 ?_
 refine wk_seq ?_
 refine Wr [0] ?_
 refine rf_lss (b := true) rfl rfl rfl rfl (by decide) (Nq ?_)
 refine Zr ?_
 refine Wx [0, 0] ?_
 refine rg_nil (ek_next ?_)
 refine Wx [0, 0, 0, 0, 0, 1, 0, 0, 0, 0, 1, 0] ?_
 refine Ia 0 1 0 UU166 ?_
 refine rf_load rfl rfl rfl UU140 rfl (fun w hw => (Kn.hd0 (Kn.tl hw)).at rfl) (Zx ?_)
 apply rg_ext Rx
 case hargs => exact Ax
 case h => exact fun w => run_Sub64I 0 x0 0 s0 c0 Ox Ox Ox Ox Ox hs0 hc0 w
 case hz => exact Nz
 refine Zx ?_
 refine Ia 0 1 0 UU166 ?_
 refine rf_store rfl rfl Kx rfl rfl (UpdR.there _ (UpdR.here _ _ _ Nl)) Nz (Zx ?_)
 refine Zr ?_
 refine Wr [0, 0] ?_
 refine rf_add (r := 1) rfl rfl rfl rfl (by decide) (Zx ?_)
 refine Zr ?_
 refine Wr [0] ?_
 refine rf_lss (b := true) rfl rfl rfl rfl (by decide) (Nq ?_)
 refine Zr ?_
 refine Wx [0, 0] ?_
 refine rg_nil (ek_next ?_)
 refine Wx [0, 0, 0, 0, 0, 1, 0, 0, 0, 0, 1, 0] ?_
 refine Ia 1 1 1 UU166 ?_
 refine rf_load rfl rfl rfl UU140 rfl (fun w hw => (Kn.hd0 (Kn.tl hw)).at rfl) (Zx ?_)
 apply rg_ext Rx
 case hargs => exact Ax
 case h => exact fun w => run_Sub64I 0 x1 c0 s1 c1 Ox Ox Ox Ox Ox hs1 hc1 w
 case hz => exact Nz
 refine Zx ?_
 refine Ia 1 1 1 UU166 ?_
 refine rf_store rfl rfl Kx rfl rfl (UpdR.there _ (UpdR.here _ _ _ Nl)) Nz (Zx ?_)
 refine Zr ?_
 refine Wr [0, 0] ?_
 refine rf_add (r := 2) rfl rfl rfl rfl (by decide) (Zx ?_)
 refine Zr ?_
 refine Wr [0] ?_
 refine rf_lss (b := true) rfl rfl rfl rfl (by decide) (Nq ?_)
 refine Zr ?_
 refine Wx [0, 0] ?_
 refine rg_nil (ek_next ?_)
 refine Wx [0, 0, 0, 0, 0, 1, 0, 0, 0, 0, 1, 0] ?_
 refine Ia 2 1 2 UU166 ?_
 refine rf_load rfl rfl rfl UU140 rfl (fun w hw => (Kn.hd0 (Kn.tl hw)).at rfl) (Zx ?_)
 apply rg_ext Rx
 case hargs => exact Ax
 case h => exact fun w => run_Sub64I 0 x2 c1 s2 c2 Ox Ox Ox Ox Ox hs2 hc2 w
 case hz => exact Nz
 refine Zx ?_
 refine Ia 2 1 2 UU166 ?_
 refine rf_store rfl rfl Kx rfl rfl (UpdR.there _ (UpdR.here _ _ _ Nl)) Nz (Zx ?_)
 refine Zr ?_
 refine Wr [0, 0] ?_
 refine rf_add (r := 3) rfl rfl rfl rfl (by decide) (Zx ?_)
 refine Zr ?_
 refine Wr [0] ?_
 refine rf_lss (b := true) rfl rfl rfl rfl (by decide) (Nq ?_)
 refine Zr ?_
 refine Wx [0, 0] ?_
 refine rg_nil (ek_next ?_)
 refine Wx [0, 0, 0, 0, 0, 1, 0, 0, 0, 0, 1, 0] ?_
 refine Ia 3 1 3 UU166 ?_
 refine rf_load rfl rfl rfl UU140 rfl (fun w hw => (Kn.hd0 (Kn.tl hw)).at rfl) (Zx ?_)
 apply rg_ext Rx
 case hargs => exact Ax
 case h => exact fun w => run_Sub64I 0 x3 c2 s3 c3 Ox Ox Ox Ox Ox hs3 hc3 w
 case hz => exact Nz
 refine Zx ?_
 refine Ia 3 1 3 UU166 ?_
 refine rf_store rfl rfl Kx rfl rfl (UpdR.there _ (UpdR.here _ _ _ Nl)) Nz (Zx ?_)
 refine Zr ?_
 refine Wr [0, 0] ?_
 refine rf_add (r := 4) rfl rfl rfl rfl (by decide) (Zx ?_)
 refine Zr ?_
 refine Wr [0] ?_
 refine rf_lss (b := true) rfl rfl rfl rfl (by decide) (Nq ?_)
 refine Zr ?_
 refine Wx [0, 0] ?_
 refine rg_nil (ek_next ?_)
 refine Wx [0, 0, 0, 0, 0, 1, 0, 0, 0, 0, 1, 0] ?_
 refine Ia 4 1 4 UU166 ?_
 refine rf_load rfl rfl rfl UU140 rfl (fun w hw => (Kn.hd0 (Kn.tl hw)).at rfl) (Zx ?_)
 apply rg_ext Rx
 case hargs => exact Ax
 case h => exact fun w => run_Sub64I 0 x4 c3 s4 c4 Ox Ox Ox Ox Ox hs4 hc4 w
 case hz => exact Nz
 refine Zx ?_
 refine Ia 4 1 4 UU166 ?_
 refine rf_store rfl rfl Kx rfl rfl (UpdR.there _ (UpdR.here _ _ _ Nl)) Nz (Zx ?_)
 refine Zr ?_
 refine Wr [0, 0] ?_
 refine rf_add (r := 5) rfl rfl rfl rfl (by decide) (Zx ?_)
 refine Zr ?_
 refine Wr [0] ?_
 refine rf_lss (b := true) rfl rfl rfl rfl (by decide) (Nq ?_)
 refine Zr ?_
 refine Wx [0, 0] ?_
 refine rg_nil (ek_next ?_)
 refine Wx [0, 0, 0, 0, 0, 1, 0, 0, 0, 0, 1, 0] ?_
 refine Ia 5 1 5 UU166 ?_
 refine rf_load rfl rfl rfl UU140 rfl (fun w hw => (Kn.hd0 (Kn.tl hw)).at rfl) (Zx ?_)
 apply rg_ext Rx
 case hargs => exact Ax
 case h => exact fun w => run_Sub64I 0 x5 c4 s5 c5 Ox Ox Ox Ox Ox hs5 hc5 w
 case hz => exact Nz
 refine Zx ?_
 refine Ia 5 1 5 UU166 ?_
 refine rf_store rfl rfl Kx rfl rfl (UpdR.there _ (UpdR.here _ _ _ Nl)) Nz (Zx ?_)
 refine Zr ?_
 refine Wr [0, 0] ?_
 refine rf_add (r := 6) rfl rfl rfl rfl (by decide) (Zx ?_)
 refine Zr ?_
 refine Wr [0] ?_
 refine rf_lss (b := false) rfl rfl rfl rfl (by decide) (Nq ?_)
 refine Zr ?_
 refine Wr [0, 1] ?_
 refine rf_loadR (n := 6) rfl rfl rfl UU166 rfl Kx (fun w hw => Kn.hd0 (Kn.tl hw)) rfl rfl (Nq ?_)
 refine rf_storeR (n := 6) rfl rfl Kx rfl rfl (UpdR.here _ _ _ Nl) Nz (Nw ?_)
 refine Zr ?_
 refine ek_ret (fun w hw => ⟨rfl, _, run_results1 rfl rfl (Kn.hd0 hw) UU166 rfl Kx, ?_⟩)
 (try simp only [qz])
 exact ⟨by rw [← heq.out] <;> rfl, hw.below⟩
set_option maxHeartbeats 2000000 in
theorem w6times_pos (m n : Int) (h0 : 0 ≤ n) (h1 : n ≤ 9223372036854775807) (w : World) : Calls Tryz.prog 145 #[w6V (W6.of m), .int .i64 n] w fun e w' => e = .returned (w6V (W6.of (m * n))) ∧ Below w.heap.size w w' := by
 obtain ⟨⟨x0, x1, x2, x3, x4, x5⟩, hx⟩ : ∃ r, W6.of m = r := ⟨_, rfl⟩
 have wx := W6.of_wf m
 rw [hx] at wx
 obtain ⟨xa0, xb0, xa1, xb1, xa2, xb2, xa3, xb3, xa4, xb4, xa5, xb5⟩ := wx
 dsimp only at xa0 xb0 xa1 xb1 xa2 xb2 xa3 xb3 xa4 xb4 xa5 xb5
 have hp0 : 0 ≤ x0 * n ∧ x0 * n ≤ 18446744073709551615 * n := ⟨Int.mul_nonneg Ox h0, Int.mul_le_mul_of_nonneg_right Ox h0⟩
 have cm0 := mul64_any x0 n Ox Ox h0 Ox
 have hp1 : 0 ≤ x1 * n ∧ x1 * n ≤ 18446744073709551615 * n := ⟨Int.mul_nonneg Ox h0, Int.mul_le_mul_of_nonneg_right Ox h0⟩
 have cm1 := mul64_any x1 n Ox Ox h0 Ox
 have hp2 : 0 ≤ x2 * n ∧ x2 * n ≤ 18446744073709551615 * n := ⟨Int.mul_nonneg Ox h0, Int.mul_le_mul_of_nonneg_right Ox h0⟩
 have cm2 := mul64_any x2 n Ox Ox h0 Ox
 have hp3 : 0 ≤ x3 * n ∧ x3 * n ≤ 18446744073709551615 * n := ⟨Int.mul_nonneg Ox h0, Int.mul_le_mul_of_nonneg_right Ox h0⟩
 have cm3 := mul64_any x3 n Ox Ox h0 Ox
 have hp4 : 0 ≤ x4 * n ∧ x4 * n ≤ 18446744073709551615 * n := ⟨Int.mul_nonneg Ox h0, Int.mul_le_mul_of_nonneg_right Ox h0⟩
 have cm4 := mul64_any x4 n Ox Ox h0 Ox
 have hp5 : 0 ≤ x5 * n ∧ x5 * n ≤ 18446744073709551615 * n := ⟨Int.mul_nonneg Ox h0, Int.mul_le_mul_of_nonneg_right Ox h0⟩
 have cm5 := mul64_any x5 n Ox Ox h0 Ox
 obtain ⟨p0, hq0⟩ : ∃ p, x0 * n = p := ⟨_, rfl⟩
 rw [hq0] at hp0 cm0
 obtain ⟨g0, hg0⟩ : ∃ s, p0 / 18446744073709551616 = s := ⟨_, rfl⟩
 obtain ⟨l0, hl0⟩ : ∃ s, p0 % 18446744073709551616 = s := ⟨_, rfl⟩
 rw [hg0, hl0] at cm0
 replace cm0 := Lib.hid cm0
 obtain ⟨s0, hs0⟩ : ∃ s, (l0 + 0 + 0) % 18446744073709551616 = s := ⟨_, rfl⟩
 obtain ⟨c0, hc0⟩ : ∃ s, (l0 + 0 + 0) / 18446744073709551616 = s := ⟨_, rfl⟩
 obtain ⟨k0, hk0⟩ : ∃ s, g0 + c0 = s := ⟨_, rfl⟩
 have hkk0 : 0 ≤ k0 ∧ k0 ≤ n := by omega
 have hss0 : 0 ≤ s0 ∧ s0 < 18446744073709551616 := by omega
 obtain ⟨p1, hq1⟩ : ∃ p, x1 * n = p := ⟨_, rfl⟩
 rw [hq1] at hp1 cm1
 obtain ⟨g1, hg1⟩ : ∃ s, p1 / 18446744073709551616 = s := ⟨_, rfl⟩
 obtain ⟨l1, hl1⟩ : ∃ s, p1 % 18446744073709551616 = s := ⟨_, rfl⟩
 rw [hg1, hl1] at cm1
 replace cm1 := Lib.hid cm1
 obtain ⟨s1, hs1⟩ : ∃ s, (l1 + k0 + 0) % 18446744073709551616 = s := ⟨_, rfl⟩
 obtain ⟨c1, hc1⟩ : ∃ s, (l1 + k0 + 0) / 18446744073709551616 = s := ⟨_, rfl⟩
 obtain ⟨k1, hk1⟩ : ∃ s, g1 + c1 = s := ⟨_, rfl⟩
 have hkk1 : 0 ≤ k1 ∧ k1 ≤ n := by omega
 have hss1 : 0 ≤ s1 ∧ s1 < 18446744073709551616 := by omega
 obtain ⟨p2, hq2⟩ : ∃ p, x2 * n = p := ⟨_, rfl⟩
 rw [hq2] at hp2 cm2
 obtain ⟨g2, hg2⟩ : ∃ s, p2 / 18446744073709551616 = s := ⟨_, rfl⟩
 obtain ⟨l2, hl2⟩ : ∃ s, p2 % 18446744073709551616 = s := ⟨_, rfl⟩
 rw [hg2, hl2] at cm2
 replace cm2 := Lib.hid cm2
 obtain ⟨s2, hs2⟩ : ∃ s, (l2 + k1 + 0) % 18446744073709551616 = s := ⟨_, rfl⟩
 obtain ⟨c2, hc2⟩ : ∃ s, (l2 + k1 + 0) / 18446744073709551616 = s := ⟨_, rfl⟩
 obtain ⟨k2, hk2⟩ : ∃ s, g2 + c2 = s := ⟨_, rfl⟩
 have hkk2 : 0 ≤ k2 ∧ k2 ≤ n := by omega
 have hss2 : 0 ≤ s2 ∧ s2 < 18446744073709551616 := by omega
 obtain ⟨p3, hq3⟩ : ∃ p, x3 * n = p := ⟨_, rfl⟩
 rw [hq3] at hp3 cm3
 obtain ⟨g3, hg3⟩ : ∃ s, p3 / 18446744073709551616 = s := ⟨_, rfl⟩
 obtain ⟨l3, hl3⟩ : ∃ s, p3 % 18446744073709551616 = s := ⟨_, rfl⟩
 rw [hg3, hl3] at cm3
 replace cm3 := Lib.hid cm3
 obtain ⟨s3, hs3⟩ : ∃ s, (l3 + k2 + 0) % 18446744073709551616 = s := ⟨_, rfl⟩
 obtain ⟨c3, hc3⟩ : ∃ s, (l3 + k2 + 0) / 18446744073709551616 = s := ⟨_, rfl⟩
 obtain ⟨k3, hk3⟩ : ∃ s, g3 + c3 = s := ⟨_, rfl⟩
 have hkk3 : 0 ≤ k3 ∧ k3 ≤ n := by omega
 have hss3 : 0 ≤ s3 ∧ s3 < 18446744073709551616 := by omega
 obtain ⟨p4, hq4⟩ : ∃ p, x4 * n = p := ⟨_, rfl⟩
 rw [hq4] at hp4 cm4
 obtain ⟨g4, hg4⟩ : ∃ s, p4 / 18446744073709551616 = s := ⟨_, rfl⟩
 obtain ⟨l4, hl4⟩ : ∃ s, p4 % 18446744073709551616 = s := ⟨_, rfl⟩
 rw [hg4, hl4] at cm4
 replace cm4 := Lib.hid cm4
 obtain ⟨s4, hs4⟩ : ∃ s, (l4 + k3 + 0) % 18446744073709551616 = s := ⟨_, rfl⟩
 obtain ⟨c4, hc4⟩ : ∃ s, (l4 + k3 + 0) / 18446744073709551616 = s := ⟨_, rfl⟩
 obtain ⟨k4, hk4⟩ : ∃ s, g4 + c4 = s := ⟨_, rfl⟩
 have hkk4 : 0 ≤ k4 ∧ k4 ≤ n := by omega
 have hss4 : 0 ≤ s4 ∧ s4 < 18446744073709551616 := by omega
 obtain ⟨p5, hq5⟩ : ∃ p, x5 * n = p := ⟨_, rfl⟩
 rw [hq5] at hp5 cm5
 obtain ⟨g5, hg5⟩ : ∃ s, p5 / 18446744073709551616 = s := ⟨_, rfl⟩
 obtain ⟨l5, hl5⟩ : ∃ s, p5 % 18446744073709551616 = s := ⟨_, rfl⟩
 rw [hg5, hl5] at cm5
 replace cm5 := Lib.hid cm5
 obtain ⟨s5, hs5⟩ : ∃ s, (l5 + k4 + 0) % 18446744073709551616 = s := ⟨_, rfl⟩
 obtain ⟨c5, hc5⟩ : ∃ s, (l5 + k4 + 0) / 18446744073709551616 = s := ⟨_, rfl⟩
 obtain ⟨k5, hk5⟩ : ∃ s, g5 + c5 = s := ⟨_, rfl⟩
 have hkk5 : 0 ≤ k5 ∧ k5 ≤ n := by omega
 have hss5 : 0 ≤ s5 ∧ s5 < 18446744073709551616 := by omega
 have heq : (⟨s0, s1, s2, s3, s4, s5⟩ : W6) = W6.of (m * n) := W6.times_eq (c0 := k0) (c1 := k1) (c2 := k2) (c3 := k3) (c4 := k4) (c5 := k5) ⟨by dsimp only; omega, by dsimp only; omega, by dsimp only; omega, by dsimp only; omega, by dsimp only; omega, by dsimp only; omega, by dsimp only; omega, by dsimp only; omega, by dsimp only; omega, by dsimp only; omega, by dsimp only; omega, by dsimp only; omega⟩ (by rw [hx]; dsimp only; omega) (by rw [hx]; dsimp only; omega) (by rw [hx]; dsimp only; omega) (by rw [hx]; dsimp only; omega) (by rw [hx]; dsimp only; omega) (by rw [hx]; dsimp only; omega)
 rw [hx]
 replace heq := Lib.hid heq
 clear hx
 go_enter Tryz.func145, Tryz.ntmps145
 refine wk_start ?_
 refine wk_seq ?_
 refine Wr [1, 1] ?_
 refine Rgn fun g1 => ?_
 simp only [qz]
 refine Rgn fun g2 => ?_
 simp only [qz]
 refine Zr ?_
 refine Wx [0, 0] ?_
 refine rfb_lss rfl rfl rfl rfl ?_
 intro x h1
 obtain rfl : x = false := by (refine h1.symm.trans ?_; exact decide_eq_false Ox)
 clear h1
 simp only [qz]
 refine Zr ?_
 refine Wr [1] ?_
 refine Rgn fun g3 => ?_
 simp only [qz]
 refine Zr ?_
 refine Wx [0] ?_
 refine Zr ?_
 refine Wr [0, 0] ?_
 refine rf_loadR (n := 6) rfl rfl rfl UU166 rfl Kx (fun w hw => Kn.hd0 (Kn.tl (Kn.tl hw))) rfl rfl (Zx ?_)
 refine rg_nil (ek_next (wk_block ?_))
 refine wk_unroll 6 ?_
 refine wk_seq ?_
 refine Wr [0] ?_
 refine rf_lss (b := true) rfl rfl rfl rfl (by decide) (Nq ?_)
 refine Zr ?_
 refine Wx [0, 0, 0, 0] ?_
 refine Zk ?_
 refine Zr ?_
 refine Wx [0, 0, 0, 1, 0, 0, 0, 0, 0] ?_
 refine rf_conv rfl rfl rfl UU3 UU140 (wrap_okU Ox Ox) (Nq ?_)
 apply rg_pure Rx Kx
 case hargs => exact Ax
 case h => exact fun w hw => same_pure (cm0.out w)
 case hz => exact Nz
 refine Zx ?_
 refine Zr ?_
 refine Wx [0] ?_
 refine Zr ?_
 refine Wx [0, 0, 0, 1, 0, 0, 0, 0, 1, 0] ?_
 apply rg_ext Rx
 case hargs => exact Ax
 case h => exact fun w => run_Add64 l0 0 0 s0 c0 Ox Ox Ox Ox hs0 hc0 w
 case hz => exact Nz
 refine Zx ?_
 refine Ia 0 1 0 UU166 ?_
 refine rf_store rfl rfl Kx rfl rfl (UpdR.here _ _ _ Nl) Nz (Zx ?_)
 refine rg_nil (ek_next ?_)
 refine Wx [0, 0, 0, 0] ?_
 refine rf_add rfl rfl rfl rfl (wrap_okU Ox Ox) (Nq ?_)
 rw [hk0]
 refine Zx ?_
 refine Zr ?_
 refine Wr [0, 0] ?_
 refine rf_add (r := 1) rfl rfl rfl rfl (by decide) (Zx ?_)
 refine Zr ?_
 refine Wr [0] ?_
 refine rf_lss (b := true) rfl rfl rfl rfl (by decide) (Nq ?_)
 refine Zr ?_
 refine Wx [0, 0, 0, 0] ?_
 refine Zk ?_
 refine Zr ?_
 refine Wx [0, 0, 0, 1, 0, 0, 0, 0, 0] ?_
 refine rf_conv rfl rfl rfl UU3 UU140 (wrap_okU Ox Ox) (Nq ?_)
 apply rg_pure Rx Kx
 case hargs => exact Ax
 case h => exact fun w hw => same_pure (cm1.out w)
 case hz => exact Nz
 refine Zx ?_
 refine Zr ?_
 refine Wx [0] ?_
 refine Zr ?_
 refine Wx [0, 0, 0, 1, 0, 0, 0, 0, 1, 0] ?_
 apply rg_ext Rx
 case hargs => exact Ax
 case h => exact fun w => run_Add64 l1 k0 0 s1 c1 Ox Ox Ox Ox hs1 hc1 w
 case hz => exact Nz
 refine Zx ?_
 refine Ia 1 1 1 UU166 ?_
 refine rf_store rfl rfl Kx rfl rfl (UpdR.here _ _ _ Nl) Nz (Zx ?_)
 refine rg_nil (ek_next ?_)
 refine Wx [0, 0, 0, 0] ?_
 refine rf_add rfl rfl rfl rfl (wrap_okU Ox Ox) (Nq ?_)
 rw [hk1]
 refine Zx ?_
 refine Zr ?_
 refine Wr [0, 0] ?_
 refine rf_add (r := 2) rfl rfl rfl rfl (by decide) (Zx ?_)
 refine Zr ?_
 refine Wr [0] ?_
 refine rf_lss (b := true) rfl rfl rfl rfl (by decide) (Nq ?_)
 refine Zr ?_
 refine Wx [0, 0, 0, 0] ?_
 refine Zk ?_
 refine Zr ?_
 refine Wx [0, 0, 0, 1, 0, 0, 0, 0, 0] ?_
 refine rf_conv rfl rfl rfl UU3 UU140 (wrap_okU Ox Ox) (Nq ?_)
 apply rg_pure Rx Kx
 case hargs => exact Ax
 case h => exact fun w hw => same_pure (cm2.out w)
 case hz => exact Nz
 refine Zx ?_
 refine Zr ?_
 refine Wx [0] ?_
 refine Zr ?_
 refine Wx [0, 0, 0, 1, 0, 0, 0, 0, 1, 0] ?_
 apply rg_ext Rx
 case hargs => exact Ax
 case h => exact fun w => run_Add64 l2 k1 0 s2 c2 Ox Ox Ox Ox hs2 hc2 w
 case hz => exact Nz
 refine Zx ?_
 refine Ia 2 1 2 UU166 ?_
 refine rf_store rfl rfl Kx rfl rfl (UpdR.here _ _ _ Nl) Nz (Zx ?_)
 refine rg_nil (ek_next ?_)
 refine Wx [0, 0, 0, 0] ?_
 refine rf_add rfl rfl rfl rfl (wrap_okU Ox Ox) (Nq ?_)
 rw [hk2]
 refine Zx ?_
 refine Zr ?_
 refine Wr [0, 0] ?_
 refine rf_add (r := 3) rfl rfl rfl rfl (by decide) (Zx ?_)
 refine Zr ?_
 refine Wr [0] ?_
 refine rf_lss (b := true) rfl rfl rfl rfl (by decide) (Nq ?_)
 refine Zr ?_
 refine Wx [0, 0, 0, 0] ?_
 refine Zk ?_
 refine Zr ?_
 refine Wx [0, 0, 0, 1, 0, 0, 0, 0, 0] ?_
 refine rf_conv rfl rfl rfl UU3 UU140 (wrap_okU Ox Ox) (Nq ?_)
 apply rg_pure Rx Kx
 case hargs => exact Ax
 case h => exact fun w hw => same_pure (cm3.out w)
 case hz => exact Nz
 refine Zx ?_
 refine Zr ?_
 refine Wx [0] ?_
 refine Zr ?_
 refine Wx [0, 0, 0, 1, 0, 0, 0, 0, 1, 0] ?_
 apply rg_ext Rx
 case hargs => exact Ax
 case h => exact fun w => run_Add64 l3 k2 0 s3 c3 Ox Ox Ox Ox hs3 hc3 w
 case hz => exact Nz
 refine Zx ?_
 refine Ia 3 1 3 UU166 ?_
 refine rf_store rfl rfl Kx rfl rfl (UpdR.here _ _ _ Nl) Nz (Zx ?_)
 refine rg_nil (ek_next ?_)
 refine Wx [0, 0, 0, 0] ?_
 refine rf_add rfl rfl rfl rfl (wrap_okU Ox Ox) (Nq ?_)
 rw [hk3]
 refine Zx ?_
 refine Zr ?_
 refine Wr [0, 0] ?_
 refine rf_add (r := 4) rfl rfl rfl rfl (by decide) (Zx ?_)
 refine Zr ?_
 refine Wr [0] ?_
 refine rf_lss (b := true) rfl rfl rfl rfl (by decide) (Nq ?_)
 refine Zr ?_
 refine Wx [0, 0, 0, 0] ?_
 refine Zk ?_
 refine Zr ?_
 refine Wx [0, 0, 0, 1, 0, 0, 0, 0, 0] ?_
 refine rf_conv rfl rfl rfl UU3 UU140 (wrap_okU Ox Ox) (Nq ?_)
 apply rg_pure Rx Kx
 case hargs => exact Ax
 case h => exact fun w hw => same_pure (cm4.out w)
 case hz => exact Nz
 refine Zx ?_
 refine Zr ?_
 refine Wx [0] ?_
 refine Zr ?_
 refine Wx [0, 0, 0, 1, 0, 0, 0, 0, 1, 0] ?_
 apply rg_ext Rx
 case hargs => exact Ax
 case h => exact fun w => run_Add64 l4 k3 0 s4 c4 Ox Ox Ox Ox hs4 hc4 w
 case hz => exact Nz
 refine Zx ?_
 refine Ia 4 1 4 UU166 ?_
 refine rf_store rfl rfl Kx rfl rfl (UpdR.here _ _ _ Nl) Nz (Zx ?_)
 refine rg_nil (ek_next ?_)
 refine Wx [0, 0, 0, 0] ?_
 refine rf_add rfl rfl rfl rfl (wrap_okU Ox Ox) (Nq ?_)
 rw [hk4]
 refine Zx ?_
 refine Zr ?_
 refine Wr [0, 0] ?_
 refine rf_add (r := 5) rfl rfl rfl rfl (by decide) (Zx ?_)
 refine Zr ?_
 refine Wr [0] ?_
 refine rf_lss (b := true) rfl rfl rfl rfl (by decide) (Nq ?_)
 refine Zr ?_
 refine Wx [0, 0, 0, 0] ?_
 refine Zk ?_
 refine Zr ?_
 refine Wx [0, 0, 0, 1, 0, 0, 0, 0, 0] ?_
 refine rf_conv rfl rfl rfl UU3 UU140 (wrap_okU Ox Ox) (Nq ?_)
 apply rg_pure Rx Kx
 case hargs => exact Ax
 case h => exact fun w hw => same_pure (cm5.out w)
 case hz => exact Nz
 refine Zx ?_
 refine Zr ?_
 refine Wx [0] ?_
 refine Zr ?_
 refine Wx [0, 0, 0, 1, 0, 0, 0, 0, 1, 0] ?_
 apply rg_ext Rx
 case hargs => exact Ax
 case h => exact fun w => run_Add64 l5 k4 0 s5 c5 Ox Ox Ox Ox hs5 hc5 w
 case hz => exact Nz
 refine Zx ?_
 refine Ia 5 1 5 UU166 ?_
 refine rf_store rfl rfl Kx rfl rfl (UpdR.here _ _ _ Nl) Nz (Zx ?_)
 refine rg_nil (ek_next ?_)
 refine Wx [0, 0, 0, 0] ?_
 refine rf_add rfl rfl rfl rfl (wrap_okU Ox Ox) (Nq ?_)
 rw [hk5]
 refine Zx ?_
 refine Zr ?_
 refine Wr [0, 0] ?_
 refine rf_add (r := 6) rfl rfl rfl rfl (by decide) (Zx ?_)
 refine Zr ?_
 refine Wr [0] ?_
 refine rf_lss (b := false) rfl rfl rfl rfl (by decide) (Nq ?_)
 refine Zr ?_
 refine Wr [0, 1] ?_
 refine rf_loadR (n := 6) rfl rfl rfl UU166 rfl Kx (fun w hw => Kn.hd0 hw) rfl rfl (Nq ?_)
 refine rf_storeR (n := 6) rfl rfl Kx rfl rfl (UpdR.there _ (UpdR.here _ _ _ Nl)) Nz (Nw ?_)
 refine Zr ?_
 refine ek_ret (fun w hw => ⟨rfl, _, run_results1 rfl rfl (Kn.hd0 (Kn.tl hw)) UU166 rfl Kx, ?_⟩)
 (try simp only [qz])
 exact ⟨by rw [← heq.out] <;> rfl, hw.below⟩
theorem w6times_neg (m n : Int) (h0 : n < 0) (h1 : -9223372036854775807 ≤ n) (w : World) : Calls Tryz.prog 145 #[w6V (W6.of m), .int .i64 n] w fun e w' => e = .returned (w6V (W6.of (m * n))) ∧ Below w.heap.size w w' := by
 go_enter Tryz.func145, Tryz.ntmps145
 refine wk_start ?_
 refine wk_seq ?_
 refine Wr [1, 1] ?_
 refine Rgn fun g1 => ?_
 simp only [qz]
 refine Rgn fun g2 => ?_
 simp only [qz]
 refine Zr ?_
 refine Wx [0, 0] ?_
 refine rfb_lss rfl rfl rfl rfl ?_
 intro x h1
 obtain rfl : x = true := by (refine h1.symm.trans ?_; exact decide_eq_true Ox)
 clear h1
 simp only [qz]
 refine Zr ?_
 refine Wr [0, 1, 0, 0, 1, 1] ?_
 refine rf_loadR (n := 6) rfl rfl rfl UU166 rfl Kx (fun w hw => Kn.hd0 (Kn.tl hw)) rfl rfl (Nq ?_)
 apply rg_pure Rx Kx
 case hargs => exact Ax
 case h => exact fun w hw => w6neg_any m w
 case hz => exact Nz
 refine Zx ?_
 refine rf_neg rfl rfl rfl (wrap_ok Ox Ox) (Nq ?_)
 apply rg_pure Rx Kx
 case hargs => exact Ax
 case h => exact fun w hw => w6times_pos (-m) (-n) Ox Ox w
 case hz => exact Nz
 simp only [qz]
 refine rf_storeR (n := 6) rfl rfl Kx rfl rfl (UpdR.here _ _ _ Nl) Nz (Nw ?_)
 refine Zr ?_
 refine ek_ret (fun w hw => ⟨rfl, _, run_results1 rfl rfl (Kn.hd0 hw) UU166 rfl Kx, ?_⟩)
 (try simp only [qz])
 exact ⟨by rw [show -m * -n = m * n by grind], hw.below⟩
theorem w6times_any (m n : Int) (h0 : -9223372036854775807 ≤ n) (h1 : n ≤ 9223372036854775807) (w : World) : Calls Tryz.prog 145 #[w6V (W6.of m), .int .i64 n] w fun e w' => e = .returned (w6V (W6.of (m * n))) ∧ Below w.heap.size w w' := by
 rcases Int.lt_or_le n 0 with h | h
 ·exact w6times_neg m n h h0 w
 exact w6times_pos m n h h1 w
theorem w6whole_any (n : Int) (h0 : -9223372036854775808 ≤ n) (h1 : n < 9223372036854775808) (w : World) : Calls Tryz.prog 133 #[.int .i64 n] w fun e w' => e = .returned (w6V (W6.of n)) ∧ Below w.heap.size w w' := by
 go_enter Tryz.func133, Tryz.ntmps133
 refine wk_start ?_
 refine wk_seq ?_
 refine Wr [1] ?_
 refine Rgn fun g1 => ?_
 simp only [qz]
 refine Zr ?_
 refine Wx [0, 0, 0, 1, 1] ?_
 refine rf_conv rfl rfl rfl UU3 UU140 (IntKind.wrap_u64 _) (Nq ?_)
 refine rf_build (cs := fun a => #[a.eval (.tmp 6), .int .u64 0, .int .u64 0, .int .u64 0, .int .u64 0, .int .u64 0]) rfl rfl Kx (Nq ?_)
 refine Rgn fun g2 => ?_
 simp only [qz]
 refine rf_storeR (n := 6) rfl rfl Kx rfl rfl (UpdR.here _ _ _ Nl) Nz (Nw ?_)
 refine Zr ?_
 refine Wx [0, 0] ?_
 refine rfb_lss rfl rfl rfl rfl ?_
 rintro (_ | _) h1 <;> try simp only [qd, ne_eq] at h1
 ·simp only [qz]
  refine Zr ?_; refine Wr [0, 1] ?_; refine rf_loadR (n := 6) rfl rfl rfl UU166 rfl Kx (fun w hw => Kn.hd0 hw) rfl rfl (Nq ?_); refine rf_storeR (n := 6) rfl rfl Kx rfl rfl (UpdR.there _ (UpdR.here _ _ _ Nl)) Nz (Nw ?_); refine Zr ?_; refine ek_ret (fun w hw => ⟨rfl, _, run_results1 rfl rfl (Kn.hd0 (Kn.tl hw)) UU166 rfl Kx, ?_⟩); (try simp only [qz])
  exact ⟨by rw [W6.of_whole Ox Ox]; simp [*]; try omega, hw.below⟩
 simp only [qz]
 refine Zr ?_
 refine Wx [0] ?_
 refine rg_nil (ek_next (wk_block ?_))
 refine wk_unroll 6 ?_
 refine wk_seq (wk_seq ?_)
 refine Wx [0, 0] ?_
 refine rf_lss (b := true) rfl rfl rfl rfl (by decide) (Nq ?_)
 refine Zr ?_
 refine Wx [0, 0, 1] ?_
 refine Ia 1 1 1 UU166 ?_
 refine rf_store rfl rfl Kx rfl rfl (UpdR.here _ _ _ Nl) Nz (Nq ?_)
 refine Zr ?_
 refine Wx [0, 0, 0] ?_
 refine rf_add (r := 2) rfl rfl rfl rfl (by decide) (Zx ?_)
 refine Zr ?_
 refine Wx [0, 0] ?_
 refine rf_lss (b := true) rfl rfl rfl rfl (by decide) (Nq ?_)
 refine Zr ?_
 refine Wx [0, 0, 1] ?_
 refine Ia 2 1 2 UU166 ?_
 refine rf_store rfl rfl Kx rfl rfl (UpdR.here _ _ _ Nl) Nz (Nq ?_)
 refine Zr ?_
 refine Wx [0, 0, 0] ?_
 refine rf_add (r := 3) rfl rfl rfl rfl (by decide) (Zx ?_)
 refine Zr ?_
 refine Wx [0, 0] ?_
 refine rf_lss (b := true) rfl rfl rfl rfl (by decide) (Nq ?_)
 refine Zr ?_
 refine Wx [0, 0, 1] ?_
 refine Ia 3 1 3 UU166 ?_
 refine rf_store rfl rfl Kx rfl rfl (UpdR.here _ _ _ Nl) Nz (Nq ?_)
 refine Zr ?_
 refine Wx [0, 0, 0] ?_
 refine rf_add (r := 4) rfl rfl rfl rfl (by decide) (Zx ?_)
 refine Zr ?_
 refine Wx [0, 0] ?_
 refine rf_lss (b := true) rfl rfl rfl rfl (by decide) (Nq ?_)
 refine Zr ?_
 refine Wx [0, 0, 1] ?_
 refine Ia 4 1 4 UU166 ?_
 refine rf_store rfl rfl Kx rfl rfl (UpdR.here _ _ _ Nl) Nz (Nq ?_)
 refine Zr ?_
 refine Wx [0, 0, 0] ?_
 refine rf_add (r := 5) rfl rfl rfl rfl (by decide) (Zx ?_)
 refine Zr ?_
 refine Wx [0, 0] ?_
 refine rf_lss (b := true) rfl rfl rfl rfl (by decide) (Nq ?_)
 refine Zr ?_
 refine Wx [0, 0, 1] ?_
 refine Ia 5 1 5 UU166 ?_
 refine rf_store rfl rfl Kx rfl rfl (UpdR.here _ _ _ Nl) Nz (Nq ?_)
 refine Zr ?_
 refine Wx [0, 0, 0] ?_
 refine rf_add (r := 6) rfl rfl rfl rfl (by decide) (Zx ?_)
 refine Zr ?_
 refine Wx [0, 0] ?_
 refine rf_lss (b := false) rfl rfl rfl rfl (by decide) (Nq ?_)
 refine Zr ?_
 refine Wr [0, 1] ?_
 refine rf_loadR (n := 6) rfl rfl rfl UU166 rfl Kx (fun w hw => Kn.hd0 hw) rfl rfl (Nq ?_)
 refine rf_storeR (n := 6) rfl rfl Kx rfl rfl (UpdR.there _ (UpdR.here _ _ _ Nl)) Nz (Nw ?_)
 refine Zr ?_
 refine ek_ret (fun w hw => ⟨rfl, _, run_results1 rfl rfl (Kn.hd0 (Kn.tl hw)) UU166 rfl Kx, ?_⟩)
 (try simp only [qz])
 exact ⟨by rw [W6.of_whole Ox Ox]; simp [*]; try omega, hw.below⟩
abbrev w6L (x : W6) : List Value := [.int .u64 x.w0, .int .u64 x.w1, .int .u64 x.w2, .int .u64 x.w3, .int .u64 x.w4, .int .u64 x.w5]
def smC (T : Nat → Int) : Array Value := (w6L (W6.of (T 0)) ++ (w6L (W6.of (T 1)) ++ (w6L (W6.of (T 2)) ++ w6L (W6.of (T 3))))).toArray
theorem sm_row {w : World} {g t m : Nat} {T : Nat → Int} (h : Hd w g t (smC T)) (hm : m < 4) : w.rangeAt g (0 + m * 6) (w6L (W6.of (T m))) := by
 have := cells_range h (0 + m * 6) 6
 have e : ((smC T).toList.drop (0 + m * 6)).take 6 = w6L (W6.of (T m)) := by
  rcases lt4 hm with rfl | rfl | rfl | rfl <;> rfl
 rwa [e] at this
theorem sm_idx {m : Nat} {T : Nat → Int} (hm : m < 4) : (smC T).extract (m * 6) (m * 6 + 6) = (w6L (W6.of (T m))).toArray := by
 rcases lt4 hm with rfl | rfl | rfl | rfl <;> rfl
theorem smX0 (x0 x1 x2 x3 y : W6) : setMany (w6L x0 ++ (w6L x1 ++ (w6L x2 ++ w6L x3))).toArray 0 (w6L y) = (w6L y ++ (w6L x1 ++ (w6L x2 ++ w6L x3))).toArray := by kernel_rfl
theorem smX1 (x0 x1 x2 x3 y : W6) : setMany (w6L x0 ++ (w6L x1 ++ (w6L x2 ++ w6L x3))).toArray 6 (w6L y) = (w6L x0 ++ (w6L y ++ (w6L x2 ++ w6L x3))).toArray := by kernel_rfl
theorem smX2 (x0 x1 x2 x3 y : W6) : setMany (w6L x0 ++ (w6L x1 ++ (w6L x2 ++ w6L x3))).toArray 12 (w6L y) = (w6L x0 ++ (w6L x1 ++ (w6L y ++ w6L x3))).toArray := by kernel_rfl
theorem smX3 (x0 x1 x2 x3 y : W6) : setMany (w6L x0 ++ (w6L x1 ++ (w6L x2 ++ w6L x3))).toArray 18 (w6L y) = (w6L x0 ++ (w6L x1 ++ (w6L x2 ++ w6L y))).toArray := by kernel_rfl
theorem sm_set {m : Nat} {T : Nat → Int} {t : Int} (hm : m < 4) : setMany (smC T) (0 + m * 6) (w6L (W6.of t)) = smC (upd T m t) := by
 unfold smC
 rcases lt4 hm with rfl | rfl | rfl | rfl
 ·rw [upd_same, upd_other T t (show 1 ≠ 0 by decide), upd_other T t (show 2 ≠ 0 by decide), upd_other T t (show 3 ≠ 0 by decide)]; exact smX0 ..
 ·rw [upd_same, upd_other T t (show 0 ≠ 1 by decide), upd_other T t (show 2 ≠ 1 by decide), upd_other T t (show 3 ≠ 1 by decide)]; exact smX1 ..
 ·rw [upd_same, upd_other T t (show 0 ≠ 2 by decide), upd_other T t (show 1 ≠ 2 by decide), upd_other T t (show 3 ≠ 2 by decide)]; exact smX2 ..
 rw [upd_same, upd_other T t (show 0 ≠ 3 by decide), upd_other T t (show 1 ≠ 3 by decide), upd_other T t (show 2 ≠ 3 by decide)]; exact smX3 ..
theorem sm_set' {m : Nat} {T : Nat → Int} {t : Int} (hm : m < 4) : ((((((smC T).setIfInBounds (0 + m * 6) (.int .u64 (W6.of t).w0)).setIfInBounds (0 + m * 6 + 1) (.int .u64 (W6.of t).w1)).setIfInBounds (0 + m * 6 + 1 + 1) (.int .u64 (W6.of t).w2)).setIfInBounds (0 + m * 6 + 1 + 1 + 1) (.int .u64 (W6.of t).w3)).setIfInBounds
    (0 + m * 6 + 1 + 1 + 1 + 1) (.int .u64 (W6.of t).w4)).setIfInBounds (0 + m * 6 + 1 + 1 + 1 + 1 + 1) (.int .u64 (W6.of t).w5) = smC (upd T m t) := by rw [← sm_set hm]; simp only [setMany]
theorem w6_zero : W6.of 0 = ⟨0, 0, 0, 0, 0, 0⟩ := by decide
theorem sm_zero : (#[.int .u64 0, .int .u64 0, .int .u64 0, .int .u64 0, .int .u64 0, .int .u64 0, .int .u64 0, .int .u64 0, .int .u64 0, .int .u64 0, .int .u64 0, .int .u64 0, .int .u64 0, .int .u64 0, .int .u64 0, .int .u64 0, .int .u64 0, .int .u64 0, .int .u64 0, .int .u64 0, .int .u64 0, .int .u64 0, .int .u64 0, .int .u64 0] : Array Value) = smC (fun _ => 0) := by
 unfold smC
 rw [w6_zero]
 rfl
theorem sm_all {w : World} {g t : Nat} {T : Nat → Int} (h : Hd w g t (smC T)) : w.rangeAt g 0 (smC T).toList := by
 have := cells_range h 0 24
 have e : ((smC T).toList.drop 0).take 24 = (smC T).toList := rfl
 rwa [e] at this
theorem acc_congr {X X' Y Y' : Nat → Int} (hX : ∀ i, i < 4 → X i = X' i) (hY : ∀ i, i < 4 → Y i = Y' i) : ∀ n m, n ≤ 16 → acc X Y n m = acc X' Y' n m
  | 0, m, _ => rfl
  | n + 1, m, h => by
    simp only [acc]; rw [acc_congr hX hY n m Ox, hX (n / 4) Ox, hY (n % 4) Ox]
theorem smC_congr {T T' : Nat → Int} (h : ∀ m, m < 4 → T m = T' m) : smC T = smC T' := by
 unfold smC
 rw [h 0 (by decide), h 1 (by decide), h 2 (by decide), h 3 (by decide)]
def pls (X Y : Nat → Int) (i m : Nat) : Int := if m < i then X m + Y m else X m
theorem pls_step (X Y : Nat → Int) (i : Nat) : upd (pls X Y i) i (X i + Y i) = pls X Y (i + 1) := by
 funext m
 unfold upd pls
 by_cases h : m = i
 ·subst h; rw [if_pos rfl, if_pos Ox]
 rw [if_neg h]
 by_cases h2 : m < i
 ·rw [if_pos h2, if_pos Ox]
 rw [if_neg h2, if_neg Ox]
theorem pls_at (X Y : Nat → Int) (i : Nat) : pls X Y i i = X i := if_neg Ox
theorem pls_0 (X Y : Nat → Int) : pls X Y 0 = X := by funext m; exact if_neg Ox
theorem pls_4 (X Y : Nat → Int) : smC (pls X Y 4) = smC (fun m => X m + Y m) := smC_congr fun m hm => if_pos hm
theorem sm_whole {T : Nat → Int} : setMany (#[.int .u64 0, .int .u64 0, .int .u64 0, .int .u64 0, .int .u64 0, .int .u64 0, .int .u64 0, .int .u64 0, .int .u64 0, .int .u64 0, .int .u64 0, .int .u64 0, .int .u64 0, .int .u64 0, .int .u64 0, .int .u64 0, .int .u64 0, .int .u64 0, .int .u64 0, .int .u64 0, .int .u64 0, .int .u64 0, .int .u64 0, .int .u64 0] : Array Value) 0 (smC T).toList = smC T := by kernel_rfl
theorem smplus_any (X Y : Nat → Int) (w : World) : Calls Tryz.prog 126 #[.agg (smC X), .agg (smC Y)] w fun e w' => e = .returned (.agg (smC (fun m => X m + Y m))) ∧ Below w.heap.size w w' := by
 rw [show smC X = smC (pls X Y 0) by rw [pls_0]]
 go_enter Tryz.func126, Tryz.ntmps126
 refine wk_start ?_
 refine wk_seq ?_
 refine Wr [1, 1, 1] ?_
 refine Rgn fun g1 => ?_
 simp only [qz]
 refine Rgn fun g2 => ?_
 simp only [qz]
 refine Rgn fun g3 => ?_
 simp only [qz]
 refine Zr ?_
 refine Wm [0] ?_
 refine Zr ?_
 refine wk_loopF [5, 6, 7, 8, 9, 10, 11, 12, 13, 14, 15, 16, 17, 18] (fun mz f s => ∃ (i : Nat), f 6 = .int .i64 i ∧ s = ((g3, .cells #[.int .u64 0, .int .u64 0, .int .u64 0, .int .u64 0, .int .u64 0, .int .u64 0, .int .u64 0, .int .u64 0, .int .u64 0, .int .u64 0, .int .u64 0, .int .u64 0, .int .u64 0, .int .u64 0, .int .u64 0, .int .u64 0, .int .u64 0, .int .u64 0, .int .u64 0, .int .u64 0, .int .u64 0, .int .u64 0, .int .u64 0, .int .u64 0] 168) :: ((g2, .cells (smC Y) 168) :: ((g1, .cells (smC (pls X Y i)) 168) :: []))) ∧ mz = 4 - i ∧ i ≤ 4) ((fun (i : Nat) => 4 - i) (0)) ?_ Kx ?_
 ·exact ⟨0, rfl, rfl, rfl, by omega⟩
 rintro mz f1 s ⟨i, hs1_6, rfl, hn, hd1⟩
 simp only [Act.putF, List.foldl_cons, List.foldl_nil, hs1_6, Act.put, Act.eval, qW, Nat.reduceAdd, Bool.not_true, Bool.not_false]
 clear hs1_6
 refine wk_seq ?_
 refine Wr [0] ?_
 refine rfb_lss rfl rfl rfl rfl ?_
 rintro (_ | _) h1 <;> try simp only [qd, ne_eq] at h1
 ·simp only [qz]
  refine Zr ?_
  obtain rfl : i = 4 := by omega
  refine Wr [0, 1] ?_; refine rf_loadC (n := 24) (vs := (smC (pls X Y 4)).toList) rfl rfl rfl UU168 rfl Kx rfl (fun w hw => sm_all (Kn.hd0 (Kn.tl (Kn.tl hw)))) (Nq ?_); refine rf_storeR (n := 24) (vs := (smC (pls X Y 4)).toList) rfl rfl Kx rfl rfl (UpdR.here _ _ _ Nl) Nz ?_; rw [sm_whole]; simp only [qz]; refine Zr ?_; refine ek_ret (fun w hw => ⟨rfl, _, run_results1 rfl rfl (Kn.hd0 hw) UU168 rfl Kx, ?_⟩)
  (try simp only [qz])
  exact ⟨by rw [← pls_4], hw.below⟩
 simp only [qz]
 refine Zr ?_
 refine Wm [0, 0] ?_
 refine rg_nil (ek_next ?_)
 refine wk_draws_m (hz1 := (sc _ (sc _ (sk _ sn)))) [(0, 0), (1, 0), (2, 0), (3, 0), (4, 0), (5, 0), (6, 0), (7, 1), (8, 0), (9, 2)] 9 Kx Kx (fun c d v a w h => by cases d <;> exact h) ?_
 simp only [List.map_cons, List.map_nil, List.getD_cons_zero, List.getD_cons_succ]
 refine Zm ?_
 refine rf_indexA (n := i) (sz := 6) (j := 0 + i * 6) rfl rfl rfl rfl UU168 Kx Ox rfl (Nq ?_)
 refine rf_loadC (n := 6) (vs := w6L (W6.of ((pls X Y i) i))) rfl rfl rfl UU166 rfl Kx rfl (fun w hw => sm_row (Kn.hd0 (Kn.tl (Kn.tl hw))) Ox) (Zm ?_)
 refine rf_indexA (n := i) (sz := 6) (j := 0 + i * 6) rfl rfl rfl rfl UU168 Kx Ox rfl (Nq ?_)
 refine rf_loadC (n := 6) (vs := w6L (W6.of (Y i))) rfl rfl rfl UU166 rfl Kx rfl (fun w hw => sm_row (Kn.hd0 (Kn.tl hw)) Ox) (Nq ?_)
 apply rg_pure Rx Kx
 case hargs => exact Ax
 case h => exact fun w hw => by have := w6add_any (pls X Y i i) (Y i) w; rw [pls_at] at this; rw [pls_at]; exact this
 case hz => exact (fun _ h => by cases h; exact (sc _ (sc _ (sc _ sn))))
 simp only [qz]
 refine rf_indexA (n := i) (sz := 6) (j := 0 + i * 6) rfl rfl rfl rfl UU168 Kx Ox rfl (Nq ?_)
 refine rf_storeRM (n := 6) (vs := w6L (W6.of (X i + Y i))) rfl rfl Kx rfl rfl (UpdR.there _ (UpdR.there _ (UpdR.here _ _ _ (show 0 + i * 6 + 6 ≤ 24 by omega)))) (sc _ (sc _ (sk _ sn))) (Nw ?_)
 refine Zr ?_
 refine Wr [0, 0] ?_
 refine rf_add rfl rfl rfl rfl (wrap_ok Ox Ox) (Zm ?_)
 refine rg_nil ?_
 refine ek_roundF (4 - (i + 1)) Ox Kx ?_
 exact ⟨i + 1, rfl, (by rw [sm_set' Ox, pls_step]), by rfl, by omega⟩
theorem ar_idx {Y : Nat → Int} {k : Nat} (h : k < 4) : (#[.int .i64 (Y 0), .int .i64 (Y 1), .int .i64 (Y 2), .int .i64 (Y 3)] : Array Value)[k]? = some (.int .i64 (Y k)) := by
 rcases lt4 h with rfl | rfl | rfl | rfl <;> rfl
theorem smtimes_any (X Y : Nat → Int) (hY : ∀ k, k < 4 → -9223372036854775807 ≤ Y k ∧ Y k ≤ 9223372036854775807) (w : World) : Calls Tryz.prog 127 #[.agg (smC X), .agg #[.int .i64 (Y 0), .int .i64 (Y 1), .int .i64 (Y 2), .int .i64 (Y 3)]] w fun e w' => e = .returned (.agg (smC (acc X Y 16))) ∧ Below w.heap.size w w' := by
 go_enter Tryz.func127, Tryz.ntmps127
 refine wk_start ?_
 refine wk_seq ?_
 refine Wr [1, 1, 1] ?_
 refine Rgn fun g1 => ?_
 simp only [qz]
 refine Rgn fun g2 => ?_
 simp only [qz]
 refine Rgn fun g3 => ?_
 simp only [qz]
 refine Zr ?_
 refine Wr [1] ?_
 refine Rgn fun g4 => ?_
 simp only [qz]
 refine Zr ?_
 have hz24 := sm_zero
 rw [show ([(g4, Obj.cells (#[.int .u64 0, .int .u64 0, .int .u64 0, .int .u64 0, .int .u64 0, .int .u64 0, .int .u64 0, .int .u64 0, .int .u64 0, .int .u64 0, .int .u64 0, .int .u64 0, .int .u64 0, .int .u64 0, .int .u64 0, .int .u64 0, .int .u64 0, .int .u64 0, .int .u64 0, .int .u64 0, .int .u64 0, .int .u64 0, .int .u64 0, .int .u64 0]) 168), (g3, Obj.cells (#[.int .u64 0, .int .u64 0, .int .u64 0, .int .u64 0, .int .u64 0, .int .u64 0, .int .u64 0, .int .u64 0, .int .u64 0, .int .u64 0, .int .u64 0, .int .u64 0, .int .u64 0, .int .u64 0, .int .u64 0, .int .u64 0, .int .u64 0, .int .u64 0, .int .u64 0, .int .u64 0, .int .u64 0, .int .u64 0, .int .u64 0, .int .u64 0]) 168), (g2, Obj.cells (#[.int .i64 (Y 0), .int .i64 (Y 1), .int .i64 (Y 2), .int .i64 (Y 3)]) 42), (g1, Obj.cells (smC X) 168)] : List Blk) = [(g4, Obj.cells (smC fun _ => 0) 168), (g3, Obj.cells (#[.int .u64 0, .int .u64 0, .int .u64 0, .int .u64 0, .int .u64 0, .int .u64 0, .int .u64 0, .int .u64 0, .int .u64 0, .int .u64 0, .int .u64 0, .int .u64 0, .int .u64 0, .int .u64 0, .int .u64 0, .int .u64 0, .int .u64 0, .int .u64 0, .int .u64 0, .int .u64 0, .int .u64 0, .int .u64 0, .int .u64 0, .int .u64 0]) 168), (g2, Obj.cells (#[.int .i64 (Y 0), .int .i64 (Y 1), .int .i64 (Y 2), .int .i64 (Y 3)]) 42), (g1, Obj.cells (smC X) 168)] from congrArg (fun c => [(g4, Obj.cells c 168), (g3, Obj.cells (#[.int .u64 0, .int .u64 0, .int .u64 0, .int .u64 0, .int .u64 0, .int .u64 0, .int .u64 0, .int .u64 0, .int .u64 0, .int .u64 0, .int .u64 0, .int .u64 0, .int .u64 0, .int .u64 0, .int .u64 0, .int .u64 0, .int .u64 0, .int .u64 0, .int .u64 0, .int .u64 0, .int .u64 0, .int .u64 0, .int .u64 0, .int .u64 0]) 168), (g2, Obj.cells (#[.int .i64 (Y 0), .int .i64 (Y 1), .int .i64 (Y 2), .int .i64 (Y 3)]) 42), (g1, Obj.cells (smC X) 168)]) hz24]
 clear hz24
 refine Wr [0, 0] ?_
 refine rf_loadC (n := 24) (vs := (smC X).toList) rfl rfl rfl UU168 rfl Kx rfl (fun w hw => sm_all (Kn.hd0 (Kn.tl (Kn.tl (Kn.tl hw))))) ?_
 rw [show (smC X).toList.toArray = smC X by simp]
 refine Zm ?_
 refine Zr ?_
 refine wk_loopF [6, 7, 8, 9, 11, 12, 13, 14, 15, 16, 17, 18, 19, 20, 21, 22, 23, 24, 25, 26, 27, 28, 29, 30, 31, 32, 33, 34, 35, 36, 37, 38, 39, 40, 41, 42] (fun mz f s => ∃ (i : Nat) (T : Nat → Int), f 11 = .int .i64 i ∧ s = ((g4, .cells (smC T) 168) :: ((g3, .cells #[.int .u64 0, .int .u64 0, .int .u64 0, .int .u64 0, .int .u64 0, .int .u64 0, .int .u64 0, .int .u64 0, .int .u64 0, .int .u64 0, .int .u64 0, .int .u64 0, .int .u64 0, .int .u64 0, .int .u64 0, .int .u64 0, .int .u64 0, .int .u64 0, .int .u64 0, .int .u64 0, .int .u64 0, .int .u64 0, .int .u64 0, .int .u64 0] 168) :: ((g2, .cells #[.int .i64 (Y 0), .int .i64 (Y 1), .int .i64 (Y 2), .int .i64 (Y 3)] 42) :: ((g1, .cells (smC X) 168) :: [])))) ∧ mz = 4 - i ∧ i ≤ 4 ∧ Hid (acc X Y (i * 4) = T)) ((fun (i : Nat) (T : Nat → Int) => 4 - i) (0) (fun _ => 0)) ?_ Kx ?_
 ·exact ⟨0, fun _ => 0, rfl, rfl, rfl, by omega, (Lib.hid rfl)⟩
 rintro mz f1 s ⟨i, T, hs1_11, rfl, hn, hd1, hd2⟩
 simp only [Act.putF, List.foldl_cons, List.foldl_nil, hs1_11, Act.put, Act.eval, qW, Nat.reduceAdd, Bool.not_true, Bool.not_false]
 clear hs1_11
 have hac := hd2
 clear hd2
 refine wk_seq ?_
 refine Wr [0] ?_
 refine rfb_lss rfl rfl rfl rfl ?_
 rintro (_ | _) h1 <;> try simp only [qd, ne_eq] at h1
 ·simp only [qz]
  refine Zr ?_
  obtain rfl : i = 4 := by omega
  refine Wr [0, 1] ?_; refine rf_loadC (n := 24) (vs := (smC T).toList) rfl rfl rfl UU168 rfl Kx rfl (fun w hw => sm_all (Kn.hd0 hw)) (Nq ?_); refine rf_storeR (n := 24) (vs := (smC T).toList) rfl rfl Kx rfl rfl (UpdR.there _ (UpdR.here _ _ _ Nl)) Nz ?_; rw [sm_whole]; simp only [qz]; refine Zr ?_; refine ek_ret (fun w hw => ⟨rfl, _, run_results1 rfl rfl (Kn.hd0 (Kn.tl hw)) UU168 rfl Kx, ?_⟩)
  (try simp only [qz])
  exact ⟨by rw [show acc X Y 16 = T from hac.out], hw.below⟩
 simp only [qz]
 refine Zr ?_
 refine Wm [0, 0, 1, 0, 1] ?_
 refine rf_idxR (n := i) (sz := 6) rfl rfl rfl rfl UU168 UU166 rfl Kx Ox (sm_idx Ox) (Nq ?_)
 refine Rgn fun g5 => ?_
 refine Zm ?_
 refine rf_storeR (n := 6) rfl rfl Kx rfl rfl (UpdR.here _ _ _ Nl) Nz (Nw ?_)
 refine Zr ?_
 refine Wr [0, 0] ?_
 refine rf_loadR (n := 4) rfl rfl rfl UU42 rfl Kx (fun w hw => Kn.hd0 (Kn.tl (Kn.tl (Kn.tl hw)))) rfl rfl (Zm ?_)
 refine Zr ?_
 refine wk_loopF [8, 9, 16, 17, 18, 19, 20, 21, 22, 23, 24, 25, 26, 27, 28, 29, 30, 31, 32, 33, 34, 35, 36, 37, 38, 39, 40, 41] (fun mz f s => ∃ (k : Nat) (T2 : Nat → Int), f 16 = .int .i64 k ∧ s = ((g5, .cells (w6L (W6.of (X i))).toArray 166) :: ((g4, .cells (smC T2) 168) :: ((g3, .cells #[.int .u64 0, .int .u64 0, .int .u64 0, .int .u64 0, .int .u64 0, .int .u64 0, .int .u64 0, .int .u64 0, .int .u64 0, .int .u64 0, .int .u64 0, .int .u64 0, .int .u64 0, .int .u64 0, .int .u64 0, .int .u64 0, .int .u64 0, .int .u64 0, .int .u64 0, .int .u64 0, .int .u64 0, .int .u64 0, .int .u64 0, .int .u64 0] 168) :: ((g2, .cells #[.int .i64 (Y 0), .int .i64 (Y 1), .int .i64 (Y 2), .int .i64 (Y 3)] 42) :: ((g1, .cells (smC X) 168) :: []))))) ∧ mz = 4 - k ∧ k ≤ 4 ∧ Hid (acc X Y (i * 4 + k) = T2)) ((fun (k : Nat) (T2 : Nat → Int) => 4 - k) (0) (T)) ?_ Kx ?_
 ·exact ⟨0, T, rfl, rfl, rfl, by omega, hac⟩
 rintro mz f2 s ⟨k, T2, hs2_16, rfl, hn, he1, he2⟩
 simp only [Act.putF, List.foldl_cons, List.foldl_nil, hs2_16, Act.put, Act.eval, qW, Nat.reduceAdd, Bool.not_true, Bool.not_false]
 clear hs2_16
 have hac2 := he2
 clear he2
 refine wk_seq ?_
 refine Wr [0] ?_
 refine rfb_lss rfl rfl rfl rfl ?_
 rintro (_ | _) h2 <;> try simp only [qd, ne_eq] at h2
 ·simp only [qz]
  refine Zr ?_; refine Wr [0, 0] ?_; refine rf_add rfl rfl rfl rfl (wrap_ok Ox Ox) (Zm ?_); refine rg_nil ?_
  obtain rfl : k = 4 := by omega
  have hac' : acc X Y ((i + 1) * 4) = T2 := by rw [← hac2.out]; congr 1; omega
  refine ek_sub (sk _ (sc _ (sc _ (sc _ (sc _ sn))))) ?_; refine ek_roundF (4 - (i + 1)) Ox Kx ?_
  exact ⟨i + 1, T2, rfl, by rfl, by rfl, Ox, (Lib.hid hac')⟩
 simp only [qz]
 have hyk := hY k Ox
 refine Zr ?_
 refine Wm [0, 0, 0, 0] ?_
 refine rf_idx1 (n := k) rfl rfl rfl rfl UU42 UU3 rfl Kx Ox (ar_idx Ox) (Zm ?_)
 refine Zr ?_
 refine Wm [0, 0, 0, 0] ?_
 refine rf_add rfl rfl rfl rfl (wrap_ok Ox Ox) (Nq ?_)
 refine rfb_geq rfl rfl rfl rfl ?_
 rintro (_ | _) h3 <;> try simp only [qd, ne_eq] at h3
 ·simp only [qz]
  refine Zr ?_; refine wk_draws_m (hz1 := (sc _ (sk _ (sc _ (sc _ (sc _ sn)))))) [(0, 0), (1, 0), (2, 0), (3, 0), (4, 0), (5, 0), (6, 0), (7, 0), (8, 0), (9, 0), (10, 0), (11, 0), (12, 1), (13, 1), (14, 0), (15, 2)] 15 Kx Kx (fun c d v a w h => by cases d <;> exact h) ?_; simp only [List.map_cons, List.map_nil, List.getD_cons_zero, List.getD_cons_succ]; refine Zm ?_; refine rf_add rfl rfl rfl rfl (wrap_ok Ox Ox) (Nq ?_)
  refine rf_rem (r := (((i + k) % 4 : Nat) : Int)) rfl rfl rfl rfl (by decide) ((rem_ok Ox).trans Ox) (Zm ?_); refine rf_add rfl rfl rfl rfl (wrap_ok Ox Ox) (Nq ?_); refine rf_rem (r := (((i + k) % 4 : Nat) : Int)) rfl rfl rfl rfl (by decide) ((rem_ok Ox).trans Ox) (Nq ?_); refine rf_indexA (n := (i + k) % 4) (sz := 6) (j := 0 + ((i + k) % 4) * 6) rfl rfl rfl rfl UU168 Kx Ox rfl (Nq ?_); refine rf_loadC (n := 6) (vs := w6L (W6.of (T2 ((i + k) % 4)))) rfl rfl rfl UU166 rfl Kx rfl (fun w hw => sm_row (Kn.hd0 (Kn.tl hw)) Ox) (Nq ?_)
  refine rf_loadR (n := 6) rfl rfl rfl UU166 rfl Kx (fun w hw => Kn.hd0 hw) rfl rfl (Zm ?_); apply rg_pure Rx Kx
  case hargs => exact Ax
  case h => exact fun w hw => w6times_any (X i) (Y k) Ox Ox w
  case hz => exact (fun _ h => by cases h; exact (sc _ (sc _ (sc _ (sc _ (sc _ sn))))))
  simp only [qz]; apply rg_pure Rx Kx
  case hargs => exact Ax
  case h => exact fun w hw => w6add_any (T2 ((i + k) % 4)) (X i * Y k) w
  case hz => exact (fun _ h => by cases h; exact (sc _ (sc _ (sc _ (sc _ (sc _ sn))))))
  simp only [qz]; refine rf_indexA (n := (i + k) % 4) (sz := 6) (j := 0 + ((i + k) % 4) * 6) rfl rfl rfl rfl UU168 Kx Ox rfl (Nq ?_); refine rf_storeRM (n := 6) (vs := w6L (W6.of (T2 ((i + k) % 4) + X i * Y k))) rfl rfl Kx rfl rfl (UpdR.there _ (UpdR.here _ _ _ (show 0 + ((i + k) % 4) * 6 + 6 ≤ 24 by omega))) (sc _ (sk _ (sc _ (sc _ (sc _ sn))))) (Nw ?_); refine Zr ?_; refine Wr [0, 0] ?_; refine rf_add rfl rfl rfl rfl (wrap_ok Ox Ox) (Zm ?_)
  refine rg_nil ?_; refine ek_roundF (4 - (k + 1)) Ox Kx ?_
  exact ⟨k + 1, upd T2 ((i + k) % 4) (T2 ((i + k) % 4) + X i * Y k), rfl, (by rw [sm_set' Ox]), by rfl, Ox, (Lib.hid (by rw [acc_step Ox hac2.out, if_neg Ox]))⟩
 simp only [qz]
 refine Zr ?_
 refine Wm [0, 0, 0] ?_
 refine rf_neg rfl rfl rfl (wrap_ok Ox Ox) (Zm ?_)
 refine rg_nil (ek_next ?_)
 refine wk_draws_m (hz1 := (sc _ (sk _ (sc _ (sc _ (sc _ sn)))))) [(0, 0), (1, 0), (2, 0), (3, 0), (4, 0), (5, 0), (6, 0), (7, 0), (8, 0), (9, 0), (10, 0), (11, 0), (12, 1), (13, 1), (14, 0), (15, 2)] 15 Kx Kx (fun c d v a w h => by cases d <;> exact h) ?_
 simp only [List.map_cons, List.map_nil, List.getD_cons_zero, List.getD_cons_succ]
 refine Zm ?_
 refine rf_add rfl rfl rfl rfl (wrap_ok Ox Ox) (Nq ?_)
 refine rf_rem (r := (((i + k) % 4 : Nat) : Int)) rfl rfl rfl rfl (by decide) ((rem_ok Ox).trans Ox) (Zm ?_)
 refine rf_add rfl rfl rfl rfl (wrap_ok Ox Ox) (Nq ?_)
 refine rf_rem (r := (((i + k) % 4 : Nat) : Int)) rfl rfl rfl rfl (by decide) ((rem_ok Ox).trans Ox) (Nq ?_)
 refine rf_indexA (n := (i + k) % 4) (sz := 6) (j := 0 + ((i + k) % 4) * 6) rfl rfl rfl rfl UU168 Kx Ox rfl (Nq ?_)
 refine rf_loadC (n := 6) (vs := w6L (W6.of (T2 ((i + k) % 4)))) rfl rfl rfl UU166 rfl Kx rfl (fun w hw => sm_row (Kn.hd0 (Kn.tl hw)) Ox) (Nq ?_)
 refine rf_loadR (n := 6) rfl rfl rfl UU166 rfl Kx (fun w hw => Kn.hd0 hw) rfl rfl (Zm ?_)
 apply rg_pure Rx Kx
 case hargs => exact Ax
 case h => exact fun w hw => by have := w6times_any (X i) (-(Y k)) Ox Ox w; rw [Int.mul_neg] at this; exact this
 case hz => exact (fun _ h => by cases h; exact (sc _ (sc _ (sc _ (sc _ (sc _ sn))))))
 simp only [qz]
 apply rg_pure Rx Kx
 case hargs => exact Ax
 case h => exact fun w hw => w6add_any (T2 ((i + k) % 4)) (-(X i * Y k)) w
 case hz => exact (fun _ h => by cases h; exact (sc _ (sc _ (sc _ (sc _ (sc _ sn))))))
 simp only [qz]
 refine rf_indexA (n := (i + k) % 4) (sz := 6) (j := 0 + ((i + k) % 4) * 6) rfl rfl rfl rfl UU168 Kx Ox rfl (Nq ?_)
 refine rf_storeRM (n := 6) (vs := w6L (W6.of (T2 ((i + k) % 4) + -(X i * Y k)))) rfl rfl Kx rfl rfl (UpdR.there _ (UpdR.here _ _ _ (show 0 + ((i + k) % 4) * 6 + 6 ≤ 24 by omega))) (sc _ (sk _ (sc _ (sc _ (sc _ sn))))) (Nw ?_)
 refine Zr ?_
 refine Wr [0, 0] ?_
 refine rf_add rfl rfl rfl rfl (wrap_ok Ox Ox) (Zm ?_)
 refine rg_nil ?_
 refine ek_roundF (4 - (k + 1)) Ox Kx ?_
 exact ⟨k + 1, upd T2 ((i + k) % 4) (T2 ((i + k) % 4) + -(X i * Y k)), rfl, (by rw [sm_set' Ox]), by rfl, Ox, (Lib.hid (by rw [acc_step Ox hac2.out, if_pos Ox]))⟩
theorem sm_one : (#[.int .u64 (W6.of 1).w0, .int .u64 (W6.of 1).w1, .int .u64 (W6.of 1).w2, .int .u64 (W6.of 1).w3, .int .u64 (W6.of 1).w4, .int .u64 (W6.of 1).w5, .int .u64 0, .int .u64 0, .int .u64 0, .int .u64 0, .int .u64 0, .int .u64 0, .int .u64 0, .int .u64 0, .int .u64 0, .int .u64 0, .int .u64 0, .int .u64 0, .int .u64 0, .int .u64 0, .int .u64 0, .int .u64 0, .int .u64 0, .int .u64 0] : Array Value) = smC (sel4 1 0 0 0) := by
 unfold smC
 simp only [sel4]
 rw [w6_zero]
 rfl
theorem smone_any  (w : World) : Calls Tryz.prog 124 #[] w fun e w' => e = .returned (.agg (smC (sel4 1 0 0 0))) ∧ Below w.heap.size w w' := by
 go_enter Tryz.func124, Tryz.ntmps124
 refine wk_start ?_
 refine wk_seq ?_
 refine Wr [1] ?_
 refine Rgn fun g1 => ?_
 simp only [qz]
 refine Zr ?_
 refine Wr [1, 0, 1] ?_
 apply rg_pure Rx Kx
 case hargs => exact Ax
 case h => exact fun w hw => w6whole_any 1 (by decide) (by decide) w
 case hz => exact Nz
 simp only [qz]
 refine rf_build (cs := fun a => #[cellAt (a.eval (.tmp 1)) 0, cellAt (a.eval (.tmp 1)) 1, cellAt (a.eval (.tmp 1)) 2, cellAt (a.eval (.tmp 1)) 3, cellAt (a.eval (.tmp 1)) 4, cellAt (a.eval (.tmp 1)) 5, .int .u64 0, .int .u64 0, .int .u64 0, .int .u64 0, .int .u64 0, .int .u64 0, .int .u64 0, .int .u64 0, .int .u64 0, .int .u64 0, .int .u64 0, .int .u64 0, .int .u64 0, .int .u64 0, .int .u64 0, .int .u64 0, .int .u64 0, .int .u64 0]) rfl rfl Kx (Nq ?_)
 refine rf_storeR (n := 24) rfl rfl Kx rfl rfl (UpdR.here _ _ _ Nl) Nz (Nw ?_)
 refine Zr ?_
 refine ek_ret (fun w hw => ⟨rfl, _, run_results1 rfl rfl (Kn.hd0 hw) UU168 rfl Kx, ?_⟩)
 (try simp only [qz])
 exact ⟨by rw [sm_one], hw.below⟩
theorem w6_eqIn (x y : W6) (w : World) : (Op.equalIn 9999 166 (w6V x) (w6V y)).run Tryz.prog w = .ok (decide (x = y)) w := by
 have u3 := UU140
 have a3 := Tryz.isAgg140
 have z3 := Tryz.sizeOf140
 obtain ⟨x0, x1, x2, x3, x4, x5⟩ := x
 obtain ⟨y0, y1, y2, y3, y4, y5⟩ := y
 rw [show (9999 : Nat) = 9998 + 1 from rfl, Op.equalIn]
 simp only [Sem.run_bind, run_underlying UU166, Result.andThen_ok]
 simp only [Std.Legacy.Range.forIn_eq_forIn_range', Std.Legacy.Range.size, Nat.sub_zero, Nat.add_sub_cancel, Nat.div_one, List.range'_succ, List.range'_zero, List.forIn_cons, List.forIn_nil]
 go_simp
 by_cases h0 : x0 = y0
 ·by_cases h1 : x1 = y1
  ·by_cases h2 : x2 = y2
   ·by_cases h3 : x3 = y3
    ·by_cases h4 : x4 = y4
     ·by_cases h5 : x5 = y5 <;> simp [h0, h1, h2, h3, h4, h5]
     simp [h0, h1, h2, h3, h4]
    simp [h0, h1, h2, h3]
   simp [h0, h1, h2]
  simp [h0, h1]
 simp [h0]
def smEq (X Y : Nat → Int) : Bool := decide (W6.of (X 0) = W6.of (Y 0)) && (decide (W6.of (X 1) = W6.of (Y 1)) && (decide (W6.of (X 2) = W6.of (Y 2)) && decide (W6.of (X 3) = W6.of (Y 3))))
theorem part_sm {X : Nat → Int} {m : Nat} (hm : m < 4) (w : World) : (part 166 (smC X) (m * 6)).run Tryz.prog w = .ok (w6V (W6.of (X m))) w := by
 unfold part
 have ha := run_isAgg (P := Tryz.prog) UU166 w
 have hz := Tryz.sizeOf166 w
 simp only [isRow] at ha
 rw [Sem.run_bind, ha, Result.andThen_ok]
 simp only [if_true, Sem.run_bind, hz, Result.andThen_ok, Sem.run_pure]
 rw [sm_idx hm]
theorem sm_eqIn (X Y : Nat → Int) (w : World) : (Op.equalIn 10000 168 (.agg (smC X)) (.agg (smC Y))).run Tryz.prog w = .ok (smEq X Y) w := by
 have z4 := Tryz.sizeOf166
 have p0 := part_sm (X := X) (m := 0) (by decide)
 have p1 := part_sm (X := X) (m := 1) (by decide)
 have p2 := part_sm (X := X) (m := 2) (by decide)
 have p3 := part_sm (X := X) (m := 3) (by decide)
 have r0 := part_sm (X := Y) (m := 0) (by decide)
 have r1 := part_sm (X := Y) (m := 1) (by decide)
 have r2 := part_sm (X := Y) (m := 2) (by decide)
 have r3 := part_sm (X := Y) (m := 3) (by decide)
 have e0 := w6_eqIn (W6.of (X 0)) (W6.of (Y 0))
 have e1 := w6_eqIn (W6.of (X 1)) (W6.of (Y 1))
 have e2 := w6_eqIn (W6.of (X 2)) (W6.of (Y 2))
 have e3 := w6_eqIn (W6.of (X 3)) (W6.of (Y 3))
 unfold smEq
 generalize decide (W6.of (X 0) = W6.of (Y 0)) = b0 at *
 generalize decide (W6.of (X 1) = W6.of (Y 1)) = b1 at *
 generalize decide (W6.of (X 2) = W6.of (Y 2)) = b2 at *
 generalize decide (W6.of (X 3) = W6.of (Y 3)) = b3 at *
 rw [show (10000 : Nat) = 9999 + 1 from rfl, Op.equalIn]
 simp only [Sem.run_bind, run_underlying UU168, Result.andThen_ok, z4]
 simp only [Std.Legacy.Range.forIn_eq_forIn_range', Std.Legacy.Range.size, Nat.sub_zero, Nat.add_sub_cancel, Nat.div_one, List.range'_succ, List.range'_zero, List.forIn_cons, List.forIn_nil, Nat.zero_add, Nat.reduceAdd]
 simp only [Sem.run_bind, Result.andThen_ok, p0, p1, p2, p3, r0, r1, r2, r3, e0, e1, e2, e3]
 cases b0 <;> cases b1 <;> cases b2 <;> cases b3 <;> simp [Sem.run_bind, Sem.run_pure, Result.andThen_ok, p0, p1, p2, p3, r0, r1, r2, r3, e0, e1, e2, e3]
theorem sm_guard (op : BinOp) (u v : Operand) (X Y : Nat → Int) (w : World) : (eqGuard op 168 u v (.agg (smC X)) (.agg (smC Y))).run Tryz.prog w = .ok () w := by
 have h : (Tryz.prog.eqGuardType Tryz.prog.depth 168) = false := by kernel_rfl
 unfold eqGuard
 cases op <;> simp [h]
theorem smEq_iff {X Y : Nat → Int} (hX : ∀ m, m < 4 → In384 (X m)) (hY : ∀ m, m < 4 → In384 (Y m)) : smEq X Y = true ↔ ∀ m, m < 4 → X m = Y m := by
 unfold smEq
 simp only [Bool.and_eq_true, decide_eq_true_eq]
 constructor
 ·rintro ⟨h0, h1, h2, h3⟩ m hm
  rcases lt4 hm with rfl | rfl | rfl | rfl
  ·exact W6.of_inj (hX 0 hm) (hY 0 hm) h0
  ·exact W6.of_inj (hX 1 hm) (hY 1 hm) h1
  ·exact W6.of_inj (hX 2 hm) (hY 2 hm) h2
  exact W6.of_inj (hX 3 hm) (hY 3 hm) h3
 intro h
 rw [h 0 (by decide), h 1 (by decide), h 2 (by decide), h 3 (by decide)]
 exact ⟨rfl, rfl, rfl, rfl⟩
section
variable {R : Option Nat} {ops : Array Oper} {Q : Exit → Act → World → Prop} {B : World} {F : List Nat} {s0 : Option (List Blk × List Blk)}
variable {l : List (Oper × Nat)} {a : Act} {s : List Blk} {d : Option Tmp} {t : TypeId} {p : String} {af : Array Edge} {gd : Option (Nat × Bool)} {m : Nat}
theorem rfb_neS {x y : Operand} {z : TypeId} (X Y : Nat → Int) (hm : soft03 m = true) (hg : Region.wanted ⟨d, .binOp .neq 168 x y z, t, p, af, gd⟩ (yielded ops a.tmps) = true)
    (hx : a.eval x = .agg (smC X)) (hy : a.eval y = .agg (smC Y)) (h : ∀ b, (!smEq X Y) = b → Rg R Tryz.prog ops Q B F s0 l (a.put d (.bool b)) s) : Rg R Tryz.prog ops Q B F s0 ((⟨d, .binOp .neq 168 x y z, t, p, af, gd⟩, m) :: l) a s := by
  refine rg_any hm hg (fun w => ?_) (h _ rfl)
  unfold Yld
  have hb : (binOp .neq 168 (.agg (smC X)) (.agg (smC Y))).run Tryz.prog w = .ok (.bool (!smEq X Y)) w := by rw [run_neq_struct, sm_eqIn]; rfl
  have hgd := sm_guard .neq x y X Y w
  show ((eqGuard .neq _ x y (a.eval x) (a.eval y) >>= fun _ => binOp .neq _ (a.eval x) (a.eval y)) >>= fun r => pure (Next.value r)).run Tryz.prog w = _
  rw [hx, hy, Sem.run_bind, Sem.run_bind, hgd, Result.andThen_ok, hb]
  rfl
end
def pc (S : Nat) : Nat := (S.testBit 0).toNat + (S.testBit 1).toNat + (S.testBit 2).toNat + (S.testBit 3).toNat + (S.testBit 4).toNat + (S.testBit 5).toNat
def oc (S : Nat) : Nat :=
  let c1 : Int := ((((S : Int) / 2).toNat &&& 6148914691236517205 : Nat) : Int) + (((S : Int).toNat &&& 6148914691236517205 : Nat) : Int)
  let c2 : Int := (((c1 / 4).toNat &&& 3689348814741910323 : Nat) : Int) + ((c1.toNat &&& 3689348814741910323 : Nat) : Int)
  let c3 : Int := (((c2 / 16 + c2).toNat &&& 1085102592571150095 : Nat) : Int)
  let c4 : Int := c3 + c3 / 256
  let c5 : Int := c4 + c4 / 65536
  let c6 : Int := c5 + c5 / 4294967296
  (c6 % 128).toNat
def cells (n : Nat) (f : Nat → Nat → Nm) (t : Nat) : List Nm := (List.range t).map fun i => f (i / n) (i % n)
section
variable {R : Option Nat} {P : Program} {ops : Array Oper} {Q : Exit → Act → World → Prop} {B : World} {F : List Nat} {s0 : Option (List Blk × List Blk)}
variable {l : List (Oper × Nat)} {a : Act} {s : List Blk} {d : Option Tmp} {t : TypeId} {p : String} {af : Array Edge} {gd : Option (Nat × Bool)} {m : Nat}
end
section
variable {R : Option Nat} {ops : Array Oper} {Q : Exit → Act → World → Prop} {B : World} {F : List Nat} {s0 : Option (List Blk × List Blk)}
variable {l : List (Oper × Nat)} {a : Act} {s S : List Blk} {d : Option Tmp} {op : Op} {t : TypeId} {p : String} {af : Array Edge} {v : Value}
end
def RowsA (w : World) (hs : List Value) (rows : List (List Nm)) : Prop :=
  hs.length = rows.length ∧ ∀ k, k < rows.length → ∃ b off c, hs[k]? = some (.slice (some ⟨b, off, none⟩) (rows.getD k []).length c) ∧ (rows.getD k []).length ≤ c ∧ AS w (some ⟨b, off, none⟩) (nms (rows.getD k []))
theorem RowsA.kn0 {B w : World} {s : List Blk} {hs : List Value} {rows : List (List Nm)} (h : RowsA B hs rows) (K : Kn B [] s w) : RowsA w hs rows :=
  ⟨h.1, fun k hk => by
    obtain ⟨b, off, c, h1, h2, h3⟩ := h.2 k hk
    exact ⟨b, off, c, h1, h2, h3.kn0 K⟩⟩
theorem flat_len (l : List Nm) : (nms l).length = l.length * 5 := NmE.flat_len l
theorem AS.part {w : World} {b off : Nat} {xs ys : List Nm} {lo : Nat} (h : AS w (some ⟨b, off, none⟩) (nms xs)) (hl : lo + ys.length ≤ xs.length) (he : ∀ j, j < ys.length → nm ys j = nm xs (lo + j)) : AS w (some ⟨b, off + lo * 5, none⟩) (nms ys) := by
 intro hne
 have hy := flat_len ys
 have hf := flat_len xs
 have hy0 : 0 < (nms ys).length := List.length_pos_iff.2 hne
 obtain ⟨b', off', e, hlt, hc⟩ := h (fun e => by rw [e] at hf; simp at hf; omega)
 cases e
 refine ⟨b, _, rfl, hlt, fun j hj => ?_⟩
 have hd := Nat.div_add_mod j 5
 have hm5 := Nat.mod_lt j (show 0 < 5 by omega)
 have h1 := NmE.get ys (j / 5) (j % 5) Ox hm5
 have h2 := NmE.get xs (lo + j / 5) (j % 5) Ox hm5
 have e1 : NmE.at ys (j / 5) = NmE.at xs (lo + j / 5) := he _ Ox
 rw [e1, ← h2] at h1
 have e2 : j / 5 * NmE.sz + j % 5 = j := by show j / 5 * 5 + j % 5 = j; omega
 have e3 : (lo + j / 5) * NmE.sz + j % 5 = lo * 5 + j := by show (lo + j / 5) * 5 + j % 5 = _; omega
 rw [e2, e3] at h1
 rw [h1, ← hc _ Ox, Nat.add_assoc]
inductive RowsN : List Blk → List Value → List (List Nm) → Prop
  | nil : RowsN [] [] []
  | snoc {us : List Blk} {hs : List Value} {rows : List (List Nm)} {u : List Blk} {h : Value} {row : List Nm} : RowsN us hs rows → OwnN u h row → 0 < row.length → RowsN (u ++ us) (hs ++ [h]) (rows ++ [row])
theorem RowsN.len {us : List Blk} {hs : List Value} {rows : List (List Nm)} (h : RowsN us hs rows) : hs.length = rows.length := by
 induction h with
 | nil => rfl
 | snoc _ _ _ ih => simp [ih]
section
variable {R : Option Nat} {ops : Array Oper} {Q : Exit → Act → World → Prop} {B : World} {F : List Nat} {s0 : Option (List Blk × List Blk)}
variable {l : List (Oper × Nat)} {a : Act} {s S : List Blk} {d : Option Tmp} {op : Op} {t : TypeId} {p : String} {af : Array Edge} {v : Value}
end
theorem OwnZ.whole {g : Nat} {xs : List Int} (h : xs.length ≤ 1000000) : OwnZ [(g, .cells (zs xs).toArray 3)] (.slice (some ⟨g, 0, none⟩) xs.length xs.length) xs :=
  Own.whole (cur := (zs xs).toArray) (by simp) (by simp only [maxLen]; omega)
section
variable {R : Option Nat} {ops : Array Oper} {Q : Exit → Act → World → Prop} {B : World} {F : List Nat} {s0 : Option (List Blk × List Blk)}
variable {l : List (Oper × Nat)} {a : Act} {s S : List Blk} {d : Option Tmp} {op : Op} {t : TypeId} {p : String} {af : Array Edge} {v : Value}
end
def RetZ (w : World) (n : Nat) (L : List Int) (e : Ending) (w' : World) : Prop := ∃ g c u, e = .returned (.slice (some ⟨g, 0, none⟩) n c) ∧ OwnZ u (.slice (some ⟨g, 0, none⟩) n c) L ∧ Made w u w'
section
variable {R : Option Nat} {ops : Array Oper} {Q : Exit → Act → World → Prop} {B : World} {F : List Nat} {s0 : Option (List Blk × List Blk)}
variable {l : List (Oper × Nat)} {a : Act} {s S : List Blk} {d : Option Tmp} {op : Op} {t : TypeId} {p : String} {af : Array Edge} {v : Value}
theorem rg_retZ {f : Nat} {cargs : Array Operand} {at_ : Array TypeId} {args : Array Value} {n : Nat} {L : List Int} {P : Program} {gd : Option (Nat × Bool)} (hg : Region.wanted ⟨d, .call ⟨.value (.func f), cargs, at_⟩, t, p, af, gd⟩ (yielded ops a.tmps) = true) (hgo : isGo P f = true)
    (h : ∀ w, Kn B F s w → Calls P f args w (RetZ w n L)) (hargs : cargs.map a.eval = args)
    (hz : ∀ z ∈ s0, z.1.Sublist s) (k : ∀ (g vc : Nat) (u : List Blk), OwnZ u (.slice (some ⟨g, 0, none⟩) n vc) L → Rg R P ops Q B F s0 l (a.put d (.slice (some ⟨g, 0, none⟩) n vc)) (u ++ s)) :
    Rg R P ops Q B F s0 ((⟨d, .call ⟨.value (.func f), cargs, at_⟩, t, p, af, gd⟩, 1) :: l) a s :=
  rg_call hg hgo hargs fun w K => (h w K).mono fun e w' ⟨g, c, u, he, hO, hm⟩ =>
    ⟨_, u ++ s, he, K.add hm, fun z hz' => (hz z hz').trans (Sr _ _), k g c u hO⟩
end
def rowS (xs : List Nm) (N : Nat) (K : Int) (i j : Nat) : Nat → Nat → Int
  | 0 => fun _ => 0
  | n + 1 => fun m => rowS xs N K i j n m + acc (acc (sel4 1 0 0 0) (sel4 ((nm xs (i * N + n)).to K).a ((nm xs (i * N + n)).to K).b ((nm xs (i * N + n)).to K).c ((nm xs (i * N + n)).to K).d) 16)
      (sel4 ((nm xs (j * N + n)).to K).a (-((nm xs (j * N + n)).to K).d) (-((nm xs (j * N + n)).to K).c) (-((nm xs (j * N + n)).to K).b)) 16 m
def wantS (K : Int) (i j : Nat) : Nat → Int := if i = j then upd (fun _ => 0) 0 (2 ^ K.toNat) else fun _ => 0
theorem sm_over {T T' : Nat → Int} : setMany (smC T) 0 (smC T').toList = smC T' := by kernel_rfl
theorem pow40 {k : Nat} (h : k ≤ 40) : 1 ≤ (2 : Int) ^ k ∧ (2 : Int) ^ k ≤ 1099511627776 := by
 have h1 := Nat.pow_le_pow_right (n := 2) Ox h
 have h2 := Nat.one_le_two_pow (n := k)
 have e : ((2 ^ k : Nat) : Int) = (2 : Int) ^ k := by simp
 have e2 : (2 : Nat) ^ 40 = 1099511627776 := by decide
 omega
theorem entry_fit {xs : List Nm} {N : Nat} {K : Int} (hok : allOk xs = true) (hlen : xs.length = N * N) (hN : N ≤ 6) {i k : Nat} (hi : i < N) (hk : k < N) (hK : K ≤ 40) (hKz : ∀ z ∈ xs, z.k ≤ K) :
    (nm xs (i * N + k)).Fit 1000000000 ∧ 0 ≤ (nm xs (i * N + k)).k ∧ (nm xs (i * N + k)).k ≤ K ∧ ((nm xs (i * N + k)).to K).Fit 1048576000000000 := by
  have hx := ix_small hi hN
  have hlt : i * N + k < xs.length := by omega
  have h := ok_at hok hlt
  have hm := hKz _ (NmE.at_mem hlt)
  refine ⟨h.fit, h.k0, hm, ?_⟩
  unfold Nm.to
  exact Nm.up40_fit h.fit (by have := h.k0; omega)
set_option maxHeartbeats 2000000 in
theorem unitary_walk (N : Nat) (K : Int) (xs : List Nm) (a : Option Addr) (c : Nat) (hN1 : 1 ≤ N) (hN : N ≤ 6) (hlen : Hid (xs.length = N * N)) (hl36 : xs.length ≤ 36) (hok : allOk xs = true) (hv : Hid (validB N xs = true)) (hK : Hid (expo xs = K)) (hK0 : 0 ≤ K) (hK40 : K ≤ 40) (hKz : ∀ z ∈ xs, z.k ≤ K) (w : World) (hA : AS w a (nms xs)) : Calls Tryz.prog 104 #[.agg #[.int .i64 N, .slice a xs.length c]] w fun e w' => ∃ b, e = .returned (.tuple #[.bool b, .int .i64 0]) ∧ (b = true ↔ ∀ i j, i < N → j < N → smEq (rowS xs N K i j N) (wantS K i j) = true) ∧ Below w.heap.size w w' := by
 have hl : xs.length ≤ 1000000 := by omega
 go_enter Tryz.func104, Tryz.ntmps104
 refine wk_start ?_
 refine wk_seq ?_
 refine Wr [1, 0, 0] ?_
 refine Rgn fun g1 => ?_
 refine Zx ?_
 refine Zr ?_
 refine Wr [0, 1, 0] ?_
 refine rf_loadR (n := 2) rfl rfl rfl UU28 rfl Kx (fun w hw => Kn.hd0 hw) rfl rfl (Nq ?_)
 apply rg_pure Rx Kx
 case hargs => exact Ax
 case h => exact fun w hw => by have := mvalid_any N xs a c hl w (hA.kn0 hw); rw [hv.out] at this; exact this
 case hz => exact Nz
 refine Zx ?_
 refine rg_nil (ek_next (wk_cond_f rfl (wk_skip (ek_next ?_))))
 refine wk_cutF [4, 5, 16, 17, 18, 19, 20] (fun f s => ∃ (gt : Nat), f 4 = .pointer (some ⟨gt, 0, none⟩) ∧ f 5 = .int .i64 K ∧ s = ((gt, .cells #[.int .i64 N, .slice a xs.length c] 79) :: ((g1, .cells #[.int .i64 N, .slice a xs.length c] 28) :: []))) ?_ ?_
 ·refine wk_rt _ Kx (sc _ sn) ?_
  refine rt_soft (i := 0) rfl Kx (fun c d v a w h => by cases d <;> exact h) (sc _ sn) ?_; refine rf_loadR (n := 2) rfl rfl rfl UU28 rfl Kx (fun w hw => Kn.hd0 hw) rfl rfl (Nq ?_); refine rg_nil ?_; refine ek_rt (sc _ sn) ?_; refine rt_soft (i := 1) rfl Kx (fun c d v a w h => by cases d <;> exact h) (sc _ sn) ?_; refine rf_build (cs := fun a => #[cellAt (a.eval (.tmp 16)) 0, cellAt (a.eval (.tmp 16)) 1]) rfl rfl Kx (Nq ?_)
  refine rg_nil ?_; refine ek_rt (sc _ sn) ?_; refine rt_soft (i := 2) rfl Kx (fun c d v a w h => by cases d <;> exact h) (sc _ sn) ?_; refine Fd 0 1 UU28 ?_; refine rg_nil ?_; refine ek_rt (sc _ sn) ?_; refine rt_soft (i := 3) rfl Kx (fun c d v a w h => by cases d <;> exact h) (sc _ sn) ?_; refine rf_load rfl rfl rfl UU26 rfl (fun w hw => (Kn.hd0 hw).at rfl) (Nq ?_); refine rg_nil ?_; refine ek_rt (sc _ sn) ?_
  refine rt_hard2 (i := 4) (j := 5) Kx rfl rfl ?_ ?_
  ·apply rg_pure Rx Kx
   case hargs => exact Ax
   case h => exact fun w hw => by have := exponent_any xs a c hl w (hA.kn0 hw); rw [hK.out] at this; exact this
   case hz => exact (fun _ h => by cases h; exact (sc _ sn))
   simp only [qz]; refine rg_nil ?_; refine ek_rt (sc _ sn) ?_; refine rt_hard1 (i := 5) Kx rfl ?_
   refine rg_new (cs := ?_) (ty := ?_) Rx (fun w => ?_) (fun _ h => by cases h; exact (sc _ sn)) (fun g2 => ?_); rotate_left 2
   focus (go_simp; rfl)
   simp only [qz]; refine rg_nil ?_; refine ek_rt (sk _ (sc _ sn)) ?_; refine rt_hard1 (i := 6) Kx rfl ?_; refine rf_storeR (n := 2) rfl rfl Kx rfl rfl (UpdR.here _ _ _ Nl) (fun _ h => by cases h; exact (sk _ (sc _ sn))) (Nw ?_); refine rg_nil ?_; refine ek_rt (sk _ (sc _ sn)) ?_; refine rt_soft (i := 7) rfl Kx (fun c d v a w h => by cases d <;> exact h) (sk _ (sc _ sn)) ?_; refine rg_assign ?_; simp only [qz]; refine rg_nil ?_
   refine ek_rt (sk _ (sc _ sn)) ?_; refine rt_nil Kx ?_; refine ek_midF Kx ?_
   exact ⟨g2, rfl, rfl, by rfl⟩
  refine rg_new (cs := ?_) (ty := ?_) Rx (fun w => ?_) (fun _ h => by cases h; exact (sc _ sn)) (fun g3 => ?_); rotate_left 2
  focus (go_simp; rfl)
  simp only [qz]; refine rg_nil ?_; refine ek_rt (sk _ (sc _ sn)) ?_; refine rt_hard1 (i := 4) Kx rfl ?_; apply rg_pure Rx Kx
  case hargs => exact Ax
  case h => exact fun w hw => by have := exponent_any xs a c hl w (hA.kn0 hw); rw [hK.out] at this; exact this
  case hz => exact (fun _ h => by cases h; exact (sk _ (sc _ sn)))
  simp only [qz]; refine rg_nil ?_; refine ek_rt (sk _ (sc _ sn)) ?_; refine rt_hard1 (i := 6) Kx rfl ?_; refine rf_storeR (n := 2) rfl rfl Kx rfl rfl (UpdR.here _ _ _ Nl) (fun _ h => by cases h; exact (sk _ (sc _ sn))) (Nw ?_); refine rg_nil ?_; refine ek_rt (sk _ (sc _ sn)) ?_; refine rt_soft (i := 7) rfl Kx (fun c d v a w h => by cases d <;> exact h) (sk _ (sc _ sn)) ?_; refine rg_assign ?_; simp only [qz]; refine rg_nil ?_
  refine ek_rt (sk _ (sc _ sn)) ?_; refine rt_nil Kx ?_; refine ek_midF Kx ?_
  exact ⟨g3, rfl, rfl, by rfl⟩
 rintro f1 s ⟨gt, hs1_4, hs1_5, rfl⟩
 simp only [Act.putF, List.foldl_cons, List.foldl_nil, hs1_4, hs1_5, Act.put, Act.eval, qW, Nat.reduceAdd, Bool.not_true, Bool.not_false]
 clear hs1_4 hs1_5
 refine wk_seq (wk_seq ?_)
 refine Wr [0, 0, 0] ?_
 refine Fd 0 0 UU28 ?_
 refine rf_load rfl rfl rfl UU3 rfl (fun w hw => (Kn.hd0 (Kn.tl hw)).at rfl) (Zx ?_)
 refine Zr ?_
 refine wk_loopF [2, 3, 6, 7, 8, 9, 10, 11, 12, 23, 24, 25, 26, 27, 28, 29, 30, 31, 32, 33, 34, 35, 36, 37, 38, 39, 40, 41, 42, 43, 44, 45, 46, 47, 48, 49, 50, 51, 52, 53, 54, 55, 56, 57, 58, 59, 60, 61, 62, 63, 64, 65, 66, 67, 68, 69, 70, 71, 72, 73, 74, 75, 76, 77, 78] (fun mz f s => ∃ (i : Nat), f 23 = .int .i64 i ∧ s = ((gt, .cells #[.int .i64 N, .slice a xs.length c] 79) :: ((g1, .cells #[.int .i64 N, .slice a xs.length c] 28) :: [])) ∧ mz = N - i ∧ i ≤ N ∧ (∀ i2, i2 < i → ∀ j2, j2 < N → smEq (rowS xs N K i2 j2 N) (wantS K i2 j2) = true)) ((fun (i : Nat) => N - i) (0)) ?_ Kx ?_
 ·exact ⟨0, rfl, rfl, rfl, by omega, fun _ h => by omega⟩
 rintro mz f2 s ⟨i, hs2_23, rfl, hn, hd1, hd2⟩
 simp only [Act.putF, List.foldl_cons, List.foldl_nil, hs2_23, Act.put, Act.eval, qW, Nat.reduceAdd, Bool.not_true, Bool.not_false]
 clear hs2_23
 refine wk_seq ?_
 refine Wr [0] ?_
 refine rfb_lss rfl rfl rfl rfl ?_
 rintro (_ | _) h1 <;> try simp only [qd, ne_eq] at h1
 ·simp only [qz]
  refine Zr ?_; refine Wx [0, 0] ?_; refine Zr ?_; refine ek_ret (fun w hw => ⟨rfl, _, res_tt _ _ rfl, ?_⟩); (try simp only [qz])
  exact ⟨true, rfl, ⟨fun _ i2 j2 hi hj => hd2 i2 Ox j2 hj, fun _ => rfl⟩, hw.below⟩
 simp only [qz]
 refine Zr ?_
 refine Wx [0, 0] ?_
 refine Zr ?_
 refine Wr [0, 0, 0] ?_
 refine Fd 0 0 UU28 ?_
 refine rf_load rfl rfl rfl UU3 rfl (fun w hw => (Kn.hd0 (Kn.tl hw)).at rfl) (Zx ?_)
 refine Zr ?_
 refine wk_loopF [2, 3, 7, 8, 9, 10, 11, 12, 28, 29, 30, 31, 32, 33, 34, 35, 36, 37, 38, 39, 40, 41, 42, 43, 44, 45, 46, 47, 48, 49, 50, 51, 52, 53, 54, 55, 56, 57, 58, 59, 60, 61, 62, 63, 64, 65, 66, 67, 68, 69, 70, 71, 72, 73, 74, 75, 76, 77] (fun mz f s => ∃ (j : Nat), f 28 = .int .i64 j ∧ s = ((gt, .cells #[.int .i64 N, .slice a xs.length c] 79) :: ((g1, .cells #[.int .i64 N, .slice a xs.length c] 28) :: [])) ∧ mz = N - j ∧ j ≤ N ∧ (∀ j2, j2 < j → smEq (rowS xs N K i j2 N) (wantS K i j2) = true)) ((fun (j : Nat) => N - j) (0)) ?_ Kx ?_
 ·exact ⟨0, rfl, rfl, rfl, by omega, fun _ h => by omega⟩
 rintro mz f3 s ⟨j, hs3_28, rfl, hn, he1, he2⟩
 simp only [Act.putF, List.foldl_cons, List.foldl_nil, hs3_28, Act.put, Act.eval, qW, Nat.reduceAdd, Bool.not_true, Bool.not_false]
 clear hs3_28
 refine wk_seq ?_
 refine Wr [0] ?_
 refine rfb_lss rfl rfl rfl rfl ?_
 rintro (_ | _) h2 <;> try simp only [qd, ne_eq] at h2
 ·simp only [qz]
  refine Zr ?_; refine Wr [0, 0] ?_; refine rf_add rfl rfl rfl rfl (wrap_ok Ox Ox) (Zx ?_); refine rg_nil ?_
  obtain rfl : N = j := by omega
  refine ek_roundF (N - (i + 1)) Ox Kx ?_
  exact ⟨i + 1, rfl, by rfl, by rfl, Ox, (fun i2 hi2 j2 hj2 => by rcases (by omega : i2 < i ∨ i2 = i) with h | rfl; exact hd2 i2 h j2 hj2; exact he2 j2 hj2)⟩
 simp only [qz]
 refine Zr ?_
 refine Wx [0, 0] ?_
 refine Zr ?_
 refine Wr [1, 1] ?_
 refine Rgn fun g4 => ?_
 simp only [qz]
 refine Rgn fun g5 => ?_
 simp only [qz]
 refine Zr ?_
 rw [sm_zero]
 refine Wr [0, 0, 0] ?_
 refine Fd 0 0 UU28 ?_
 refine rf_load rfl rfl rfl UU3 rfl (fun w hw => (Kn.hd0 (Kn.tl (Kn.tl (Kn.tl hw)))).at rfl) (Zx ?_)
 refine Zr ?_
 refine wk_loopF [10, 11, 12, 33, 34, 35, 36, 37, 38, 39, 40, 41, 42, 43, 44, 45, 46, 47, 48, 49, 50, 51, 52, 53, 54, 55, 56, 57, 58, 59, 60, 61, 62, 63, 64, 65, 66] (fun mz f s => ∃ (n : Nat), f 33 = .int .i64 n ∧ s = ((g5, .cells (smC fun _ => 0) 168) :: ((g4, .cells (smC (rowS xs N K i j n)) 168) :: ((gt, .cells #[.int .i64 N, .slice a xs.length c] 79) :: ((g1, .cells #[.int .i64 N, .slice a xs.length c] 28) :: [])))) ∧ mz = N - n ∧ n ≤ N) ((fun (n : Nat) => N - n) (0)) ?_ Kx ?_
 ·exact ⟨0, rfl, rfl, rfl, by omega⟩
 rintro mz f4 s ⟨n, hs4_33, rfl, hn, hf1⟩
 simp only [Act.putF, List.foldl_cons, List.foldl_nil, hs4_33, Act.put, Act.eval, qW, Nat.reduceAdd, Bool.not_true, Bool.not_false]
 clear hs4_33
 refine wk_seq ?_
 refine Wr [0] ?_
 refine rfb_lss rfl rfl rfl rfl ?_
 rintro (_ | _) h3 <;> try simp only [qd, ne_eq] at h3
 ·simp only [qz]
  refine Zr ?_
  obtain rfl : N = n := by omega
  refine Wx [0, 0, 0] ?_; refine rfb_eql rfl rfl rfl rfl ?_
  rintro (_ | _) h4 <;> try simp only [qd, ne_eq] at h4
  ·simp only [qz]
   refine Zr ?_; refine Wr [0, 0, 0] ?_; refine rf_loadC (n := 24) (vs := (smC (rowS xs N K i j N)).toList) rfl rfl rfl UU168 rfl Kx rfl (fun w hw => sm_all (Kn.hd0 (Kn.tl hw))) ?_; rw [show (smC (rowS xs N K i j N)).toList.toArray = smC (rowS xs N K i j N) by simp]; simp only [qz]; refine rf_loadC (n := 24) (vs := (smC (fun _ => 0)).toList) rfl rfl rfl UU168 rfl Kx rfl (fun w hw => sm_all (Kn.hd0 hw)) ?_
   rw [show (smC (fun _ => 0)).toList.toArray = smC (fun _ => 0) by simp]; simp only [qz]; refine rfb_neS (rowS xs N K i j N) (fun _ => 0) rfl rfl rfl rfl ?_
   rintro (_ | _) h5 <;> try simp only [qd, ne_eq] at h5
   ·simp only [qz]
    have hgood : smEq (rowS xs N K i j N) (wantS K i j) = true := by (unfold wantS; rw [if_neg Ox]; simpa using h5)
    refine Zr ?_; refine Wr [0, 0] ?_; refine rf_add rfl rfl rfl rfl (wrap_ok Ox Ox) (Zx ?_); refine rg_nil ?_; refine ek_sub (sk _ (sk _ (sc _ (sc _ sn)))) ?_; refine ek_roundF (N - (j + 1)) Ox Kx ?_
    exact ⟨j + 1, rfl, by rfl, by rfl, Ox, (fun j2 hj2 => by rcases (by omega : j2 < j ∨ j2 = j) with h | rfl; exact he2 j2 h; exact hgood)⟩
   simp only [qz]
   have hgood : smEq (rowS xs N K i j N) (wantS K i j) = false := by (unfold wantS; rw [if_neg Ox]; simpa using h5)
   refine Zr ?_; refine Wx [0, 0] ?_; refine Zr ?_; refine ek_ret (fun w hw => ⟨rfl, _, res_tt _ _ rfl, ?_⟩); (try simp only [qz])
   exact ⟨false, rfl, ⟨fun h => (by cases h), fun h => by rw [h i j Ox Ox] at hgood; cases hgood⟩, hw.below⟩
  simp only [qz]; refine Zr ?_
  have hpw := pow40 (k := K.toNat) Ox
  refine Wx [0, 0, 1, 0, 1] ?_; refine rf_shlV (c := K.toNat) (q := 2 ^ K.toNat) rfl rfl rfl rfl Ox (by show K.toNat ≤ 64; omega) rfl (r := 2 ^ K.toNat) (by rw [Int.one_mul]; exact wrap_ok Ox Ox) (Nq ?_); apply rg_pure Rx Kx
  case hargs => exact Ax
  case h => exact fun w hw => w6whole_any (2 ^ K.toNat) Ox Ox w
  case hz => exact Nz
  simp only [qz]; refine Ia 0 6 0 UU168 ?_; refine rf_storeR (n := 6) (vs := w6L (W6.of (2 ^ K.toNat))) rfl rfl Kx rfl rfl (UpdR.here _ _ _ Nl) Nz ?_; rw [show setMany (smC fun _ => 0) 0 (w6L (W6.of (2 ^ K.toNat))) = smC (upd (fun _ => 0) 0 (2 ^ K.toNat)) from sm_set (m := 0) (by decide)]; simp only [qz, Nat.reduceAdd]; refine Zr ?_; refine Wr [0, 0, 0] ?_; refine rf_loadC (n := 24) (vs := (smC (rowS xs N K i j N)).toList) rfl rfl rfl UU168 rfl Kx rfl (fun w hw => sm_all (Kn.hd0 (Kn.tl hw))) ?_
  rw [show (smC (rowS xs N K i j N)).toList.toArray = smC (rowS xs N K i j N) by simp]; simp only [qz]; refine rf_loadC (n := 24) (vs := (smC (upd (fun _ => 0) 0 (2 ^ K.toNat))).toList) rfl rfl rfl UU168 rfl Kx rfl (fun w hw => sm_all (Kn.hd0 hw)) ?_; rw [show (smC (upd (fun _ => 0) 0 (2 ^ K.toNat))).toList.toArray = smC (upd (fun _ => 0) 0 (2 ^ K.toNat)) by simp]; simp only [qz]; refine rfb_neS (rowS xs N K i j N) (upd (fun _ => 0) 0 (2 ^ K.toNat)) rfl rfl rfl rfl ?_
  rintro (_ | _) h6 <;> try simp only [qd, ne_eq] at h6
  ·simp only [qz]
   have hgood : smEq (rowS xs N K i j N) (wantS K i j) = true := by (unfold wantS; rw [if_pos Ox]; simpa using h6)
   refine Zr ?_; refine Wr [0, 0] ?_; refine rf_add rfl rfl rfl rfl (wrap_ok Ox Ox) (Zx ?_); refine rg_nil ?_; refine ek_sub (sk _ (sk _ (sc _ (sc _ sn)))) ?_; refine ek_roundF (N - (j + 1)) Ox Kx ?_
   exact ⟨j + 1, rfl, by rfl, by rfl, Ox, (fun j2 hj2 => by rcases (by omega : j2 < j ∨ j2 = j) with h | rfl; exact he2 j2 h; exact hgood)⟩
  simp only [qz]
  have hgood : smEq (rowS xs N K i j N) (wantS K i j) = false := by (unfold wantS; rw [if_pos Ox]; simpa using h6)
  refine Zr ?_; refine Wx [0, 0] ?_; refine Zr ?_; refine ek_ret (fun w hw => ⟨rfl, _, res_tt _ _ rfl, ?_⟩); (try simp only [qz])
  exact ⟨false, rfl, ⟨fun h => (by cases h), fun h => by rw [h i j Ox Ox] at hgood; cases hgood⟩, hw.below⟩
 simp only [qz]
 refine Zr ?_
 refine Wx [0, 0] ?_
 refine Zr ?_
 have fj := entry_fit (xs := xs) (N := N) (K := K) hok hlen.out hN (i := j) (k := n) Ox Ox hK40 hKz
 obtain ⟨fa0, fa1, fb0, fb1, fc0, fc1, fd0, fd1⟩ := id fj.2.2.2
 have fi := entry_fit (xs := xs) (N := N) (K := K) hok hlen.out hN (i := i) (k := n) Ox Ox hK40 hKz
 obtain ⟨ga0, ga1, gb0, gb1, gc0, gc1, gd0, gd1⟩ := id fi.2.2.2
 refine Wr [0, 0, 0, 1, 0, 1, 1, 1] ?_
 refine rf_loadR (n := 2) rfl rfl rfl UU79 rfl Kx (fun w hw => Kn.hd0 (Kn.tl (Kn.tl hw))) rfl rfl (Zx ?_)
 apply rg_pure Rx Kx
 case hargs => exact Ax
 case h => exact fun w hw => at_any N j n xs a c hlen.out hN Ox Ox w (hA.kn0 hw)
 case hz => exact Nz
 refine Zx ?_
 apply rg_pure Rx Kx
 case hargs => exact Ax
 case h => exact fun w hw => scaled_any (nm xs (j * N + n)) K fj.1 fj.2.1 fj.2.2.1 hK40 w
 case hz => exact Nz
 simp only [qz]
 refine Rgn fun g6 => ?_
 simp only [qz]
 refine rf_storeR (n := 4) rfl rfl Kx rfl rfl (UpdR.here _ _ _ Nl) Nz (Nw ?_)
 refine Zr ?_
 refine Wr [0, 0, 0, 0, 0, 0, 0, 0, 0, 0, 0, 0, 1, 1] ?_
 refine Ia 0 1 0 UU42 ?_
 refine rf_load rfl rfl rfl UU3 rfl (fun w hw => (Kn.hd0 hw).at rfl) (Nq ?_)
 refine Ia 3 1 3 UU42 ?_
 refine rf_load rfl rfl rfl UU3 rfl (fun w hw => (Kn.hd0 hw).at rfl) (Nq ?_)
 refine rf_neg rfl rfl rfl (wrap_ok Ox Ox) (Nq ?_)
 refine Ia 2 1 2 UU42 ?_
 refine rf_load rfl rfl rfl UU3 rfl (fun w hw => (Kn.hd0 hw).at rfl) (Nq ?_)
 refine rf_neg rfl rfl rfl (wrap_ok Ox Ox) (Nq ?_)
 refine Ia 1 1 1 UU42 ?_
 refine rf_load rfl rfl rfl UU3 rfl (fun w hw => (Kn.hd0 hw).at rfl) (Nq ?_)
 refine rf_neg rfl rfl rfl (wrap_ok Ox Ox) (Nq ?_)
 refine rf_build (cs := fun a => #[a.eval (.tmp 43), a.eval (.tmp 46), a.eval (.tmp 49), a.eval (.tmp 52)]) rfl rfl Kx (Nq ?_)
 refine Rgn fun g7 => ?_
 simp only [qz]
 refine rf_storeR (n := 4) rfl rfl Kx rfl rfl (UpdR.here _ _ _ Nl) Nz (Nw ?_)
 refine rg_nil (ek_next ?_)
 refine wk_draws_m (hz1 := (sc _ (sc _ (sc _ (sk _ (sc _ (sc _ sn))))))) [(0, 0), (2, 0), (3, 0), (4, 0), (6, 0), (9, 0), (1, 1), (5, 1), (7, 1), (8, 1), (10, 1), (11, 1), (12, 2)] 12 Kx Kx (fun c d v a w h => by cases d <;> exact h) ?_
 simp only [List.map_cons, List.map_nil, List.getD_cons_zero, List.getD_cons_succ]
 refine rf_loadC (n := 24) (vs := (smC (rowS xs N K i j n)).toList) rfl rfl rfl UU168 rfl Kx rfl (fun w hw => sm_all (Kn.hd0 (Kn.tl (Kn.tl (Kn.tl hw))))) ?_
 rw [show (smC (rowS xs N K i j n)).toList.toArray = smC (rowS xs N K i j n) by simp]
 simp only [qz]
 refine rf_loadR (n := 2) rfl rfl rfl UU79 rfl Kx (fun w hw => Kn.hd0 (Kn.tl (Kn.tl (Kn.tl (Kn.tl hw))))) rfl rfl (Zx ?_)
 refine rf_loadR (n := 4) rfl rfl rfl UU42 rfl Kx (fun w hw => Kn.hd0 hw) rfl rfl (Nq ?_)
 apply rg_pure Rx Kx
 case hargs => exact Ax
 case h => exact fun w hw => smone_any w
 case hz => exact (fun _ h => by cases h; exact (sc _ (sc _ (sc _ (sc _ (sc _ (sc _ sn)))))))
 simp only [qz]
 apply rg_pure Rx Kx
 case hargs => exact Ax
 case h => exact fun w hw => at_any N i n xs a c hlen.out hN Ox Ox w (hA.kn0 hw)
 case hz => exact (fun _ h => by cases h; exact (sc _ (sc _ (sc _ (sc _ (sc _ (sc _ sn)))))))
 simp only [qz]
 apply rg_pure Rx Kx
 case hargs => exact Ax
 case h => exact fun w hw => scaled_any (nm xs (i * N + n)) K fi.1 fi.2.1 fi.2.2.1 hK40 w
 case hz => exact (fun _ h => by cases h; exact (sc _ (sc _ (sc _ (sc _ (sc _ (sc _ sn)))))))
 simp only [qz]
 apply rg_pure Rx Kx
 case hargs => exact Ax
 case h => exact fun w hw => smtimes_any (sel4 1 0 0 0) (sel4 ((nm xs (i * N + n)).to K).a ((nm xs (i * N + n)).to K).b ((nm xs (i * N + n)).to K).c ((nm xs (i * N + n)).to K).d) (sel_cases (by simp only [sel4]; omega) (by simp only [sel4]; omega) (by simp only [sel4]; omega) (by simp only [sel4]; omega)) w
 case hz => exact (fun _ h => by cases h; exact (sc _ (sc _ (sc _ (sc _ (sc _ (sc _ sn)))))))
 simp only [qz]
 apply rg_pure Rx Kx
 case hargs => exact Ax
 case h => exact fun w hw => smtimes_any (acc (sel4 1 0 0 0) (sel4 ((nm xs (i * N + n)).to K).a ((nm xs (i * N + n)).to K).b ((nm xs (i * N + n)).to K).c ((nm xs (i * N + n)).to K).d) 16) (sel4 ((nm xs (j * N + n)).to K).a (-((nm xs (j * N + n)).to K).d) (-((nm xs (j * N + n)).to K).c) (-((nm xs (j * N + n)).to K).b)) (sel_cases (by simp only [sel4]; omega) (by simp only [sel4]; omega) (by simp only [sel4]; omega) (by simp only [sel4]; omega)) w
 case hz => exact (fun _ h => by cases h; exact (sc _ (sc _ (sc _ (sc _ (sc _ (sc _ sn)))))))
 simp only [qz]
 apply rg_pure Rx Kx
 case hargs => exact Ax
 case h => exact fun w hw => smplus_any (rowS xs N K i j n) (acc (acc (sel4 1 0 0 0) (sel4 ((nm xs (i * N + n)).to K).a ((nm xs (i * N + n)).to K).b ((nm xs (i * N + n)).to K).c ((nm xs (i * N + n)).to K).d) 16) (sel4 ((nm xs (j * N + n)).to K).a (-((nm xs (j * N + n)).to K).d) (-((nm xs (j * N + n)).to K).c) (-((nm xs (j * N + n)).to K).b)) 16) w
 case hz => exact (fun _ h => by cases h; exact (sc _ (sc _ (sc _ (sc _ (sc _ (sc _ sn)))))))
 simp only [qz]
 refine rf_storeRM (n := 24) (vs := (smC (rowS xs N K i j (n + 1))).toList) rfl rfl Kx rfl rfl (UpdR.there _ (UpdR.there _ (UpdR.there _ (UpdR.here _ _ _ Nl)))) (sc _ (sc _ (sc _ (sk _ (sc _ (sc _ sn)))))) ?_
 rw [sm_over]
 simp only [qz]
 refine Zr ?_
 refine Wr [0, 0] ?_
 refine rf_add rfl rfl rfl rfl (wrap_ok Ox Ox) (Zx ?_)
 refine rg_nil ?_
 refine ek_sub (sk _ (sk _ (sc _ (sc _ (sc _ (sc _ sn)))))) ?_
 refine ek_roundF (N - (n + 1)) Ox Kx ?_
 exact ⟨n + 1, rfl, by rfl, by rfl, Ox⟩
set_option maxHeartbeats 1000000
theorem mul_b {x y A B : Int} (hx : -A ≤ x ∧ x ≤ A) (hy : -B ≤ y ∧ y ≤ B) : -(A * B) ≤ x * y ∧ x * y ≤ A * B := by
 have h1 : x.natAbs ≤ A.toNat := by omega
 have h2 : y.natAbs ≤ B.toNat := by omega
 have h3 := Nat.mul_le_mul h1 h2
 rw [← Int.natAbs_mul] at h3
 have h4 : ((A.toNat * B.toNat : Nat) : Int) = A * B := by
  rw [Int.natCast_mul, Int.toNat_of_nonneg Ox, Int.toNat_of_nonneg Ox]
 omega
theorem dh_zero : Q4.dh 0 = 0 := by
 apply Q4.ext' <;> simp only [Q4.dh, Q4.za, Q4.zb, Q4.zc, Q4.zd] <;> grind
theorem dn_zero : ∀ n, Q4.dn n 0 = 0
  | 0 => rfl
  | n + 1 => by
    show Q4.dn n (Q4.dh 0) = 0
    rw [dh_zero]; exact dn_zero n
theorem dh_two (r : Rat) : Q4.dh (Q4.dh ⟨2 * r, 0, 0, 0⟩) = ⟨r, 0, 0, 0⟩ := by
 apply Q4.ext' <;> simp only [Q4.dh] <;> grind
theorem dn_two : ∀ k : Nat, Q4.dn (k + k) ⟨(((2 : Int) ^ k : Int) : Rat), 0, 0, 0⟩ = 1
  | 0 => by
    apply Q4.ext' <;> rfl
  | k + 1 => by
    rw [show k + 1 + (k + 1) = (k + k) + 1 + 1 by omega]
    show Q4.dn (k + k) (Q4.dh (Q4.dh _)) = 1
    rw [show (((2 : Int) ^ (k + 1) : Int) : Rat) = 2 * (((2 : Int) ^ k : Int) : Rat) by
      rw [Int.pow_succ, Rat.intCast_mul]; grind, dh_two]
    exact dn_two k
theorem val_add4 (a b c d a' b' c' d' k : Int) : (⟨a + a', b + b', c + c', d + d', k⟩ : Nm).val = (⟨a, b, c, d, k⟩ : Nm).val + (⟨a', b', c', d', k⟩ : Nm).val := by
 unfold Nm.val
 rw [← Q4.dn_add]
 congr 1
 apply Q4.ext' <;> simp only [Nm.co, Q4.aa, Q4.ab, Q4.ac, Q4.ad, Rat.intCast_add]
theorem one_dl (i j : Nat) : (wantN i j).val = dl i j := by
 unfold wantN dl
 split
 ·exact val_one
 exact val_zero
theorem wnum_iff {z : Nm} (h : 0 ≤ z.k) (i j : Nat) : wnum z = (wantN i j, true) ↔ z.val = dl i j := by
 rw [← one_dl]
 constructor
 ·intro hw
  unfold wnum at hw
  split at hw
  ·have h1 := congrArg Prod.fst hw
   dsimp only at h1
   rw [← h1]
   exact (val_eqv (nf_k h).1 h (nf_eqv z)).symm
  exact absurd (congrArg Prod.snd hw) (by simp)
 intro hv
 have hk : 0 ≤ (wantN i j).k := by unfold wantN; split <;> decide
 have h1 := nf_eq h hk (eqv_val h hk hv)
 have h2 : (wantN i j).nf = wantN i j := by unfold wantN; split <;> decide
 unfold wnum
 rw [h1, h2]
 unfold wantN
 split <;> decide
def rowN (xs : List Nm) (N : Nat) (K : Int) (i j n : Nat) : Nm := ⟨rowS xs N K i j n 0, rowS xs N K i j n 1, rowS xs N K i j n 2, rowS xs N K i j n 3, K + K⟩
theorem acc2 (x y : Nm) : (⟨acc (acc (sel4 1 0 0 0) (sel4 x.a x.b x.c x.d) 16) (sel4 y.a y.b y.c y.d) 16 0, acc (acc (sel4 1 0 0 0) (sel4 x.a x.b x.c x.d) 16) (sel4 y.a y.b y.c y.d) 16 1, acc (acc (sel4 1 0 0 0) (sel4 x.a x.b x.c x.d) 16) (sel4 y.a y.b y.c y.d) 16 2, acc (acc (sel4 1 0 0 0) (sel4 x.a x.b x.c x.d) 16) (sel4 y.a y.b y.c y.d) 16 3, 0 + x.k + y.k⟩ : Nm) = (Nm.one.mulR x).mulR y := by
 have h := acc_16 Nm.one x
 generalize hp : Nm.one.mulR x = p at h ⊢
 have ha : acc (sel4 1 0 0 0) (sel4 x.a x.b x.c x.d) 16 0 = p.a := congrArg Nm.a h
 have hb : acc (sel4 1 0 0 0) (sel4 x.a x.b x.c x.d) 16 1 = p.b := congrArg Nm.b h
 have hc : acc (sel4 1 0 0 0) (sel4 x.a x.b x.c x.d) 16 2 = p.c := congrArg Nm.c h
 have hd : acc (sel4 1 0 0 0) (sel4 x.a x.b x.c x.d) 16 3 = p.d := congrArg Nm.d h
 have hk : 0 + x.k = p.k := congrArg Nm.k h
 have hX : ∀ i, i < 4 → acc (sel4 1 0 0 0) (sel4 x.a x.b x.c x.d) 16 i = sel4 p.a p.b p.c p.d i := fun i hi => by
  rcases (by omega : i = 0 ∨ i = 1 ∨ i = 2 ∨ i = 3) with rfl | rfl | rfl | rfl
  ·exact ha
  ·exact hb
  ·exact hc
  ·exact hd
 have e := fun m => acc_congr (Y := sel4 y.a y.b y.c y.d) hX (fun _ _ => rfl) 16 m Ox
 rw [e 0, e 1, e 2, e 3, hk]
 exact acc_16 p y
theorem rowN_val {xs : List Nm} {N : Nat} {K : Int} {i j : Nat} (hi : i < N) (hj : j < N) (hk : ∀ a b, a < N → b < N → 0 ≤ (nm xs (a * N + b)).k ∧ (nm xs (a * N + b)).k ≤ K) : ∀ n, n ≤ N → (rowN xs N K i j n).val = sumQ n fun k => (nm xs (i * N + k)).val * Q4.conj (nm xs (j * N + k)).val
  | 0, _ => by
    show Q4.dn _ (Nm.co ⟨0, 0, 0, 0, K + K⟩) = 0
    exact dn_zero _
  | n + 1, hn => by
    have ih := rowN_val hi hj hk n Ox
    have h1 := hk i n hi Ox
    have h2 := hk j n hj Ox
    have k1 := Nm.to_k (z := nm xs (i * N + n)) (m := K) h1.2
    have k2 := Nm.to_k (z := nm xs (j * N + n)) (m := K) h2.2
    have e := acc2 ((nm xs (i * N + n)).to K) ((nm xs (j * N + n)).to K).conj
    have ek : 0 + ((nm xs (i * N + n)).to K).k + ((nm xs (j * N + n)).to K).conj.k = K + K := by
      show 0 + ((nm xs (i * N + n)).to K).k + ((nm xs (j * N + n)).to K).k = K + K
      omega
    rw [ek] at e
    show (rowN xs N K i j (n + 1)).val = sumQ n _ + _
    rw [← ih]
    have hv : ((Nm.one.mulR ((nm xs (i * N + n)).to K)).mulR ((nm xs (j * N + n)).to K).conj).val = (nm xs (i * N + n)).val * Q4.conj (nm xs (j * N + n)).val := by
      rw [val_mulR (by show 0 ≤ 0 + ((nm xs (i * N + n)).to K).k; omega) (by show 0 ≤ ((nm xs (j * N + n)).to K).k; omega), val_mulR (by decide) Ox, val_conj, to_up h1.1, to_up h2.1, val_one, Q4.one_mul]
    show _ = _ + (nm xs (i * N + n)).val * Q4.conj (nm xs (j * N + n)).val
    rw [← hv, ← e]
    exact val_add4 (rowS xs N K i j n 0) (rowS xs N K i j n 1) (rowS xs N K i j n 2) (rowS xs N K i j n 3) _ _ _ _ (K + K)
theorem wantS_val {K : Int} (hK : 0 ≤ K) (i j : Nat) : (⟨wantS K i j 0, wantS K i j 1, wantS K i j 2, wantS K i j 3, K + K⟩ : Nm).val = dl i j := by
 unfold wantS dl
 split
 ·show Q4.dn (K + K).toNat _ = 1
  rw [show (K + K).toNat = K.toNat + K.toNat by omega]
  exact dn_two K.toNat
 exact dn_zero _
theorem wantS_b {K : Int} (hK0 : 0 ≤ K) (hK : K ≤ 40) (i j m : Nat) : 0 ≤ wantS K i j m ∧ wantS K i j m ≤ 1099511627776 := by
 have hp := pow40 (k := K.toNat) Ox
 unfold wantS
 split
 ·show 0 ≤ (if m = 0 then _ else (0 : Int)) ∧ (if m = 0 then _ else (0 : Int)) ≤ _
  split <;> omega
 show (0 : Int) ≤ 0 ∧ (0 : Int) ≤ _
 omega
theorem rowS_b {xs : List Nm} {N : Nat} {K : Int} (hok : allOk xs = true) (hlen : xs.length = N * N) (hN : N ≤ 6) {i j : Nat} (hi : i < N) (hj : j < N) (hK : K ≤ 40) (hKz : ∀ z ∈ xs, z.k ≤ K) (m : Nat) : ∀ n, n ≤ N → -(n * 300000000000000000000000000000000000 : Int) ≤ rowS xs N K i j n m ∧ rowS xs N K i j n m ≤ n * 300000000000000000000000000000000000
  | 0, _ => by show _ ≤ (0 : Int) ∧ (0 : Int) ≤ _; omega
  | n + 1, hn => by
    have ih := rowS_b hok hlen hN hi hj hK hKz m n Ox
    obtain ⟨-, -, -, f0, f1, f2, f3, f4, f5, f6, f7⟩ := entry_fit (K := K) hok hlen hN hi (show n < N by omega) hK hKz
    obtain ⟨-, -, -, g0, g1, g2, g3, g4, g5, g6, g7⟩ := entry_fit (K := K) hok hlen hN hj (show n < N by omega) hK hKz
    have s4 : ∀ {a b c d M : Int}, (-M ≤ a ∧ a ≤ M) → (-M ≤ b ∧ b ≤ M) → (-M ≤ c ∧ c ≤ M) → (-M ≤ d ∧ d ≤ M) → ∀ k, k < 4 → -M ≤ sel4 a b c d k ∧ sel4 a b c d k ≤ M := fun ha hb hc hd k hk => by
      rcases (by omega : k = 0 ∨ k = 1 ∨ k = 2 ∨ k = 3) with rfl | rfl | rfl | rfl
      · exact ha
      · exact hb
      · exact hc
      · exact hd
    have hX := s4 (a := 1) (b := 0) (c := 0) (d := 0) (M := 1) Ox Ox Ox Ox
    have hx := s4 ⟨f0, f1⟩ ⟨f2, f3⟩ ⟨f4, f5⟩ ⟨f6, f7⟩
    have hy := s4 (a := ((nm xs (j * N + n)).to K).a) (b := -((nm xs (j * N + n)).to K).d) (c := -((nm xs (j * N + n)).to K).c) (d := -((nm xs (j * N + n)).to K).b) (M := 1048576000000000) Ox Ox Ox Ox
    have hA := acc_bound (M := 1 * 1048576000000000) Ox (fun a b ha hb => mul_b (hX a ha) (hx b hb)) 16
    have hB := acc_bound (M := 16 * (1 * 1048576000000000) * 1048576000000000) Ox (fun a b ha hb => mul_b (hA a Ox) (hy b hb)) 16 m Ox
    show _ ≤ rowS xs N K i j n m + _ ∧ rowS xs N K i j n m + _ ≤ _
    generalize acc (acc (sel4 1 0 0 0) (sel4 ((nm xs (i * N + n)).to K).a ((nm xs (i * N + n)).to K).b ((nm xs (i * N + n)).to K).c ((nm xs (i * N + n)).to K).d) 16) (sel4 ((nm xs (j * N + n)).to K).a (-((nm xs (j * N + n)).to K).d) (-((nm xs (j * N + n)).to K).c) (-((nm xs (j * N + n)).to K).b)) 16 m = t at hB ⊢
    simp only [Int.natCast_add] at *
    omega
theorem colS_val {xs : List Nm} {N k l : Nat} (hok : allOk xs = true) (hlen : xs.length = N * N) (hN : N ≤ 6) (hk : k < N) (hl : l < N) : ∀ n, n ≤ N → (colS xs N k l n).val = sumQ n fun i => Q4.conj (nm xs (i * N + k)).val * (nm xs (i * N + l)).val
  | 0, _ => val_zero
  | n + 1, hn => by
    have hx := ix_small (i := n) (N := N) Ox hN
    have o1 := ok_at hok (show n * N + k < xs.length by omega)
    have o2 := ok_at hok (show n * N + l < xs.length by omega)
    have p := prod_W o1 o2
    show ((colS xs N k l n).addR _).val = sumQ n _ + _
    rw [val_addR (colS_W hok hlen hN hk hl n Ox).2.1 p.2.1, colS_val hok hlen hN hk hl n Ox, val_mulR (by simp only [Nm.conj]; exact o1.k0) o2.k0, val_conj]
theorem un_join {xs : List Nm} {N : Nat} {K : Int} (hok : allOk xs = true) (hlen : xs.length = N * N) (hN : N ≤ 6) (hK0 : 0 ≤ K) (hK : K ≤ 40) (hKz : ∀ z ∈ xs, z.k ≤ K) :
    (∀ i j, i < N → j < N → smEq (rowS xs N K i j N) (wantS K i j) = true) ↔ ∀ k l, k < N → l < N → wnum (colS xs N k l N) = (wantN k l, true) := by
  have hkk : ∀ a b, a < N → b < N → 0 ≤ (nm xs (a * N + b)).k ∧ (nm xs (a * N + b)).k ≤ K := fun a b ha hb => by
    have := entry_fit (K := K) hok hlen hN ha hb hK hKz
    exact ⟨this.2.1, this.2.2.1⟩
  have R : (∀ i j, i < N → j < N → smEq (rowS xs N K i j N) (wantS K i j) = true) ↔ UnR N fun i k => (nm xs (i * N + k)).val := by
    have one : ∀ i j, i < N → j < N → (smEq (rowS xs N K i j N) (wantS K i j) = true ↔ sumQ N (fun k => (nm xs (i * N + k)).val * Q4.conj (nm xs (j * N + k)).val) = dl i j) := fun i j hi hj => by
      rw [← rowN_val hi hj hkk N Ox, ← wantS_val hK0 i j]; rw [smEq_iff (fun m _ => by have := rowS_b hok hlen hN hi hj hK hKz m N Ox; unfold In384; omega) (fun m _ => by have := wantS_b hK0 hK i j m; unfold In384; omega)]
      constructor
      · intro h
        unfold rowN
        rw [h 0 Ox, h 1 Ox, h 2 Ox, h 3 Ox]
      · intro h
        have h1 := co_inj (x := rowN xs N K i j N) (y := ⟨wantS K i j 0, wantS K i j 1, wantS K i j 2, wantS K i j 3, K + K⟩) rfl (Q4.dn_inj (K + K).toNat h)
        intro m hm
        rcases (by omega : m = 0 ∨ m = 1 ∨ m = 2 ∨ m = 3) with rfl | rfl | rfl | rfl
        · exact congrArg Nm.a h1
        · exact congrArg Nm.b h1
        · exact congrArg Nm.c h1
        · exact congrArg Nm.d h1
    exact ⟨fun h i j hi hj => (one i j hi hj).1 (h i j hi hj), fun h i j hi hj => (one i j hi hj).2 (h i j hi hj)⟩
  have C : (∀ k l, k < N → l < N → wnum (colS xs N k l N) = (wantN k l, true)) ↔ UnC N fun i k => (nm xs (i * N + k)).val := by
    have one : ∀ k l, k < N → l < N → (wnum (colS xs N k l N) = (wantN k l, true) ↔ sumQ N (fun i => Q4.conj (nm xs (i * N + k)).val * (nm xs (i * N + l)).val) = dl k l) := fun k l hk hl => by
      rw [← colS_val hok hlen hN hk hl N Ox]
      exact wnum_iff (colS_W hok hlen hN hk hl N Ox).2.1 k l
    exact ⟨fun h i j hi hj => (one i j hi hj).1 (h i j hi hj), fun h i j hi hj => (one i j hi hj).2 (h i j hi hj)⟩
  exact R.trans (unR_iff.trans C.symm)
open Classical in
noncomputable def unB (n : Int) (xs : List Nm) : Bool := decide (∀ k l, k < n.toNat → l < n.toNat → wnum (colS xs n.toNat k l n.toNat) = (wantN k l, true))
open Classical in
theorem unB_iff {N : Nat} {xs : List Nm} : unB N xs = true ↔ ∀ k l, k < N → l < N → wnum (colS xs N k l N) = (wantN k l, true) := by
 unfold unB
 rw [decide_eq_true_eq]
 rfl
theorem validB_true {n : Int} {xs : List Nm} (h : validB n xs = true) : ∃ N : Nat, n = N ∧ 1 ≤ N ∧ N ≤ 6 ∧ xs.length = N * N ∧ xs.length ≤ 36 ∧ allOk xs = true := by
 simp only [validB, Bool.and_eq_true, decide_eq_true_eq] at h
 obtain ⟨h1, h2, h3, h4⟩ := h
 obtain ⟨N, rfl⟩ : ∃ N : Nat, n = N := ⟨n.toNat, by omega⟩
 have h5 : xs.length = N * N := by
  have e : ((N * N : Nat) : Int) = (N : Int) * N := Int.natCast_mul N N
  omega
 have h6 : N * N ≤ 6 * 6 := Nat.mul_le_mul Ox Ox
 exact ⟨N, rfl, by omega, by omega, h5, by omega, h4⟩
theorem expo_take {xs : List Nm} (hok : allOk xs = true) : ∀ i, i ≤ xs.length → 0 ≤ expo (xs.take i) ∧ expo (xs.take i) ≤ 40 ∧ ∀ k, k < i → (nm xs k).k ≤ expo (xs.take i)
  | 0, _ => ⟨by show (0 : Int) ≤ 0; decide, by show (0 : Int) ≤ 40; decide, fun k hk => absurd hk Ox⟩
  | i + 1, h => by
    obtain ⟨h1, h2, h3⟩ := expo_take hok i Ox
    have o := ok_at hok (show i < xs.length by omega)
    have o0 := o.k0
    have o1 := o.k1
    rw [expo_succ Ox]
    split
    · exact ⟨by omega, by omega, fun k hk => by
        rcases (by omega : k < i ∨ k = i) with hk | rfl
        · have := h3 k hk; omega
        · omega⟩
    · exact ⟨by omega, by omega, fun k hk => by
        rcases (by omega : k < i ∨ k = i) with hk | rfl
        · exact h3 k hk
        · omega⟩
theorem expo_ok {xs : List Nm} (hok : allOk xs = true) : 0 ≤ expo xs ∧ expo xs ≤ 40 ∧ ∀ z ∈ xs, z.k ≤ expo xs := by
 have h := expo_take hok xs.length Ox
 rw [List.take_length] at h
 refine ⟨h.1, h.2.1, fun z hz => ?_⟩
 obtain ⟨k, hk, rfl⟩ := List.getElem_of_mem hz
 have := h.2.2 k hk
 have e : nm xs k = xs[k] := by
  unfold nm El.at
  rw [List.getD_eq_getElem?_getD, List.getElem?_eq_getElem hk]
  rfl
 rw [e] at this
 exact this
theorem unitary_bad (n : Int) (xs : List Nm) (a : Option Addr) (c : Nat) (hl : xs.length ≤ 1000000) (hv : Hid (validB n xs = false)) (w : World) (hA : AS w a (nms xs)) : Calls Tryz.prog 104 #[.agg #[.int .i64 n, .slice a xs.length c]] w fun e w' => e = .returned (.tuple #[.bool false, .int .i64 20]) ∧ Below w.heap.size w w' := by
 go_enter Tryz.func104, Tryz.ntmps104
 refine wk_start ?_
 refine wk_seq ?_
 refine Wr [1, 0, 0] ?_
 refine Rgn fun g1 => ?_
 refine Zx ?_
 refine Zr ?_
 refine Wr [0, 1, 0] ?_
 refine rf_loadR (n := 2) rfl rfl rfl UU28 rfl Kx (fun w hw => Kn.hd0 hw) rfl rfl (Nq ?_)
 apply rg_pure Rx Kx
 case hargs => exact Ax
 case h => exact fun w hw => by have := mvalid_any n xs a c hl w (hA.kn0 hw); rw [hv.out] at this; exact this
 case hz => exact Nz
 refine Zx ?_
 refine Zr ?_
 refine Wx [0, 0] ?_
 refine Zr ?_
 refine ek_ret (fun w hw => ⟨rfl, _, res_tt _ _ rfl, ?_⟩)
 (try simp only [qz])
 first | exact ⟨rfl, hw.below⟩ | exact ⟨trivial, hw.below⟩ | exact hw.below
theorem unitary_any (n : Int) (xs : List Nm) (a : Option Addr) (c : Nat) (hl : xs.length ≤ 1000000) (w : World) (hA : AS w a (nms xs)) : Calls Tryz.prog 104 #[.agg #[.int .i64 n, .slice a xs.length c]] w fun e w' => e = .returned (.tuple #[.bool (validB n xs && unB n xs), .int .i64 (if validB n xs = true then 0 else 20)]) ∧ Below w.heap.size w w' := by
 rcases hv : validB n xs with _ | _
 ·exact unitary_bad n xs a c hl (Lib.hid hv) w hA
 obtain ⟨N, rfl, h1, h6, hlen, h36, hok⟩ := validB_true hv
 obtain ⟨k0, k1, k2⟩ := expo_ok hok
 refine (unitary_walk N (expo xs) xs a c h1 h6 (Lib.hid hlen) h36 hok (Lib.hid hv) (Lib.hid rfl) k0 k1 k2 w hA).mono ?_
 rintro e w' ⟨b, rfl, hb, hw⟩
 rw [un_join hok hlen h6 k0 k1 k2] at hb
 refine ⟨?_, hw⟩
 have e : b = unB N xs := by
  rw [Bool.eq_iff_iff, hb, unB_iff]
 rw [e]
 rfl
theorem rUn_any (n : Int) (xs : List Nm) (a : Option Addr) (c : Nat) (hv : validB n xs = true) (w : World) (hA : AS w a (nms xs)) : Calls Tryz.prog 73 #[.agg #[.int .i64 n, .slice a xs.length c]] w fun e w' => e = .returned (.bool (unB n xs)) ∧ Below w.heap.size w w' := by
 obtain ⟨N, rfl, h1, h6, hlen, h36, hok⟩ := validB_true hv
 refine (runitary_walk N xs a c h1 h6 (Lib.hid hlen) h36 hok w hA).mono ?_
 rintro e w' ⟨b, rfl, hb, hw⟩
 refine ⟨?_, hw⟩
 have e : b = unB N xs := by
  rw [Bool.eq_iff_iff, hb, unB_iff]
 rw [e]
set_option maxHeartbeats 1000000
theorem nm_okA {xs : List Nm} (h : allOk xs = true) (k : Nat) : (nm xs k).Ok := by
 by_cases hk : k < xs.length
 ·exact ok_at h hk
 ·have e : nm xs k = Nm.zero := by
   show El.at NmE xs k = _
   unfold El.at
   rw [List.getD_eq_getElem?_getD, List.getElem?_eq_none Ox]
   rfl
  rw [e]; exact zero_ok
def tb (N : Nat) (xs : List Nm) (i k : Nat) : Q4 := (nm xs (i * N + k)).val
theorem validB_mk {N : Nat} {l : List Nm} (h1 : 1 ≤ N) (h6 : N ≤ 6) (hl : l.length = N * N) (ho : allOk l = true) : validB N l = true := by
 have e : ((N * N : Nat) : Int) = (N : Int) * N := Int.natCast_mul N N
 unfold validB
 simp only [Bool.and_eq_true, decide_eq_true_eq]
 exact ⟨by omega, by omega, by omega, ho⟩
theorem made_valid {N : Nat} {f : Nat → Nat → NR} {l : List Nm} (h1 : 1 ≤ N) (h6 : N ≤ 6) (h : madeR N f = .ok l) (hf : ∀ i k z, i < N → k < N → f i k = .ok z → z.Ok) : validB N l = true := by
 refine validB_mk h1 h6 (made_len h) (allOk_true fun t ht => okB_iff.2 ?_)
 have hl := made_len h
 have hg := gather_get h t Ox
 have ht' : t < N * N := by omega
 exact hf (t / N) (t % N) _ (Nat.div_lt_of_lt_mul ht') (Nat.mod_lt _ Ox) hg
theorem rC_gather {f : Nat → NR} {t : Nat} (hf : ∀ i c, i < t → f i = .error c → c ≠ 0) (h : rC (gather f t) = 0) : ∃ l, gather f t = .ok l := by
 cases hg : gather f t with
 | ok l => exact ⟨l, rfl⟩
 | error c =>
  obtain ⟨i, hi, he⟩ := gather_err_mem hg
  rw [hg] at h
  exact absurd h (hf i c hi he)
theorem unB_C {N : Nat} {xs : List Nm} (hv : validB N xs = true) : unB N xs = true ↔ UnC N (tb N xs) := by
 obtain ⟨N', e, h1, h6, hlen, h36, hok⟩ := validB_true hv
 obtain rfl : N' = N := by omega
 rw [unB_iff]
 have one : ∀ k l, k < N' → l < N' → (wnum (colS xs N' k l N') = (wantN k l, true) ↔ sumQ N' (fun i => Q4.conj (nm xs (i * N' + k)).val * (nm xs (i * N' + l)).val) = dl k l) := fun k l hk hl => by
  rw [← colS_val hok hlen h6 hk hl N' Ox]
  exact wnum_iff (colS_W hok hlen h6 hk hl N' Ox).2.1 k l
 exact ⟨fun h i j hi hj => (one i j hi hj).1 (h i j hi hj), fun h i j hi hj => (one i j hi hj).2 (h i j hi hj)⟩
theorem unC_congr {n : Nat} {a b : Nat → Nat → Q4} (h : ∀ i k, i < n → k < n → a i k = b i k) (hb : UnC n b) : UnC n a := by
 intro i j hi hj
 rw [← hb i j hi hj]
 exact sumQ_congr fun k hk => by rw [h k i hk hi, h k j hk hj]
set_option maxHeartbeats 1000000
theorem tb_ext {N : Nat} {xs ys : List Nm} (hx : validB N xs = true) (hy : validB N ys = true) (h : ∀ i k, i < N → k < N → tb N xs i k = tb N ys i k) : xs = ys := by
 obtain ⟨N', e, h1, h6, hl, -, ho⟩ := validB_true hx
 obtain rfl : N' = N := by omega
 obtain ⟨N'', e', -, -, hl', -, ho'⟩ := validB_true hy
 obtain rfl : N'' = N' := by omega
 have hh : ∀ t, t < N'' * N'' → nm xs t = nm ys t := fun t ht => by
  have hd := h (t / N'') (t % N'') (Nat.div_lt_of_lt_mul ht) (Nat.mod_lt _ Ox)
  unfold tb at hd
  rw [Nat.mul_comm, Nat.div_add_mod] at hd
  exact val_ok (nm_okA ho t) (nm_okA ho' t) hd
 refine List.ext_getElem Ox fun t g1 g2 => ?_
 have := hh t Ox
 unfold nm El.at at this
 rw [List.getD_eq_getElem?_getD, List.getD_eq_getElem?_getD, List.getElem?_eq_getElem g1, List.getElem?_eq_getElem g2] at this
 exact this
theorem mulM_ok {n m : Int} {xs ys : List Nm} (h : rC (mulM n m xs ys) = 0) : ∃ (N : Nat) (l : List Nm), n = N ∧ m = N ∧ 1 ≤ N ∧ N ≤ 6 ∧ validB N xs = true ∧ validB N ys = true ∧ mulM n m xs ys = .ok l ∧ validB N l = true ∧
    ∀ i k, i < N → k < N → tb N l i k = sumQ N fun j => tb N xs i j * tb N ys j k := by
  unfold mulM at h ⊢
  cases hv : validB n xs with
  | false => rw [hv] at h; cases (show (20 : Int) = 0 from h)
  | true =>
  cases hv2 : validB m ys with
  | false => rw [hv, hv2] at h; cases (show (20 : Int) = 0 from h)
  | true =>
  rw [hv, hv2, Bool.and_self, if_pos rfl] at h
  by_cases hnm : n = m
  · subst hnm
    obtain ⟨N, rfl, h1, h6, hlen, h36, hok⟩ := validB_true hv
    obtain ⟨-, -, -, -, -, -, hok2⟩ := validB_true hv2
    rw [if_pos rfl, Int.toNat_natCast] at h; rw [Bool.and_self, if_pos rfl, if_pos rfl, Int.toNat_natCast]
    obtain ⟨l, hl⟩ : ∃ l, madeR N (mulF N xs ys) = .ok l := rC_gather (fun i c _ he => by have := prodsR_code he; omega) h
    have hx : ∀ k, (nm xs k).Ok := nm_okA hok
    have hy : ∀ k, (nm ys k).Ok := nm_okA hok2
    refine ⟨N, l, rfl, rfl, h1, h6, hv, hv2, hl, made_valid h1 h6 hl fun i k z hi hk hz => (prodsR_val (fun _ => hx _) (fun _ => hy _) hz).1, fun i k hi hk => ?_⟩
    exact (prodsR_val (fun _ => hx _) (fun _ => hy _) (made_get hl hi hk)).2
  · rw [if_neg hnm] at h; cases (show (21 : Int) = 0 from h)
theorem mapM_valid {F : Nat → List Nm → Nat → Nat → NR} {N : Nat} {xs : List Nm} (hv : validB N xs = true) (g : Nm → Nm) (hg : ∀ z : Nm, z.Ok → (g z).Ok) (ix : Nat → Nat → Nat) (hF : ∀ i k, F N xs i k = .ok (g (nm xs (ix i k)))) :
    ∃ l, mapM F N xs = .ok l ∧ validB N l = true ∧ ∀ i k, i < N → k < N → nm l (i * N + k) = g (nm xs (ix i k)) := by
  obtain ⟨N', e, h1, h6, hlen, h36, hok⟩ := validB_true hv
  obtain rfl : N' = N := by omega
  unfold mapM
  rw [hv, if_pos rfl, Int.toNat_natCast]
  obtain ⟨l, hl⟩ : ∃ l, madeR N' (F N' xs) = .ok l := by
    have := gather_pure (fun t => g (nm xs (ix (t / N') (t % N')))) (N' * N')
    refine ⟨_, Eq.trans (gather_congr _ fun t _ => ?_) this⟩
    exact hF _ _
  refine ⟨l, hl, made_valid h1 h6 hl fun i k z hi hk hz => ?_, fun i k hi hk => ?_⟩
  · rw [hF] at hz; cases hz; exact hg _ (nm_okA hok _)
  · have := made_get hl hi hk
    rw [hF] at this
    exact (Except.ok.inj this).symm
theorem dagM_ok {N : Nat} {xs : List Nm} (hv : validB N xs = true) : ∃ l, mapM dagF N xs = .ok l ∧ validB N l = true ∧ ∀ i k, i < N → k < N → tb N l i k = Q4.conj (tb N xs k i) := by
 obtain ⟨l, h1, h2, h3⟩ := mapM_valid (F := dagF) hv Nm.conj (fun z hz => conj_ok hz) (fun i k => k * N + i) fun i k => rfl
 exact ⟨l, h1, h2, fun i k hi hk => by unfold tb; rw [h3 i k hi hk, val_conj]⟩
set_option maxHeartbeats 1000000
theorem turn_M (z : Nm) : ∀ n, Nm.turn n z = turnM n z
  | 0 => rfl
  | n + 1 => by show (Nm.turn n z).rot = (turnM n z).rot; rw [turn_M z n]
def itQ (x : It) (m : Tb) : Tb := if x.kind = 1 then phQ (x.at_ - 1).toNat (omP (x.n % 8).toNat) m else if x.kind = 3 then crQ (x.at_ - 1).toNat m else cpQ (x.at_ - 1).toNat m
def actQ (L : List It) (m : Tb) : Tb := L.foldl (fun m x => itQ x m) m
def cpls (L : List It) : Nat := (L.filter fun x => decide (x.kind = 2)).length
theorem actQ_snoc (L : List It) (x : It) (m : Tb) : actQ (L ++ [x]) m = itQ x (actQ L m) := by unfold actQ; rw [List.foldl_append]; rfl
theorem it_kind {N : Nat} {x : It} (h : fitB N x = true) : (x.kind = 1 ∧ (x.at_ - 1).toNat < N ∧ 1 ≤ x.n ∧ x.n ≤ 7) ∨ ((x.kind = 2 ∨ x.kind = 3) ∧ (x.at_ - 1).toNat + 1 < N) := by
 have h' := of_decide_eq_true h
 unfold wd at h'
 obtain ⟨h0, h1, h2⟩ := h'
 by_cases k1 : x.kind = 1
 ·rw [if_pos k1] at h0 h2
  split at h0
  ·rename_i hn
   rw [if_pos hn] at h2
   exact .inl ⟨k1, by omega, hn.1, hn.2.1⟩
  ·exact absurd rfl h0
 ·rw [if_neg k1] at h0 h2
  split at h0
  ·rename_i hk
   rw [if_pos hk] at h2
   split at h0
   ·rename_i hn
    rw [if_pos hn] at h2
    exact .inr ⟨hk, by omega⟩
   ·exact absurd rfl h0
  ·exact absurd rfl h0
def EqT (N : Nat) (a b : Tb) : Prop := ∀ i k, i < N → k < N → a i k = b i k
theorem itQ_congr {N : Nat} {x : It} {a b : Tb} (hx : fitB N x = true) (h : EqT N a b) : EqT N (itQ x a) (itQ x b) := fun i k hi hk => by
  unfold itQ
  rcases it_kind hx with ⟨k1, hp, -⟩ | ⟨k2, hp⟩
  · rw [if_pos k1, if_pos k1]; unfold phQ; rw [h i k hi hk]
  · have n1 : ¬ x.kind = 1 := by omega
    rw [if_neg n1, if_neg n1]
    by_cases k3 : x.kind = 3
    · rw [if_pos k3, if_pos k3]; exact h _ k (swq_lt hp hi) hk
    · rw [if_neg k3, if_neg k3]
      unfold cpQ
      rw [h i k hi hk, h _ k (by omega : (x.at_ - 1).toNat < N) hk, h _ k hp hk]
theorem itQ_un {N : Nat} {x : It} {m : Tb} (hx : fitB N x = true) (h : UnC N m) : UnC N (itQ x m) := by
 unfold itQ
 rcases it_kind hx with ⟨k1, hp, -⟩ | ⟨k2, hp⟩
 ·rw [if_pos k1]; exact ph_un (omP_unit _) h
 ·rw [if_neg Ox]
  split
  ·exact cr_un hp h
  ·exact cp_un hp h
theorem actQ_un {N : Nat} : ∀ {L : List It} {m : Tb}, (∀ x ∈ L, fitB N x = true) → UnC N m → UnC N (actQ L m)
  | [], _, _, h => h
  | x :: L, m, hf, h => actQ_un (L := L) (fun y hy => hf y (by simp [hy])) (itQ_un (hf x (by simp)) h)
theorem dl_un (N : Nat) : UnC N dl := fun i j hi hj => by
  rw [sumQ_congr (g := fun k => dl i k * dl k j) fun k _ => by rw [dl_conj, dl_comm k i], sumQ_dl _ hi]
theorem it_lin {N : Nat} {x : It} (hx : fitB N x = true) (m : Tb) {i k : Nat} (hi : i < N) : itQ x m i k = sumQ N fun j => itQ x dl i j * m j k := by
 have base : ∀ i, i < N → m i k = sumQ N fun j => dl i j * m j k := fun i hi => (sumQ_dl (fun j => m j k) hi).symm
 unfold itQ
 rcases it_kind hx with ⟨k1, hp, -⟩ | ⟨k2, hp⟩
 ·rw [if_pos k1]
  simp only [if_pos k1]
  unfold phQ
  by_cases e : i = (x.at_ - 1).toNat
  ·simp only [if_pos e]
   rw [sumQ_congr fun j _ => Q4.mul_assoc _ _ _, sumQ_mul, ← base i hi]
  ·simp only [if_neg e]
   exact base i hi
 ·have n1 : ¬ x.kind = 1 := by omega
  rw [if_neg n1]; simp only [if_neg n1]
  split
  ·exact base _ (swq_lt hp hi)
  ·unfold cpQ
   generalize (x.at_ - 1).toNat = p at *
   have lin : ∀ u v : Q4, sumQ N (fun j => hhQ * (u * dl p j + v * dl (p + 1) j) * m j k) = hhQ * (u * m p k + v * m (p + 1) k) := fun u v => by
    rw [sumQ_congr (g := fun j => hhQ * (u * (dl p j * m j k) + v * (dl (p + 1) j * m j k))) fun j _ => by rw [Q4.mul_assoc, Q4.add_mul, Q4.mul_assoc u, Q4.mul_assoc v], sumQ_mul, sumQ_add, sumQ_mul, sumQ_mul, ← base p Ox, ← base (p + 1) hp]
   by_cases e : i = p
   ·simp only [if_pos e]
    have := lin 1 imQ
    simp only [Q4.one_mul] at this
    exact this.symm
   ·simp only [if_neg e]
    by_cases e2 : i = p + 1
    ·simp only [if_pos e2]
     have := lin imQ 1
     simp only [Q4.one_mul] at this
     exact this.symm
    ·simp only [if_neg e2]
     exact base i hi
theorem act_lin {N : Nat} : ∀ {L : List It} (m : Tb), (∀ x ∈ L, fitB N x = true) → ∀ {i k : Nat}, i < N → actQ L m i k = sumQ N fun j => actQ L dl i j * m j k
  | [], m, _, i, k, hi => (sumQ_dl (fun j => m j k) hi).symm
  | x :: L, m, hf, i, k, hi => by
    have hx := hf x (by simp)
    have hL : ∀ y ∈ L, fitB N y = true := fun y hy => hf y (by simp [hy])
    show actQ L (itQ x m) i k = sumQ N fun j => actQ L (itQ x dl) i j * m j k
    rw [act_lin (L := L) (itQ x m) hL hi]; rw [sumQ_congr fun j hj => by rw [it_lin hx m hj], ← mul_assocT]
    exact sumQ_congr fun j _ => by rw [act_lin (L := L) (itQ x dl) hL hi]
theorem nm_setI {l : List Nm} {j t : Nat} {v : Nm} (hj : j < l.length) : nm (l.set j v) t = if t = j then v else nm l t := by
 unfold nm El.at
 rw [List.getD_eq_getElem?_getD, List.getD_eq_getElem?_getD, List.getElem?_set]
 by_cases e : t = j
 ·subst e; rw [if_pos rfl, if_pos rfl, if_pos hj]; rfl
 ·rw [if_neg (fun h => e h.symm), if_neg e]
theorem idM_nm {N t : Nat} (h1 : 1 ≤ N) (h6 : N ≤ 6) (ht : t < N * N) : nm (idM N) t = if t / N = t % N then Nm.one else Nm.zero := by
 have e : idM N = (List.range (N * N)).map fun t => if t / N = t % N then Nm.one else Nm.zero := by
  unfold idM identR
  rw [if_pos Ox, Int.toNat_natCast]
  show rL (gather _ _) = _
  rw [show gather (fun t => idR (t / N) (t % N)) (N * N) = .ok _ from gather_pure (fun t => if t / N = t % N then Nm.one else Nm.zero) (N * N)]
  rfl
 rw [e]
 unfold nm El.at
 rw [List.getD_eq_getElem?_getD, List.getElem?_map, List.getElem?_range ht]; rfl
theorem ix_eq {N i k p q : Nat} (hk : k < N) (hq : q < N) : i * N + k = p * N + q ↔ i = p ∧ k = q := by
 constructor
 ·intro h
  have e1 := ix_div (i := i) hk
  have e2 := ix_div (i := p) hq
  have e3 := ix_mod (i := i) hk
  have e4 := ix_mod (i := p) hq
  rw [h] at e1 e3
  exact ⟨e1.symm.trans e2, e3.symm.trans e4⟩
 ·rintro ⟨rfl, rfl⟩; rfl
theorem idM_at {N i k : Nat} (h1 : 1 ≤ N) (h6 : N ≤ 6) (hi : i < N) (hk : k < N) : nm (idM N) (i * N + k) = if i = k then Nm.one else Nm.zero := by
 rw [idM_nm h1 h6 (ix_lt hi hk), ix_div hk, ix_mod hk]
theorem itL_at {N : Nat} {x : It} (h1 : 1 ≤ N) (h6 : N ≤ 6) (hx : fitB N x = true) {i k : Nat} (hi : i < N) (hk : k < N) : tb N (itL N x) i k = itQ x dl i k := by
 have vz : Nm.zero.val = 0 := val_zero
 have vo : Nm.one.val = 1 := val_one
 have base : (nm (idM N) (i * N + k)).val = dl i k := by
  rw [idM_at h1 h6 hi hk]
  by_cases e : i = k
  ·rw [if_pos e, e, dl_self]; rfl
  ·rw [if_neg e, dl_ne e]; rfl
 have lid := idM_len h1 h6
 unfold tb itL plcL itQ
 rcases it_kind hx with ⟨k1, hp, hn1, hn7⟩ | ⟨k2, hp⟩
 ·have e1 : ownN x = 1 := if_pos k1
  have e2 : ownL x = [Nm.turn (x.n % 8).toNat Nm.one] := if_pos k1
  rw [e1, e2, if_pos k1]
  generalize (x.at_ - 1).toNat = p at *
  show (nm ((idM N).set ((p + 0 / 1) * N + p + 0 % 1) _) _).val = _
  rw [Nat.zero_div, Nat.zero_mod, Nat.add_zero, Nat.add_zero, nm_setI (by rw [lid]; exact ix_lt hp hp)]
  unfold phQ
  by_cases e : i = p ∧ k = p
  ·rw [if_pos ((ix_eq hk hp).2 e), if_pos e.1, e.1, e.2, dl_self, Q4.mul_one]
   show (Nm.turn _ Nm.one).val = _
   rw [turn_M, turnM_val, vo, Q4.mul_one]
  ·rw [if_neg (fun h => e ((ix_eq hk hp).1 h)), base]
   by_cases e3 : i = p
   ·rw [if_pos e3, dl_ne Ox, Q4.mul_zero]
   ·rw [if_neg e3]
 ·have n1 : ¬ x.kind = 1 := by omega
  have e1 : ownN x = 2 := if_neg n1
  rw [e1, if_neg n1]
  have four : ∀ z0 z1 z2 z3 : Nm, ownL x = [z0, z1, z2, z3] → ∀ p, p + 1 < N → nm (plcS N p 2 (ownL x) (idM N) 4) (i * N + k) =
    if i = p + 1 ∧ k = p + 1 then z3 else if i = p + 1 ∧ k = p then z2 else if i = p ∧ k = p + 1 then z1 else if i = p ∧ k = p then z0 else nm (idM N) (i * N + k) := by
   intro z0 z1 z2 z3 e p hp; rw [e]
   show nm ((((idM N).set ((p + 0) * N + p + 0) z0).set ((p + 0) * N + p + 1) z1).set ((p + 1) * N + p + 0) z2 |>.set ((p + 1) * N + p + 1) z3) _ = _
   rw [nm_setI (by simp only [List.length_set, lid]; rw [Nat.add_assoc]; exact ix_lt hp hp), nm_setI (by simp only [List.length_set, lid]; exact ix_lt hp Ox),
    nm_setI (by simp only [List.length_set, lid]; rw [Nat.add_assoc]; exact ix_lt Ox hp), nm_setI (by simp only [lid]; exact ix_lt Ox Ox)]
   simp only [Nat.add_zero, Nat.add_assoc]; simp only [ix_eq (N := N) (i := i) (k := k) hk hp, ix_eq (N := N) (i := i) (k := k) hk (show p < N by omega)]
  generalize (x.at_ - 1).toNat = p at *
  show (nm (plcS N p 2 (ownL x) (idM N) 4) (i * N + k)).val = _
  split
  ·rename_i k3
   have e2 : ownL x = [Nm.zero, Nm.one, Nm.one, Nm.zero] := by unfold ownL; rw [if_neg n1, if_pos k3]
   rw [four _ _ _ _ e2 p hp]
   unfold crQ swq
   by_cases a1 : i = p
   ·subst a1
    rw [if_neg Ox, if_neg Ox, if_pos rfl]
    by_cases b1 : k = i + 1
    ·rw [if_pos ⟨rfl, b1⟩, b1, dl_self]; rfl
    ·rw [if_neg Ox, dl_ne Ox]
     by_cases b2 : k = i
     ·rw [if_pos ⟨rfl, b2⟩]; rfl
     ·rw [if_neg Ox, base, dl_ne Ox]
   ·rw [if_neg a1]
    by_cases a2 : i = p + 1
    ·subst a2
     rw [if_pos rfl]
     by_cases b1 : k = p + 1
     ·rw [if_pos ⟨rfl, b1⟩, dl_ne Ox]; rfl
     ·rw [if_neg Ox]
      by_cases b2 : k = p
      ·rw [if_pos ⟨rfl, b2⟩, b2, dl_self]; rfl
      ·rw [if_neg Ox, if_neg Ox, if_neg Ox, base, dl_ne Ox, dl_ne Ox]
    ·rw [if_neg Ox, if_neg Ox, if_neg Ox, if_neg Ox, if_neg a2, base]
  ·rename_i k3
   have e2 : ownL x = [halfN, sideN, sideN, halfN] := by unfold ownL; rw [if_neg n1, if_neg k3]
   have vh : halfN.val = hhQ := by show Q4.dh (Nm.one.co) = _; rw [dh_hh]; show hhQ * 1 = _; rw [Q4.mul_one]
   have vs : sideN.val = hhQ * imQ := by
    have : sideN.val = Q4.dh (⟨0, 0, 1, 0, 0⟩ : Nm).co := rfl
    rw [this, dh_hh]; rfl
   rw [four _ _ _ _ e2 p hp]
   unfold cpQ
   by_cases a1 : i = p
   ·subst a1
    rw [if_neg Ox, if_neg Ox, if_pos rfl]
    by_cases b1 : k = i + 1
    ·rw [if_pos ⟨rfl, b1⟩, b1, dl_self, dl_ne Ox, Q4.zero_add, Q4.mul_one, vs]
    ·rw [if_neg Ox, dl_ne (show i + 1 ≠ k by omega), Q4.mul_zero, Q4.add_zero]
     by_cases b2 : k = i
     ·rw [if_pos ⟨rfl, b2⟩, b2, dl_self, Q4.mul_one, vh]
     ·rw [if_neg Ox, base, dl_ne Ox, Q4.mul_zero]
   ·rw [if_neg a1]
    by_cases a2 : i = p + 1
    ·subst a2
     rw [if_pos rfl]
     by_cases b1 : k = p + 1
     ·rw [if_pos ⟨rfl, b1⟩, b1, dl_self, dl_ne Ox, Q4.mul_zero, Q4.zero_add, Q4.mul_one, vh]
     ·rw [if_neg Ox, dl_ne (show p + 1 ≠ k by omega), Q4.add_zero]
      by_cases b2 : k = p
      ·rw [if_pos ⟨rfl, b2⟩, b2, dl_self, Q4.mul_one, vs]
      ·rw [if_neg Ox, if_neg Ox, if_neg Ox, base, dl_ne Ox, dl_ne Ox, Q4.mul_zero, Q4.mul_zero]
    ·rw [if_neg Ox, if_neg Ox, if_neg Ox, if_neg Ox, if_neg a2, base]
theorem idM_ok {N : Nat} (h1 : 1 ≤ N) (h6 : N ≤ 6) : validB N (idM N) = true := by
 refine validB_mk h1 h6 (idM_len h1 h6) ?_
 unfold allOk
 rw [List.all_eq_true]
 intro z hz
 obtain ⟨t, ht, e⟩ := List.getElem_of_mem hz
 have := idM_nm h1 h6 (t := t) (by rw [← idM_len h1 h6]; exact ht)
 unfold nm El.at at this
 rw [List.getD_eq_getElem?_getD, List.getElem?_eq_getElem ht] at this
 have this' : (idM N)[t] = _ := this
 rw [← e, this']
 split <;> decide
theorem take_it {xs : List It} {j : Nat} (h : j < xs.length) : xs.take (j + 1) = xs.take j ++ [it xs j] := by
 rw [List.take_succ, List.getElem?_eq_getElem h]
 unfold it
 rw [List.getD_eq_getElem?_getD, List.getElem?_eq_getElem h]; rfl
theorem matS_act {N : Nat} {xs : List It} (h1 : 1 ≤ N) (h6 : N ≤ 6) (hf : ∀ x ∈ xs, fitB N x = true) : ∀ j, j ≤ xs.length → ∀ {l : List Nm}, matS N xs j = .ok l → validB N l = true ∧ EqT N (tb N l) (actQ (xs.take j) dl)
  | 0, _, l, h => by
    cases (show Except.ok (idM N) = Except.ok l from h)
    refine ⟨idM_ok h1 h6, fun i k hi hk => ?_⟩
    show (nm _ _).val = dl i k
    rw [idM_at h1 h6 hi hk]
    by_cases e : i = k
    · rw [if_pos e, e, dl_self]; rfl
    · rw [if_neg e, dl_ne e]; rfl
  | j + 1, hj, l, h => by
    rw [matS] at h
    split at h
    · cases h
    · rename_i l0 h0
      obtain ⟨v0, e0⟩ := matS_act h1 h6 hf j Ox h0
      obtain ⟨N', l', n1, n2, -, -, -, -, hl, hv, ht⟩ := mulM_ok (show rC (mulM N N (itL N (it xs j)) l0) = 0 by rw [h]; rfl)
      obtain rfl : N = N' := by omega
      rw [h] at hl
      cases hl
      have hx := hf _ (it_mem (show j < xs.length by omega))
      refine ⟨hv, fun i k hi hk => ?_⟩; rw [ht i k hi hk, take_it Ox, actQ_snoc, it_lin hx _ hi]
      exact sumQ_congr fun j' hj' => by rw [itL_at h1 h6 hx hi hj', e0 j' k hj' hk]
theorem act_in {N : Nat} : ∀ {L : List It} {m : Tb} {K : Nat}, (∀ x ∈ L, fitB N x = true) → (∀ i k, i < N → k < N → InQ K (m i k)) → ∀ i k, i < N → k < N → InQ (K + cpls L) (actQ L m i k)
  | [], _, _, _, h => h
  | x :: L, m, K, hf, h => by
    have hx := hf x (by simp)
    have hL : ∀ y ∈ L, fitB N y = true := fun y hy => hf y (by simp [hy])
    show ∀ i k, i < N → k < N → InQ (K + cpls (x :: L)) (actQ L (itQ x m) i k)
    rcases it_kind hx with ⟨k1, hp, -⟩ | ⟨k2, hp⟩
    · have e : cpls (x :: L) = cpls L := by unfold cpls; rw [List.filter_cons_of_neg]; simp; omega
      rw [e]
      refine act_in hL fun i k hi hk => ?_
      unfold itQ
      rw [if_pos k1]
      unfold phQ
      split
      · exact (h i k hi hk).omn _
      · exact h i k hi hk
    · by_cases k3 : x.kind = 3
      · have e : cpls (x :: L) = cpls L := by unfold cpls; rw [List.filter_cons_of_neg]; simp; omega
        rw [e]
        refine act_in hL fun i k hi hk => ?_
        unfold itQ
        rw [if_neg Ox, if_pos k3]
        exact h _ k (swq_lt hp hi) hk
      · have e : cpls (x :: L) = cpls L + 1 := by unfold cpls; rw [List.filter_cons_of_pos]; rfl; simp; omega
        rw [e, show K + (cpls L + 1) = (K + 1) + cpls L by omega]
        refine act_in hL fun i k hi hk => ?_
        unfold itQ
        rw [if_neg Ox, if_neg k3]
        unfold cpQ
        have i1 := h (x.at_ - 1).toNat k Ox hk
        have i2 := h ((x.at_ - 1).toNat + 1) k hp hk
        split
        · exact (i1.add i2.im).hh
        · split
          · exact (i1.im.add i2).hh
          · exact (h i k hi hk).up
theorem expo_max {xs : List Nm} {K : Int} (h0 : 0 ≤ K) (h : ∀ z ∈ xs, z.k ≤ K) : expo xs ≤ K := by
 unfold expo
 have : ∀ (xs : List Nm) (a : Int), a ≤ K → (∀ z ∈ xs, z.k ≤ K) → xs.foldl (fun k z => if k < z.k then z.k else k) a ≤ K := by
  intro xs
  induction xs with
  | nil => intro a ha _; exact ha
  | cons x xs ih =>
   intro a ha h
   refine ih _ ?_ fun z hz => h z (by simp [hz])
   have hx := h x (by simp)
   show (if a < x.k then x.k else a) ≤ K
   split
   ·exact hx
   ·exact ha
 exact this xs 0 h0 h
theorem expo_cpls {N : Nat} {L : List It} {l : List Nm} (hf : ∀ x ∈ L, fitB N x = true) (hv : validB N l = true) (he : EqT N (tb N l) (actQ L dl)) : expo l ≤ cpls L := by
 obtain ⟨N', e, h1, h6, hl, -, ho⟩ := validB_true hv
 obtain rfl : N' = N := by omega
 refine expo_max Ox fun z hz => ?_
 obtain ⟨t, ht, ez⟩ := List.getElem_of_mem hz
 have hz' : nm l t = z := by unfold nm El.at; rw [List.getD_eq_getElem?_getD, List.getElem?_eq_getElem ht]; exact ez
 have hd : N' * (t / N') + t % N' = t := Nat.div_add_mod t N'
 have hi : t / N' < N' := Nat.div_lt_of_lt_mul Ox
 have hk : t % N' < N' := Nat.mod_lt _ Ox
 have h2 := act_in (K := 0) hf (fun i k _ _ => by
  show InQ 0 (dl i k)
  unfold dl
  split
  ·exact InQ.one 0
  ·exact InQ.zero 0) (t / N') (t % N') hi hk
 rw [← he _ _ hi hk] at h2
 unfold tb at h2
 rw [Nat.mul_comm, hd, hz', Nat.zero_add] at h2
 have ok : z.Ok := by rw [← hz']; exact nm_okA ho t
 exact le_in ok.nf ok.k0 h2
theorem prog_mat {N : Nat} {L : List It} {l m : List Nm} (hf : ∀ x ∈ L, fitB N x = true) (hm : validB N m = true) (hu : unB N m = true) (hI : EqT N (actQ L fun i k => Q4.conj (tb N m k i)) dl) : EqT N (actQ L dl) (tb N m) := fun i l hi hl => by
  have hc := (unB_C hm).1 hu
  have h1 : ∀ k, k < N → sumQ N (fun j => actQ L dl i j * Q4.conj (tb N m k j)) = dl i k := fun k hk => by
    rw [← hI i k hi hk, act_lin _ hf hi]
  have h2 : sumQ N (fun k => sumQ N (fun j => actQ L dl i j * Q4.conj (tb N m k j)) * tb N m k l) = tb N m i l := by
    rw [sumQ_congr fun k hk => by rw [h1 k hk], sumQ_dl _ hi]
  rw [mul_assocT (fun i j => actQ L dl i j) (fun j k => Q4.conj (tb N m k j)) (tb N m) i l] at h2; rw [← h2, sumQ_congr fun j hj => by rw [hc j l hj hl], sumQ_dlr _ hl]
set_option maxHeartbeats 1000000
theorem empU : (⟨#[]⟩ : ByteArray).toList.isEmpty = true := by
 unfold ByteArray.toList
 unfold ByteArray.toList.loop
 rfl
theorem fit_crossU {N p : Nat} (hp : p + 1 < N) : fitB N (cross p) = true := by
 have e : wd (cross p) = 2 := by unfold wd cross; rw [if_neg (show ¬ ((3 : Int) = 1) by decide), if_pos (show (3 : Int) = 2 ∨ (3 : Int) = 3 by decide), if_pos ⟨rfl, empU⟩]
 exact fitB_true ⟨by rw [e]; decide, by show (1 : Int) ≤ (p : Int) + 1; omega, by rw [e]; show (p : Int) + 1 ≤ _; omega⟩
theorem fit_cplU {N p : Nat} (hp : p + 1 < N) : fitB N (cplI ((p : Int) + 1)) = true := by
 have e : wd (cplI ((p : Int) + 1)) = 2 := by unfold wd cplI; rw [if_neg (show ¬ ((2 : Int) = 1) by decide), if_pos (show (2 : Int) = 2 ∨ (2 : Int) = 3 by decide), if_pos ⟨rfl, empU⟩]
 exact fitB_true ⟨by rw [e]; decide, by show (1 : Int) ≤ (p : Int) + 1; omega, by rw [e]; show (p : Int) + 1 ≤ _; omega⟩
theorem fit_phsU {N p m : Nat} (hp : p < N) (h0 : m ≠ 0) (h7 : m < 8) : fitB N (phsI ((p : Int) + 1) m) = true := by
 have e : wd (phsI ((p : Int) + 1) m) = 1 := by unfold wd phsI; rw [if_pos (show (1 : Int) = 1 from rfl), if_pos ⟨by show (1 : Int) ≤ (m : Int); omega, by show (m : Int) ≤ 7; omega, empU⟩]
 exact fitB_true ⟨by rw [e]; decide, by show (1 : Int) ≤ (p : Int) + 1; omega, by rw [e]; show (p : Int) + 1 ≤ _; omega⟩
theorem itQ_cross (p : Nat) (m : Tb) : itQ (cross p) m = crQ p m := by
 have e : ((cross p).at_ - 1).toNat = p := by show ((p : Int) + 1 - 1).toNat = p; omega
 unfold itQ
 rw [if_neg (show ¬ (cross p).kind = 1 by show ¬ (3 : Int) = 1; decide), if_pos (show (cross p).kind = 3 from rfl), e]
theorem itQ_cpl (p : Nat) (m : Tb) : itQ (cplI ((p : Int) + 1)) m = cpQ p m := by
 have e : ((cplI ((p : Int) + 1)).at_ - 1).toNat = p := by show ((p : Int) + 1 - 1).toNat = p; omega
 unfold itQ
 rw [if_neg (show ¬ (cplI ((p : Int) + 1)).kind = 1 by show ¬ (2 : Int) = 1; decide), if_neg (show ¬ (cplI ((p : Int) + 1)).kind = 3 by show ¬ (2 : Int) = 3; decide), e]
theorem itQ_phs (p n : Nat) (hn : n < 8) (m : Tb) : itQ (phsI ((p : Int) + 1) n) m = phQ p (omP n) m := by
 have e : ((phsI ((p : Int) + 1) n).at_ - 1).toNat = p := by show ((p : Int) + 1 - 1).toNat = p; omega
 have e2 : ((phsI ((p : Int) + 1) n).n % 8).toNat = n := by show ((n : Int) % 8).toNat = n; omega
 unfold itQ
 rw [if_pos (show (phsI ((p : Int) + 1) n).kind = 1 from rfl), e, e2]
theorem phQ_zero (p : Nat) (m : Tb) : phQ p (omP 0) m = m := by
 funext i k
 unfold phQ
 split
 ·show 1 * m i k = m i k; rw [Q4.one_mul]
 ·rfl
theorem mem_snoc {L : List It} {x : It} {P : It → Prop} (h : ∀ y ∈ L, P y) (hx : P x) : ∀ y ∈ L ++ [x], P y := fun y hy => by
  rcases List.mem_append.1 hy with h' | h'
  · exact h y h'
  · rcases List.mem_singleton.1 h' with rfl; exact hx
structure Rn (N col : Nat) (B : Int) (M0 : Tb) (W : Nat) (z : Zt) (L : List It) : Prop where
  pi : PI N col z
  bnd : Bnd N col B z
  act : EqT N (vt z) (actQ L M0)
  fit : ∀ x ∈ L, fitB N x = true
  len : L.length + 2 * muZ N col z ≤ W
theorem bs_at (b : Nat) (z : Zt) : ∀ j, j ≤ b → bsZ b z j (b - j) = z b ∧ ∀ i, i < b - j → bsZ b z j i = z i
  | 0, _ => ⟨rfl, fun _ _ => rfl⟩
  | j + 1, hj => by
    obtain ⟨h1, h2⟩ := bs_at b z j Ox
    have e : b - (j + 1) = b - 1 - j := by omega
    rw [e]; refine ⟨?_, fun i hi => ?_⟩
    · show bsZ b z j (swq (b - 1 - j) (b - 1 - j)) = z b
      rw [swq_p, show b - 1 - j + 1 = b - j by omega]
      exact h1
    · show bsZ b z j (swq (b - 1 - j) i) = z i
      rw [swq_o Ox Ox]
      exact h2 i Ox
theorem bs_keep {N col b : Nat} {B : Int} {M0 : Tb} {z : Zt} {L : List It} (h : PI N col z) (hb : Bnd N col B z) (ha : EqT N (vt z) (actQ L M0)) (hf : ∀ x ∈ L, fitB N x = true) (hbN : b < N) : ∀ j, col + j ≤ b →
    PI N col (bsZ b z j) ∧ Bnd N col B (bsZ b z j) ∧ muZ N col (bsZ b z j) ≤ muZ N col z ∧ EqT N (vt (bsZ b z j)) (actQ (L ++ bsL b j) M0) ∧ ∀ x ∈ L ++ bsL b j, fitB N x = true
  | 0, _ => ⟨h, hb, Nat.le_refl _, by rw [show L ++ bsL b 0 = L from List.append_nil L]; exact ha, by rw [show L ++ bsL b 0 = L from List.append_nil L]; exact hf⟩
  | j + 1, hj => by
    obtain ⟨h1, h2, h3, h4, h5⟩ := bs_keep h hb ha hf hbN j Ox
    obtain ⟨c1, c2, c3⟩ := h1.cross h2 (show col ≤ b - 1 - j by omega) (show b - 1 - j + 1 < N by omega)
    have hx := fit_crossU (N := N) (p := b - 1 - j) Ox
    refine ⟨c1, c2, Nat.le_trans c3 h3, ?_, ?_⟩
    · rw [bsL, ← List.append_assoc, actQ_snoc, itQ_cross]
      have := itQ_congr hx h4
      rw [itQ_cross, itQ_cross] at this
      exact this
    · rw [bsL, ← List.append_assoc]
      exact mem_snoc h5 hx
theorem phs_keep {N p m : Nat} {M0 : Tb} {z : Zt} {L : List It} (ha : EqT N (vt z) (actQ L M0)) (hf : ∀ x ∈ L, fitB N x = true) (hp : p < N) (hm : m < 8) :
    EqT N (vt (phZ p m z)) (actQ (if m = 0 then L else L ++ [phsI ((p : Int) + 1) m]) M0) ∧ (∀ x ∈ (if m = 0 then L else L ++ [phsI ((p : Int) + 1) m]), fitB N x = true) ∧ (if m = 0 then L else L ++ [phsI ((p : Int) + 1) m]).length ≤ L.length + 1 := by
  by_cases h0 : m = 0
  · subst h0
    rw [if_pos rfl, ph_vt, phQ_zero]
    exact ⟨ha, hf, by omega⟩
  · rw [if_neg h0]
    have hx := fit_phsU (N := N) hp h0 hm
    refine ⟨?_, mem_snoc hf hx, by rw [List.length_append]; exact Nat.le_refl _⟩; rw [actQ_snoc, itQ_phs p m hm, ph_vt]
    have := itQ_congr hx ha
    rw [itQ_phs p m hm, itQ_phs p m hm] at this
    exact this
theorem Rn.pair {N col W K : Nat} {B : Int} {M0 : Tb} {z z' : Zt} {L L' : List It} (h : Rn N col B M0 W z L) (hN : N ≤ 4) (hc : col < N) (hK : 0 < K) (hE : IsExp N col z K) (hP : PairR N col K z L z' L') :
    Rn N col B M0 W z' L' ∧ muZ N col z' < muZ N col z := by
  obtain ⟨pi, bnd, act, fit, len⟩ := h
  rcases hP with ⟨-, -, hno⟩ | ⟨a, b, hca, hab, hbN, hk0, hkb, rfl, rfl⟩
  · exfalso
    obtain ⟨a, ha, haN, hka⟩ := hE.2.2 Ox
    have hk : kindN (z a col) K ≠ 0 := by
      rcases kind_cases (z a col) K Ox with ⟨e, h1⟩ | ⟨e, -⟩ | ⟨e, -⟩ <;> omega
    obtain ⟨b, hb, hbN, hne, he⟩ := pi.pair hc hK hE ha haN hk
    rcases (by omega : a < b ∨ b < a) with hlt | hlt
    · exact hno a b ha hlt hbN hk he
    · exact hno b a hb hlt haN Ox he.symm
  · obtain ⟨c1, c2, c3, c4, c5⟩ := bs_keep pi bnd act fit hbN (b - (a + 1)) Ox
    obtain ⟨e1, e2⟩ := bs_at b z (b - (a + 1)) Ox
    rw [show b - (b - (a + 1)) = a + 1 by omega] at e1 e2
    have e3 := e2 a Ox
    have hlen := bsL_len b (b - (a + 1))
    generalize bsZ b z (b - (a + 1)) = y at *
    generalize bsL b (b - (a + 1)) = M at *
    have k1 : (z a col).k ≤ K := hE.2.1 a hca Ox
    have k2 : (z b col).k ≤ K := hE.2.1 b Ox hbN
    have s := c1.step (K := K) c2 hca (show a + 1 < N by omega) hK (by rw [e3]; exact k1) (by rw [e1]; exact k2) (by rw [e3, e1]; exact hkb.symm) (by rw [e3]; exact hk0)
    have ez : z a col = y a col := by rw [e3]
    rw [ez]
    obtain ⟨s1, s2, s3, s4⟩ := s
    have hm : (matchN (y a col) (y (a + 1) col) + 6) % 8 < 8 := Nat.mod_lt _ Ox
    generalize (matchN (y a col) (y (a + 1) col) + 6) % 8 = m at *
    obtain ⟨p1, p2, p3⟩ := phs_keep (p := a + 1) (m := m) c4 c5 Ox hm
    have hx := fit_cplU (N := N) (p := a) Ox
    refine ⟨⟨s1, s2, ?_, mem_snoc p2 hx, ?_⟩, by omega⟩
    · rw [actQ_snoc, itQ_cpl]
      have := itQ_congr hx p1
      rw [itQ_cpl, itQ_cpl] at this; intro i k hi hk; rw [s4 i k hi hk, ← this i k hi hk, ph_vt]
    · rw [List.length_append] at p3 ⊢
      show _ + 1 + _ ≤ _
      omega
theorem Rn.unit {N col W : Nat} {B : Int} {M0 : Tb} {z : Zt} {L : List It} (h : Rn N col B M0 W z L) (hc : col < N) (hE : ¬ 0 < expZ z col (N - col)) :
    ∃ a, col ≤ a ∧ a < N ∧ z a col ≠ Nm.zero ∧ (∀ i, i < N → i ≠ a → z i col = Nm.zero) := by
  have he := expZ_exp (N := N) (z := z) (show col ≤ N by omega)
  obtain ⟨a, h1, h2, -, h3, h4⟩ := h.pi.unit hc (fun i hi hiN => by have := he.2.1 i hi hiN; omega)
  exact ⟨a, h1, h2, h3, h4⟩
theorem Rn.beside {N col W a : Nat} {B : Int} {M0 : Tb} {z : Zt} {L : List It} (h : Rn N col B M0 W z L) (hN : N ≤ 4) (hc : col < N) (ha : col ≤ a) (haN : a < N) (hne : z a col ≠ Nm.zero) (hE : ¬ 0 < expZ z col (N - col)) :
    PI N col (bsZ a z (a - col)) ∧ Bnd N col B (bsZ a z (a - col)) ∧ EqT N (vt (bsZ a z (a - col))) (actQ (L ++ bsL a (a - col)) M0) ∧ (∀ x ∈ L ++ bsL a (a - col), fitB N x = true) ∧ (L ++ bsL a (a - col)).length ≤ W + 3 ∧
    (∃ n, n < 8 ∧ turnM n (bsZ a z (a - col) col col) = Nm.one) ∧ ∀ i, i < N → i ≠ col → bsZ a z (a - col) i col = Nm.zero := by
  obtain ⟨pi, bnd, act, fit, len⟩ := h
  have he := expZ_exp (N := N) (z := z) (show col ≤ N by omega)
  obtain ⟨c1, c2, c3, c4, c5⟩ := bs_keep pi bnd act fit haN (a - col) Ox
  obtain ⟨e1, e2⟩ := bs_at a z (a - col) Ox
  rw [show a - (a - col) = col by omega] at e1
  have hz : ∀ j, j ≤ a - col → ∀ i, col ≤ i → i < N → (bsZ a z j i col).k ≤ 0 := by
    intro j hj
    induction j with
    | zero => intro i hi hiN; have := he.2.1 i hi hiN; show (z i col).k ≤ 0; omega
    | succ j ih => intro i hi hiN; exact ih Ox _ (swq_ge Ox hi) (swq_lt Ox hiN)
  obtain ⟨a', h1, h2, h3, h4, h5⟩ := c1.unit hc (hz _ (Nat.le_refl _))
  have hlen := bsL_len a (a - col)
  have ea : a' = col := by
    refine Decidable.byContradiction fun hn => ?_
    have := h5 col hc (fun e => hn e.symm)
    rw [e1] at this
    exact hne this
  subst ea
  exact ⟨c1, c2, c4, c5, by rw [List.length_append, hlen]; omega, h3, h5⟩
theorem Rn.last {N col m : Nat} {B : Int} {M0 : Tb} {z : Zt} {L : List It} (hN : N ≤ col + 4) (hB : N = col + 4 → B ≤ 13) (hc : col < N) (pi : PI N col z) (bnd : Bnd N col B z) (act : EqT N (vt z) (actQ L M0)) (fit : ∀ x ∈ L, fitB N x = true)
    (hm : m < 8) (h1 : turnM m (z col col) = Nm.one) (h2 : ∀ i, i < N → i ≠ col → z i col = Nm.zero) :
    PI N (col + 1) (phZ col m z) ∧ Cb N (col + 1) (phZ col m z) ∧ EqT N (vt (phZ col m z)) (actQ (if m = 0 then L else L ++ [phsI ((col : Int) + 1) m]) M0) ∧
    (∀ x ∈ (if m = 0 then L else L ++ [phsI ((col : Int) + 1) m]), fitB N x = true) ∧ (if m = 0 then L else L ++ [phsI ((col : Int) + 1) m]).length ≤ L.length + 1 := by
  obtain ⟨c1, c2, -⟩ := pi.phase (n := m) bnd (Nat.le_refl col) hc
  obtain ⟨p1, p2, p3⟩ := phs_keep (p := col) (m := m) act fit hc hm
  refine ⟨c1.next hc ((if_pos rfl).trans h1) (fun i hi hne => (if_neg hne).trans (h2 i hi hne)), c2.next hB hN, p1, p2, p3⟩
set_option maxHeartbeats 1000000
theorem omP_add (a : Nat) : ∀ b, omP (a + b) = omP a * omP b
  | 0 => by show omP a = omP a * 1; rw [Q4.mul_one]
  | b + 1 => by show omQ * omP (a + b) = omP a * (omQ * omP b); rw [omP_add a b, ← Q4.mul_assoc, ← Q4.mul_assoc, Q4.mul_comm omQ]
theorem omP_four : omP 4 = -1 := by
 show omQ * (omQ * (omQ * (omQ * 1))) = -1
 apply Q4.ext' <;> simp only [omQ, Q4.ma, Q4.mb, Q4.mc, Q4.md, Q4.na, Q4.nb, Q4.nc, Q4.nd, Q4.oa, Q4.ob, Q4.oc, Q4.od] <;> grind
theorem omP_eight : omP 8 = 1 := by
 rw [show (8 : Nat) = 4 + 4 from rfl, omP_add, omP_four, Q4.neg_mul, Q4.one_mul, Q4.neg_neg]
theorem swq_swq (p i : Nat) : swq p (swq p i) = i := by
 by_cases h1 : i = p
 ·subst h1; rw [swq_p, swq_q]
 ·by_cases h2 : i = p + 1
  ·subst h2; rw [swq_q, swq_p]
  ·rw [swq_o h1 h2, swq_o h1 h2]
theorem cr_inv (p : Nat) (m : Tb) : crQ p (crQ p m) = m := by
 funext i k
 show m (swq p (swq p i)) k = m i k
 rw [swq_swq]
theorem cpQ_p (p k : Nat) (m : Tb) : cpQ p m p k = hhQ * (m p k + imQ * m (p + 1) k) := if_pos rfl
theorem cpQ_q (p k : Nat) (m : Tb) : cpQ p m (p + 1) k = hhQ * (imQ * m p k + m (p + 1) k) := by unfold cpQ; rw [if_neg Ox, if_pos rfl]
theorem cpQ_o {p i : Nat} (h1 : i ≠ p) (h2 : i ≠ p + 1) (k : Nat) (m : Tb) : cpQ p m i k = m i k := by unfold cpQ; rw [if_neg h1, if_neg h2]
theorem phQ_p (p k : Nat) (u : Q4) (m : Tb) : phQ p u m p k = u * m p k := if_pos rfl
theorem phQ_o {p i : Nat} (h : i ≠ p) (k : Nat) (u : Q4) (m : Tb) : phQ p u m i k = m i k := if_neg h
theorem fit_ph {N : Nat} {x : It} (hx : fitB N x = true) {n : Int} {s : ByteArray} (hn : 1 ≤ n ∧ n ≤ 7) (hs : s.toList.isEmpty = true) : fitB N ⟨1, x.at_, n, s⟩ = true := by
 have h' := of_decide_eq_true hx
 have e : wd ⟨1, x.at_, n, s⟩ = 1 := by unfold wd; rw [if_pos rfl, if_pos ⟨hn.1, hn.2, hs⟩]
 have := wd_range x
 exact fitB_true ⟨by rw [e]; decide, h'.2.1, by rw [e]; show x.at_ ≤ _; omega⟩
theorem allOk_set {l : List Nm} (h : allOk l = true) (j : Nat) {z : Nm} (hz : z.Ok) : allOk (l.set j z) = true := by
 unfold allOk at h ⊢
 rw [List.all_eq_true] at h ⊢
 intro x hx
 rcases List.mem_or_eq_of_mem_set hx with h1 | h1
 ·exact h x h1
 ·rw [h1]; exact okB_iff.2 hz
theorem plcS_ok {N p m : Nat} {L l : List Nm} (hL : ∀ k, (nm L k).Ok) (hl : allOk l = true) : ∀ t, allOk (plcS N p m L l t) = true
  | 0 => hl
  | t + 1 => allOk_set (plcS_ok hL hl t) _ (hL t)
theorem itL_valid {N : Nat} (h1 : 1 ≤ N) (h6 : N ≤ 6) (x : It) : validB N (itL N x) = true := by
 refine validB_mk h1 h6 (itL_len h1 h6 x) (plcS_ok (fun k => ?_) (validB_true (idM_ok h1 h6)).choose_spec.2.2.2.2.2 _)
 have key : ∀ y ∈ ownL x, y.Ok := by
  intro y hy
  unfold ownL at hy
  split at hy
  ·rcases List.mem_singleton.1 hy with rfl; rw [turn_M]; exact turnM_ok one_ok _
  ·split at hy <;> simp only [List.mem_cons, List.not_mem_nil, or_false] at hy <;> rcases hy with rfl | rfl | rfl | rfl <;> exact okB_iff.1 (by decide)
 rcases Nat.lt_or_ge k (ownL x).length with h | h
 ·exact key _ (NmE.at_mem h)
 ·show ((ownL x).getD k Nm.zero).Ok
  rw [List.getD_eq_getElem?_getD, List.getElem?_eq_none h]; exact zero_ok
theorem matS_lim {N : Nat} {xs : List It} (h1 : 1 ≤ N) (h6 : N ≤ 6) (hf : ∀ x ∈ xs, fitB N x = true) : ∀ j, j ≤ xs.length → ∀ {c : Int}, matS N xs j = .error c → c = 4
  | 0, _, c, h => by cases h
  | j + 1, hj, c, h => by
    rw [matS] at h
    split at h
    · rename_i c' h0
      cases h
      exact matS_lim h1 h6 hf j Ox h0
    · rename_i l h0
      have hv := (matS_act h1 h6 hf j Ox h0).1
      unfold mulM at h
      rw [itL_valid h1 h6, hv, Bool.and_self, if_pos rfl, if_pos rfl] at h
      obtain ⟨t, ht, he⟩ := gather_err_mem h
      exact prodsR_code he
theorem fits_of {n : Int} {xs : List It} (h : validI n xs = true) : ∃ N : Nat, n = N ∧ 1 ≤ N ∧ N ≤ 6 ∧ xs.length ≤ 5000 ∧ (∀ x ∈ xs, fitB N x = true) ∧ itemE n xs = 0 := by
 have h0 := h
 unfold validI at h
 rw [Bool.and_eq_true, Bool.and_eq_true, decide_eq_true_eq, decide_eq_true_eq, List.all_eq_true] at h
 obtain ⟨h1, h2, h3⟩ := h
 obtain ⟨N, rfl⟩ : ∃ N : Nat, n = N := ⟨n.toNat, by omega⟩
 exact ⟨N, rfl, by omega, by omega, h2, h3, by unfold itemE; rw [if_pos h1, if_pos h0]⟩
theorem itemE_fits {N : Nat} {xs : List It} (h1 : 1 ≤ N) (h6 : N ≤ 6) (hl : xs.length ≤ 5000) (hf : ∀ x ∈ xs, fitB N x = true) : itemE N xs = 0 := by
 have hv : validI N xs = true := by
  unfold validI
  rw [Bool.and_eq_true, Bool.and_eq_true, decide_eq_true_eq, decide_eq_true_eq, List.all_eq_true]
  exact ⟨by omega, hl, hf⟩
 unfold itemE
 rw [if_pos Ox, if_pos hv]
theorem matO_S {N : Nat} {xs : List It} (h1 : 1 ≤ N) (h6 : N ≤ 6) (hl : xs.length ≤ 5000) (hf : ∀ x ∈ xs, fitB N x = true) : matO N xs = matS N xs xs.length := by
 unfold matO
 rw [if_pos (itemE_fits h1 h6 hl hf), Int.toNat_natCast]
theorem mat_facts {N : Nat} {xs : List It} {m : List Nm} (h1 : 1 ≤ N) (h6 : N ≤ 6) (hf : ∀ x ∈ xs, fitB N x = true) (h : matS N xs xs.length = .ok m) :
    validB N m = true ∧ unB N m = true ∧ EqT N (tb N m) (actQ xs dl) ∧ expo m ≤ cpls xs := by
  obtain ⟨hv, he⟩ := matS_act h1 h6 hf xs.length (Nat.le_refl _) h
  rw [List.take_length] at he; refine ⟨hv, (unB_C hv).2 (unC_congr he (actQ_un hf (dl_un N))), he, expo_cpls hf hv he⟩
end Go.Proofs.YthjjkajjpejcdaaGreat
