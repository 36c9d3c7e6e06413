/- Texts in one: Ws1, Sm, Ws2, Ws3, EqS, Ws5, UnPl, Us1, Us2. -/
import Derived.Test.YtccbinnlnkpplaaGreatLProgramsI
import Derived.DeepKeys
namespace Go.Proofs.YtccbinnlnkpplaaGreat
set_option linter.all false
set_option maxRecDepth 100000
set_option maxHeartbeats 1000000
open Go.RowKit
abbrev w6V (x : W6) : Value := .agg #[.int .u64 x.w0, .int .u64 x.w1, .int .u64 x.w2, .int .u64 x.w3, .int .u64 x.w4, .int .u64 x.w5]
theorem same_pure {P : Program} {f : Nat} {args : Array Value} {w : World} {v : Value} (h : Calls P f args w (fun e w' => e = .returned v ∧ w = w')) : Calls P f args w (fun e w' => e = .returned v ∧ Below w.heap.size w w') :=
  h.mono (by rintro e w' ⟨rfl, rfl⟩; exact ⟨rfl, Below.refl _ _⟩)
theorem w6add_any (m n : Int) (w : World) : Calls Tryz.prog 93 #[w6V (W6.of m), w6V (W6.of n)] w fun e w' => e = .returned (w6V (W6.of (m + n))) ∧ Below w.heap.size w w' := by
  obtain ⟨⟨x0, x1, x2, x3, x4, x5⟩, hx⟩ : ∃ r, W6.of m = r := ⟨_, rfl⟩
  have wx := W6.of_wf m
  rw [hx] at wx
  obtain ⟨xa0, xb0, xa1, xb1, xa2, xb2, xa3, xb3, xa4, xb4, xa5, xb5⟩ := wx
  dsimp only at xa0 xb0 xa1 xb1 xa2 xb2 xa3 xb3 xa4 xb4 xa5 xb5
  obtain ⟨⟨y0, y1, y2, y3, y4, y5⟩, hy⟩ : ∃ r, W6.of n = r := ⟨_, rfl⟩
  have wy := W6.of_wf n
  rw [hy] at wy
  obtain ⟨ya0, yb0, ya1, yb1, ya2, yb2, ya3, yb3, ya4, yb4, ya5, yb5⟩ := wy
  dsimp only at ya0 yb0 ya1 yb1 ya2 yb2 ya3 yb3 ya4 yb4 ya5 yb5
  obtain ⟨s0, hs0⟩ : ∃ s, (x0 + y0 + 0) % 18446744073709551616 = s := ⟨_, rfl⟩
  obtain ⟨c0, hc0⟩ : ∃ s, (x0 + y0 + 0) / 18446744073709551616 = s := ⟨_, rfl⟩
  have hcc0 : 0 ≤ c0 ∧ c0 ≤ 1 := by omega
  have hss0 : 0 ≤ s0 ∧ s0 < 18446744073709551616 := by omega
  obtain ⟨s1, hs1⟩ : ∃ s, (x1 + y1 + c0) % 18446744073709551616 = s := ⟨_, rfl⟩
  obtain ⟨c1, hc1⟩ : ∃ s, (x1 + y1 + c0) / 18446744073709551616 = s := ⟨_, rfl⟩
  have hcc1 : 0 ≤ c1 ∧ c1 ≤ 1 := by omega
  have hss1 : 0 ≤ s1 ∧ s1 < 18446744073709551616 := by omega
  obtain ⟨s2, hs2⟩ : ∃ s, (x2 + y2 + c1) % 18446744073709551616 = s := ⟨_, rfl⟩
  obtain ⟨c2, hc2⟩ : ∃ s, (x2 + y2 + c1) / 18446744073709551616 = s := ⟨_, rfl⟩
  have hcc2 : 0 ≤ c2 ∧ c2 ≤ 1 := by omega
  have hss2 : 0 ≤ s2 ∧ s2 < 18446744073709551616 := by omega
  obtain ⟨s3, hs3⟩ : ∃ s, (x3 + y3 + c2) % 18446744073709551616 = s := ⟨_, rfl⟩
  obtain ⟨c3, hc3⟩ : ∃ s, (x3 + y3 + c2) / 18446744073709551616 = s := ⟨_, rfl⟩
  have hcc3 : 0 ≤ c3 ∧ c3 ≤ 1 := by omega
  have hss3 : 0 ≤ s3 ∧ s3 < 18446744073709551616 := by omega
  obtain ⟨s4, hs4⟩ : ∃ s, (x4 + y4 + c3) % 18446744073709551616 = s := ⟨_, rfl⟩
  obtain ⟨c4, hc4⟩ : ∃ s, (x4 + y4 + c3) / 18446744073709551616 = s := ⟨_, rfl⟩
  have hcc4 : 0 ≤ c4 ∧ c4 ≤ 1 := by omega
  have hss4 : 0 ≤ s4 ∧ s4 < 18446744073709551616 := by omega
  obtain ⟨s5, hs5⟩ : ∃ s, (x5 + y5 + c4) % 18446744073709551616 = s := ⟨_, rfl⟩
  obtain ⟨c5, hc5⟩ : ∃ s, (x5 + y5 + c4) / 18446744073709551616 = s := ⟨_, rfl⟩
  have hcc5 : 0 ≤ c5 ∧ c5 ≤ 1 := by omega
  have hss5 : 0 ≤ s5 ∧ s5 < 18446744073709551616 := by omega
  have heq : (⟨s0, s1, s2, s3, s4, s5⟩ : W6) = W6.of (m + n) := W6.add_eq (c0 := c0) (c1 := c1) (c2 := c2) (c3 := c3) (c4 := c4) (c5 := c5) ⟨by dsimp only; omega, by dsimp only; omega, by dsimp only; omega, by dsimp only; omega, by dsimp only; omega, by dsimp only; omega, by dsimp only; omega, by dsimp only; omega, by dsimp only; omega, by dsimp only; omega, by dsimp only; omega, by dsimp only; omega⟩ (by rw [hx, hy]; dsimp only; omega) (by rw [hx, hy]; dsimp only; omega) (by rw [hx, hy]; dsimp only; omega) (by rw [hx, hy]; dsimp only; omega) (by rw [hx, hy]; dsimp only; omega) (by rw [hx, hy]; dsimp only; omega)
  rw [hx, hy]
  replace heq := Lib.hid heq
  clear hx hy
  go_enter Tryz.func93, Tryz.ntmps93
  refine wk_start ?_; refine wk_seq ?_; refine wk_region [1, 1, 1] rfl Kx ?_; simp only [qy]
  refine Rgn fun g1 => ?_
  simp only [qz]
  refine Rgn fun g2 => ?_
  simp only [qz]
  refine Rgn fun g3 => ?_
  simp only [qz]; refine rg_nil (ek_next (wk_seq ?_)); refine wk_region [0] rfl Kx ?_; refine Zm ?_; refine rg_nil (ek_next (wk_seq (wk_seq ?_))); refine wk_region [0] rfl Kx ?_; refine Zm ?_; refine rg_nil (ek_next (wk_block ?_)); refine wk_unroll 6 ?_; refine wk_seq ?_; refine wk_region [0] rfl Kx ?_; simp only [qy]; refine rf_lss (b := true) rfl rfl rfl rfl (by decide) ?_; simp only [qz]; refine rg_nil (ek_next (wk_seq (wk_cond_t rfl (wk_skip (ek_next (wk_seq (wk_block (wk_seq ?_))))))))
  refine wk_region [0, 0] rfl Kx ?_; refine Zm ?_; refine rg_nil (ek_next ?_); refine wk_draws_m (hz1 := (sc _ (sc _ (sk _ sn)))) [(0, 0), (1, 0), (2, 0), (3, 0), (4, 0), (5, 0), (6, 0), (7, 0), (8, 1), (9, 0), (10, 0), (11, 3), (12, 0), (13, 2), (14, 0)] 13 Kx Kx (fun c d v a w h => by cases d <;> exact h) ?_; simp only [List.map_cons, List.map_nil, List.getD_cons_zero, List.getD_cons_succ]; refine Zm ?_; refine rf_indexA (n := 0) (sz := 1) (j := 0) rfl rfl rfl rfl Tryz.underlying106 Kx (by decide) rfl ?_
  simp only [qz]; refine rf_load rfl rfl rfl Tryz.underlying101 rfl (fun w hw => (Kn.hd0 (Kn.tl (Kn.tl hw))).at rfl) ?_; refine Zm ?_; refine rf_indexA (n := 0) (sz := 1) (j := 0) rfl rfl rfl rfl Tryz.underlying106 Kx (by decide) rfl ?_; simp only [qz]; refine rf_load rfl rfl rfl Tryz.underlying101 rfl (fun w hw => (Kn.hd0 (Kn.tl hw)).at rfl) ?_; refine Zm ?_; apply rg_ext Rx
  case hargs => exact Ax
  case h => exact fun w => run_Add64 x0 y0 0 s0 c0 Ox Ox Ox Ox hs0 hc0 w
  case hz => exact (fun _ h => by cases h; exact (sc _ (sc _ (sc _ sn))))
  refine Zm ?_; refine rf_extract rfl rfl rfl rfl ?_; simp only [qz]; refine rf_extract rfl rfl rfl rfl ?_; simp only [qz]; refine rf_indexA (n := 0) (sz := 1) (j := 0) rfl rfl rfl rfl Tryz.underlying106 Kx (by decide) rfl ?_; simp only [qz]; refine rf_storeM rfl rfl Kx rfl rfl (UpdR.there _ (UpdR.there _ (UpdR.here _ _ _ Nl))) (sc _ (sc _ (sk _ sn))) ?_; refine Zm ?_; refine rg_nil (ek_block (ek_next ?_)); refine wk_region [0, 0] rfl Kx ?_
  simp only [qy]; refine rf_add (r := 1) rfl rfl rfl rfl (by decide) ?_; refine Zm ?_; refine rg_nil (ek_again (wk_seq ?_)); refine wk_region [0] rfl Kx ?_; simp only [qy]; refine rf_lss (b := true) rfl rfl rfl rfl (by decide) ?_; simp only [qz]; refine rg_nil (ek_next (wk_seq (wk_cond_t rfl (wk_skip (ek_next (wk_seq (wk_block (wk_seq ?_)))))))); refine wk_region [0, 0] rfl Kx ?_; refine Zm ?_; refine rg_nil (ek_next ?_)
  refine wk_draws_m (hz1 := (sc _ (sc _ (sk _ sn)))) [(0, 0), (1, 0), (2, 0), (3, 0), (4, 0), (5, 0), (6, 0), (7, 0), (8, 1), (9, 0), (10, 0), (11, 3), (12, 0), (13, 2), (14, 0)] 13 Kx Kx (fun c d v a w h => by cases d <;> exact h) ?_; simp only [List.map_cons, List.map_nil, List.getD_cons_zero, List.getD_cons_succ]; refine Zm ?_; refine rf_indexA (n := 1) (sz := 1) (j := 1) rfl rfl rfl rfl Tryz.underlying106 Kx (by decide) rfl ?_
  simp only [qz]; refine rf_load rfl rfl rfl Tryz.underlying101 rfl (fun w hw => (Kn.hd0 (Kn.tl (Kn.tl hw))).at rfl) ?_; refine Zm ?_; refine rf_indexA (n := 1) (sz := 1) (j := 1) rfl rfl rfl rfl Tryz.underlying106 Kx (by decide) rfl ?_; simp only [qz]; refine rf_load rfl rfl rfl Tryz.underlying101 rfl (fun w hw => (Kn.hd0 (Kn.tl hw)).at rfl) ?_; refine Zm ?_; apply rg_ext Rx
  case hargs => exact Ax
  case h => exact fun w => run_Add64 x1 y1 c0 s1 c1 Ox Ox Ox Ox hs1 hc1 w
  case hz => exact (fun _ h => by cases h; exact (sc _ (sc _ (sc _ sn))))
  refine Zm ?_; refine rf_extract rfl rfl rfl rfl ?_; simp only [qz]; refine rf_extract rfl rfl rfl rfl ?_; simp only [qz]; refine rf_indexA (n := 1) (sz := 1) (j := 1) rfl rfl rfl rfl Tryz.underlying106 Kx (by decide) rfl ?_; simp only [qz]; refine rf_storeM rfl rfl Kx rfl rfl (UpdR.there _ (UpdR.there _ (UpdR.here _ _ _ Nl))) (sc _ (sc _ (sk _ sn))) ?_; refine Zm ?_; refine rg_nil (ek_block (ek_next ?_)); refine wk_region [0, 0] rfl Kx ?_
  simp only [qy]; refine rf_add (r := 2) rfl rfl rfl rfl (by decide) ?_; refine Zm ?_; refine rg_nil (ek_again (wk_seq ?_)); refine wk_region [0] rfl Kx ?_; simp only [qy]; refine rf_lss (b := true) rfl rfl rfl rfl (by decide) ?_; simp only [qz]; refine rg_nil (ek_next (wk_seq (wk_cond_t rfl (wk_skip (ek_next (wk_seq (wk_block (wk_seq ?_)))))))); refine wk_region [0, 0] rfl Kx ?_; refine Zm ?_; refine rg_nil (ek_next ?_)
  refine wk_draws_m (hz1 := (sc _ (sc _ (sk _ sn)))) [(0, 0), (1, 0), (2, 0), (3, 0), (4, 0), (5, 0), (6, 0), (7, 0), (8, 1), (9, 0), (10, 0), (11, 3), (12, 0), (13, 2), (14, 0)] 13 Kx Kx (fun c d v a w h => by cases d <;> exact h) ?_; simp only [List.map_cons, List.map_nil, List.getD_cons_zero, List.getD_cons_succ]; refine Zm ?_; refine rf_indexA (n := 2) (sz := 1) (j := 2) rfl rfl rfl rfl Tryz.underlying106 Kx (by decide) rfl ?_
  simp only [qz]; refine rf_load rfl rfl rfl Tryz.underlying101 rfl (fun w hw => (Kn.hd0 (Kn.tl (Kn.tl hw))).at rfl) ?_; refine Zm ?_; refine rf_indexA (n := 2) (sz := 1) (j := 2) rfl rfl rfl rfl Tryz.underlying106 Kx (by decide) rfl ?_; simp only [qz]; refine rf_load rfl rfl rfl Tryz.underlying101 rfl (fun w hw => (Kn.hd0 (Kn.tl hw)).at rfl) ?_; refine Zm ?_; apply rg_ext Rx
  case hargs => exact Ax
  case h => exact fun w => run_Add64 x2 y2 c1 s2 c2 Ox Ox Ox Ox hs2 hc2 w
  case hz => exact (fun _ h => by cases h; exact (sc _ (sc _ (sc _ sn))))
  refine Zm ?_; refine rf_extract rfl rfl rfl rfl ?_; simp only [qz]; refine rf_extract rfl rfl rfl rfl ?_; simp only [qz]; refine rf_indexA (n := 2) (sz := 1) (j := 2) rfl rfl rfl rfl Tryz.underlying106 Kx (by decide) rfl ?_; simp only [qz]; refine rf_storeM rfl rfl Kx rfl rfl (UpdR.there _ (UpdR.there _ (UpdR.here _ _ _ Nl))) (sc _ (sc _ (sk _ sn))) ?_; refine Zm ?_; refine rg_nil (ek_block (ek_next ?_)); refine wk_region [0, 0] rfl Kx ?_
  simp only [qy]; refine rf_add (r := 3) rfl rfl rfl rfl (by decide) ?_; refine Zm ?_; refine rg_nil (ek_again (wk_seq ?_)); refine wk_region [0] rfl Kx ?_; simp only [qy]; refine rf_lss (b := true) rfl rfl rfl rfl (by decide) ?_; simp only [qz]; refine rg_nil (ek_next (wk_seq (wk_cond_t rfl (wk_skip (ek_next (wk_seq (wk_block (wk_seq ?_)))))))); refine wk_region [0, 0] rfl Kx ?_; refine Zm ?_; refine rg_nil (ek_next ?_)
  refine wk_draws_m (hz1 := (sc _ (sc _ (sk _ sn)))) [(0, 0), (1, 0), (2, 0), (3, 0), (4, 0), (5, 0), (6, 0), (7, 0), (8, 1), (9, 0), (10, 0), (11, 3), (12, 0), (13, 2), (14, 0)] 13 Kx Kx (fun c d v a w h => by cases d <;> exact h) ?_; simp only [List.map_cons, List.map_nil, List.getD_cons_zero, List.getD_cons_succ]; refine Zm ?_; refine rf_indexA (n := 3) (sz := 1) (j := 3) rfl rfl rfl rfl Tryz.underlying106 Kx (by decide) rfl ?_
  simp only [qz]; refine rf_load rfl rfl rfl Tryz.underlying101 rfl (fun w hw => (Kn.hd0 (Kn.tl (Kn.tl hw))).at rfl) ?_; refine Zm ?_; refine rf_indexA (n := 3) (sz := 1) (j := 3) rfl rfl rfl rfl Tryz.underlying106 Kx (by decide) rfl ?_; simp only [qz]; refine rf_load rfl rfl rfl Tryz.underlying101 rfl (fun w hw => (Kn.hd0 (Kn.tl hw)).at rfl) ?_; refine Zm ?_; apply rg_ext Rx
  case hargs => exact Ax
  case h => exact fun w => run_Add64 x3 y3 c2 s3 c3 Ox Ox Ox Ox hs3 hc3 w
  case hz => exact (fun _ h => by cases h; exact (sc _ (sc _ (sc _ sn))))
  refine Zm ?_; refine rf_extract rfl rfl rfl rfl ?_; simp only [qz]; refine rf_extract rfl rfl rfl rfl ?_; simp only [qz]; refine rf_indexA (n := 3) (sz := 1) (j := 3) rfl rfl rfl rfl Tryz.underlying106 Kx (by decide) rfl ?_; simp only [qz]; refine rf_storeM rfl rfl Kx rfl rfl (UpdR.there _ (UpdR.there _ (UpdR.here _ _ _ Nl))) (sc _ (sc _ (sk _ sn))) ?_; refine Zm ?_; refine rg_nil (ek_block (ek_next ?_)); refine wk_region [0, 0] rfl Kx ?_
  simp only [qy]; refine rf_add (r := 4) rfl rfl rfl rfl (by decide) ?_; refine Zm ?_; refine rg_nil (ek_again (wk_seq ?_)); refine wk_region [0] rfl Kx ?_; simp only [qy]; refine rf_lss (b := true) rfl rfl rfl rfl (by decide) ?_; simp only [qz]; refine rg_nil (ek_next (wk_seq (wk_cond_t rfl (wk_skip (ek_next (wk_seq (wk_block (wk_seq ?_)))))))); refine wk_region [0, 0] rfl Kx ?_; refine Zm ?_; refine rg_nil (ek_next ?_)
  refine wk_draws_m (hz1 := (sc _ (sc _ (sk _ sn)))) [(0, 0), (1, 0), (2, 0), (3, 0), (4, 0), (5, 0), (6, 0), (7, 0), (8, 1), (9, 0), (10, 0), (11, 3), (12, 0), (13, 2), (14, 0)] 13 Kx Kx (fun c d v a w h => by cases d <;> exact h) ?_; simp only [List.map_cons, List.map_nil, List.getD_cons_zero, List.getD_cons_succ]; refine Zm ?_; refine rf_indexA (n := 4) (sz := 1) (j := 4) rfl rfl rfl rfl Tryz.underlying106 Kx (by decide) rfl ?_
  simp only [qz]; refine rf_load rfl rfl rfl Tryz.underlying101 rfl (fun w hw => (Kn.hd0 (Kn.tl (Kn.tl hw))).at rfl) ?_; refine Zm ?_; refine rf_indexA (n := 4) (sz := 1) (j := 4) rfl rfl rfl rfl Tryz.underlying106 Kx (by decide) rfl ?_; simp only [qz]; refine rf_load rfl rfl rfl Tryz.underlying101 rfl (fun w hw => (Kn.hd0 (Kn.tl hw)).at rfl) ?_; refine Zm ?_; apply rg_ext Rx
  case hargs => exact Ax
  case h => exact fun w => run_Add64 x4 y4 c3 s4 c4 Ox Ox Ox Ox hs4 hc4 w
  case hz => exact (fun _ h => by cases h; exact (sc _ (sc _ (sc _ sn))))
  refine Zm ?_; refine rf_extract rfl rfl rfl rfl ?_; simp only [qz]; refine rf_extract rfl rfl rfl rfl ?_; simp only [qz]; refine rf_indexA (n := 4) (sz := 1) (j := 4) rfl rfl rfl rfl Tryz.underlying106 Kx (by decide) rfl ?_; simp only [qz]; refine rf_storeM rfl rfl Kx rfl rfl (UpdR.there _ (UpdR.there _ (UpdR.here _ _ _ Nl))) (sc _ (sc _ (sk _ sn))) ?_; refine Zm ?_; refine rg_nil (ek_block (ek_next ?_)); refine wk_region [0, 0] rfl Kx ?_
  simp only [qy]; refine rf_add (r := 5) rfl rfl rfl rfl (by decide) ?_; refine Zm ?_; refine rg_nil (ek_again (wk_seq ?_)); refine wk_region [0] rfl Kx ?_; simp only [qy]; refine rf_lss (b := true) rfl rfl rfl rfl (by decide) ?_; simp only [qz]; refine rg_nil (ek_next (wk_seq (wk_cond_t rfl (wk_skip (ek_next (wk_seq (wk_block (wk_seq ?_)))))))); refine wk_region [0, 0] rfl Kx ?_; refine Zm ?_; refine rg_nil (ek_next ?_)
  refine wk_draws_m (hz1 := (sc _ (sc _ (sk _ sn)))) [(0, 0), (1, 0), (2, 0), (3, 0), (4, 0), (5, 0), (6, 0), (7, 0), (8, 1), (9, 0), (10, 0), (11, 3), (12, 0), (13, 2), (14, 0)] 13 Kx Kx (fun c d v a w h => by cases d <;> exact h) ?_; simp only [List.map_cons, List.map_nil, List.getD_cons_zero, List.getD_cons_succ]; refine Zm ?_; refine rf_indexA (n := 5) (sz := 1) (j := 5) rfl rfl rfl rfl Tryz.underlying106 Kx (by decide) rfl ?_
  simp only [qz]; refine rf_load rfl rfl rfl Tryz.underlying101 rfl (fun w hw => (Kn.hd0 (Kn.tl (Kn.tl hw))).at rfl) ?_; refine Zm ?_; refine rf_indexA (n := 5) (sz := 1) (j := 5) rfl rfl rfl rfl Tryz.underlying106 Kx (by decide) rfl ?_; simp only [qz]; refine rf_load rfl rfl rfl Tryz.underlying101 rfl (fun w hw => (Kn.hd0 (Kn.tl hw)).at rfl) ?_; refine Zm ?_; apply rg_ext Rx
  case hargs => exact Ax
  case h => exact fun w => run_Add64 x5 y5 c4 s5 c5 Ox Ox Ox Ox hs5 hc5 w
  case hz => exact (fun _ h => by cases h; exact (sc _ (sc _ (sc _ sn))))
  refine Zm ?_; refine rf_extract rfl rfl rfl rfl ?_; simp only [qz]; refine rf_extract rfl rfl rfl rfl ?_; simp only [qz]; refine rf_indexA (n := 5) (sz := 1) (j := 5) rfl rfl rfl rfl Tryz.underlying106 Kx (by decide) rfl ?_; simp only [qz]; refine rf_storeM rfl rfl Kx rfl rfl (UpdR.there _ (UpdR.there _ (UpdR.here _ _ _ Nl))) (sc _ (sc _ (sk _ sn))) ?_; refine Zm ?_; refine rg_nil (ek_block (ek_next ?_)); refine wk_region [0, 0] rfl Kx ?_
  simp only [qy]; refine rf_add (r := 6) rfl rfl rfl rfl (by decide) ?_; refine Zm ?_; refine rg_nil (ek_again (wk_seq ?_)); refine wk_region [0] rfl Kx ?_; simp only [qy]; refine rf_lss (b := false) rfl rfl rfl rfl (by decide) ?_; simp only [qz]; refine rg_nil (ek_next (wk_seq (wk_cond_f rfl (wk_exit (ek_then_exit (ek_then_exit (ek_block_exit (ek_next (wk_seq ?_))))))))); refine wk_region [0, 1] rfl Kx ?_; simp only [qy]
  refine rf_loadR (n := 6) rfl rfl rfl Tryz.underlying106 rfl Kx (fun w hw => Kn.hd0 (Kn.tl (Kn.tl hw))) rfl rfl ?_; simp only [qz]; refine rf_storeR (n := 6) rfl rfl Kx rfl rfl (UpdR.here _ _ _ Nl) Nz ?_; simp only [qz, Nat.reduceAdd]; refine rg_nil (ek_next (wk_ret ?_)); refine ek_ret (fun w hw => ⟨rfl, _, run_results1 rfl rfl (Kn.hd0 hw) Tryz.underlying106 rfl Kx, ?_⟩); (try simp only [qz])
  exact ⟨by rw [← heq.out] <;> rfl, hw.below⟩
theorem w6neg_any (m : Int) (w : World) : Calls Tryz.prog 109 #[w6V (W6.of m)] w fun e w' => e = .returned (w6V (W6.of (-m))) ∧ Below w.heap.size w w' := by
  obtain ⟨⟨x0, x1, x2, x3, x4, x5⟩, hx⟩ : ∃ r, W6.of m = r := ⟨_, rfl⟩
  have wx := W6.of_wf m
  rw [hx] at wx
  obtain ⟨xa0, xb0, xa1, xb1, xa2, xb2, xa3, xb3, xa4, xb4, xa5, xb5⟩ := wx
  dsimp only at xa0 xb0 xa1 xb1 xa2 xb2 xa3 xb3 xa4 xb4 xa5 xb5
  obtain ⟨s0, hs0⟩ : ∃ s, (0 + 18446744073709551616 - x0 - 0) % 18446744073709551616 = s := ⟨_, rfl⟩
  obtain ⟨c0, hc0⟩ : ∃ s, (if 0 < x0 + 0 then (1 : Int) else 0) = s := ⟨_, rfl⟩
  have hcc0 : 0 ≤ c0 ∧ c0 ≤ 1 := by split at hc0 <;> omega
  have hss0 : 0 ≤ s0 ∧ s0 < 18446744073709551616 := by omega
  have hsc0 : s0 = 18446744073709551616 * c0 - x0 - 0 := by split at hc0 <;> omega
  obtain ⟨s1, hs1⟩ : ∃ s, (0 + 18446744073709551616 - x1 - c0) % 18446744073709551616 = s := ⟨_, rfl⟩
  obtain ⟨c1, hc1⟩ : ∃ s, (if 0 < x1 + c0 then (1 : Int) else 0) = s := ⟨_, rfl⟩
  have hcc1 : 0 ≤ c1 ∧ c1 ≤ 1 := by split at hc1 <;> omega
  have hss1 : 0 ≤ s1 ∧ s1 < 18446744073709551616 := by omega
  have hsc1 : s1 = 18446744073709551616 * c1 - x1 - c0 := by split at hc1 <;> omega
  obtain ⟨s2, hs2⟩ : ∃ s, (0 + 18446744073709551616 - x2 - c1) % 18446744073709551616 = s := ⟨_, rfl⟩
  obtain ⟨c2, hc2⟩ : ∃ s, (if 0 < x2 + c1 then (1 : Int) else 0) = s := ⟨_, rfl⟩
  have hcc2 : 0 ≤ c2 ∧ c2 ≤ 1 := by split at hc2 <;> omega
  have hss2 : 0 ≤ s2 ∧ s2 < 18446744073709551616 := by omega
  have hsc2 : s2 = 18446744073709551616 * c2 - x2 - c1 := by split at hc2 <;> omega
  obtain ⟨s3, hs3⟩ : ∃ s, (0 + 18446744073709551616 - x3 - c2) % 18446744073709551616 = s := ⟨_, rfl⟩
  obtain ⟨c3, hc3⟩ : ∃ s, (if 0 < x3 + c2 then (1 : Int) else 0) = s := ⟨_, rfl⟩
  have hcc3 : 0 ≤ c3 ∧ c3 ≤ 1 := by split at hc3 <;> omega
  have hss3 : 0 ≤ s3 ∧ s3 < 18446744073709551616 := by omega
  have hsc3 : s3 = 18446744073709551616 * c3 - x3 - c2 := by split at hc3 <;> omega
  obtain ⟨s4, hs4⟩ : ∃ s, (0 + 18446744073709551616 - x4 - c3) % 18446744073709551616 = s := ⟨_, rfl⟩
  obtain ⟨c4, hc4⟩ : ∃ s, (if 0 < x4 + c3 then (1 : Int) else 0) = s := ⟨_, rfl⟩
  have hcc4 : 0 ≤ c4 ∧ c4 ≤ 1 := by split at hc4 <;> omega
  have hss4 : 0 ≤ s4 ∧ s4 < 18446744073709551616 := by omega
  have hsc4 : s4 = 18446744073709551616 * c4 - x4 - c3 := by split at hc4 <;> omega
  obtain ⟨s5, hs5⟩ : ∃ s, (0 + 18446744073709551616 - x5 - c4) % 18446744073709551616 = s := ⟨_, rfl⟩
  obtain ⟨c5, hc5⟩ : ∃ s, (if 0 < x5 + c4 then (1 : Int) else 0) = s := ⟨_, rfl⟩
  have hcc5 : 0 ≤ c5 ∧ c5 ≤ 1 := by split at hc5 <;> omega
  have hss5 : 0 ≤ s5 ∧ s5 < 18446744073709551616 := by omega
  have hsc5 : s5 = 18446744073709551616 * c5 - x5 - c4 := by split at hc5 <;> omega
  have heq : (⟨s0, s1, s2, s3, s4, s5⟩ : W6) = W6.of (-m) := W6.neg_eq (c0 := c0) (c1 := c1) (c2 := c2) (c3 := c3) (c4 := c4) (c5 := c5) ⟨by dsimp only; omega, by dsimp only; omega, by dsimp only; omega, by dsimp only; omega, by dsimp only; omega, by dsimp only; omega, by dsimp only; omega, by dsimp only; omega, by dsimp only; omega, by dsimp only; omega, by dsimp only; omega, by dsimp only; omega⟩ (by rw [hx]; dsimp only; omega) (by rw [hx]; dsimp only; omega) (by rw [hx]; dsimp only; omega) (by rw [hx]; dsimp only; omega) (by rw [hx]; dsimp only; omega) (by rw [hx]; dsimp only; omega)
  rw [hx]
  replace heq := Lib.hid heq
  clear hx
  go_enter Tryz.func109, Tryz.ntmps109
  refine wk_start ?_; refine wk_seq ?_; refine wk_region [1, 1] rfl Kx ?_; simp only [qy]
  refine Rgn fun g1 => ?_
  simp only [qz]
  refine Rgn fun g2 => ?_
  simp only [qz]; refine rg_nil (ek_next (wk_seq ?_)); refine wk_region [0] rfl Kx ?_; refine Zm ?_; refine rg_nil (ek_next (wk_seq (wk_seq ?_))); refine wk_region [0] rfl Kx ?_; refine Zm ?_; refine rg_nil (ek_next (wk_block ?_)); refine wk_unroll 6 ?_; refine wk_seq ?_; refine wk_region [0] rfl Kx ?_; simp only [qy]; refine rf_lss (b := true) rfl rfl rfl rfl (by decide) ?_; simp only [qz]; refine rg_nil (ek_next (wk_seq (wk_cond_t rfl (wk_skip (ek_next (wk_seq (wk_block (wk_seq ?_))))))))
  refine wk_region [0, 0] rfl Kx ?_; refine Zm ?_; refine rg_nil (ek_next ?_); refine wk_region [0, 0, 0, 0, 0, 1, 0, 0, 0, 0, 1, 0] rfl Kx ?_; refine Zm ?_; refine rf_indexA (n := 0) (sz := 1) (j := 0) rfl rfl rfl rfl Tryz.underlying106 Kx (by decide) rfl ?_; simp only [qz]; refine rf_load rfl rfl rfl Tryz.underlying101 rfl (fun w hw => (Kn.hd0 (Kn.tl hw)).at rfl) ?_; refine Zm ?_; apply rg_ext Rx
  case hargs => exact Ax
  case h => exact fun w => run_Sub64I 0 x0 0 s0 c0 Ox Ox Ox Ox Ox hs0 hc0 w
  case hz => exact Nz
  refine Zm ?_; refine rf_extract rfl rfl rfl rfl ?_; simp only [qz]; refine rf_extract rfl rfl rfl rfl ?_; simp only [qz]; refine rf_indexA (n := 0) (sz := 1) (j := 0) rfl rfl rfl rfl Tryz.underlying106 Kx (by decide) rfl ?_; simp only [qz]; refine rf_store rfl rfl Kx rfl rfl (UpdR.there _ (UpdR.here _ _ _ Nl)) Nz ?_; refine Zm ?_; refine rg_nil (ek_block (ek_next ?_)); refine wk_region [0, 0] rfl Kx ?_; simp only [qy]; refine rf_add (r := 1) rfl rfl rfl rfl (by decide) ?_
  refine Zm ?_; refine rg_nil (ek_again (wk_seq ?_)); refine wk_region [0] rfl Kx ?_; simp only [qy]; refine rf_lss (b := true) rfl rfl rfl rfl (by decide) ?_; simp only [qz]; refine rg_nil (ek_next (wk_seq (wk_cond_t rfl (wk_skip (ek_next (wk_seq (wk_block (wk_seq ?_)))))))); refine wk_region [0, 0] rfl Kx ?_; refine Zm ?_; refine rg_nil (ek_next ?_); refine wk_region [0, 0, 0, 0, 0, 1, 0, 0, 0, 0, 1, 0] rfl Kx ?_; refine Zm ?_
  refine rf_indexA (n := 1) (sz := 1) (j := 1) rfl rfl rfl rfl Tryz.underlying106 Kx (by decide) rfl ?_; simp only [qz]; refine rf_load rfl rfl rfl Tryz.underlying101 rfl (fun w hw => (Kn.hd0 (Kn.tl hw)).at rfl) ?_; refine Zm ?_; apply rg_ext Rx
  case hargs => exact Ax
  case h => exact fun w => run_Sub64I 0 x1 c0 s1 c1 Ox Ox Ox Ox Ox hs1 hc1 w
  case hz => exact Nz
  refine Zm ?_; refine rf_extract rfl rfl rfl rfl ?_; simp only [qz]; refine rf_extract rfl rfl rfl rfl ?_; simp only [qz]; refine rf_indexA (n := 1) (sz := 1) (j := 1) rfl rfl rfl rfl Tryz.underlying106 Kx (by decide) rfl ?_; simp only [qz]; refine rf_store rfl rfl Kx rfl rfl (UpdR.there _ (UpdR.here _ _ _ Nl)) Nz ?_; refine Zm ?_; refine rg_nil (ek_block (ek_next ?_)); refine wk_region [0, 0] rfl Kx ?_; simp only [qy]; refine rf_add (r := 2) rfl rfl rfl rfl (by decide) ?_
  refine Zm ?_; refine rg_nil (ek_again (wk_seq ?_)); refine wk_region [0] rfl Kx ?_; simp only [qy]; refine rf_lss (b := true) rfl rfl rfl rfl (by decide) ?_; simp only [qz]; refine rg_nil (ek_next (wk_seq (wk_cond_t rfl (wk_skip (ek_next (wk_seq (wk_block (wk_seq ?_)))))))); refine wk_region [0, 0] rfl Kx ?_; refine Zm ?_; refine rg_nil (ek_next ?_); refine wk_region [0, 0, 0, 0, 0, 1, 0, 0, 0, 0, 1, 0] rfl Kx ?_; refine Zm ?_
  refine rf_indexA (n := 2) (sz := 1) (j := 2) rfl rfl rfl rfl Tryz.underlying106 Kx (by decide) rfl ?_; simp only [qz]; refine rf_load rfl rfl rfl Tryz.underlying101 rfl (fun w hw => (Kn.hd0 (Kn.tl hw)).at rfl) ?_; refine Zm ?_; apply rg_ext Rx
  case hargs => exact Ax
  case h => exact fun w => run_Sub64I 0 x2 c1 s2 c2 Ox Ox Ox Ox Ox hs2 hc2 w
  case hz => exact Nz
  refine Zm ?_; refine rf_extract rfl rfl rfl rfl ?_; simp only [qz]; refine rf_extract rfl rfl rfl rfl ?_; simp only [qz]; refine rf_indexA (n := 2) (sz := 1) (j := 2) rfl rfl rfl rfl Tryz.underlying106 Kx (by decide) rfl ?_; simp only [qz]; refine rf_store rfl rfl Kx rfl rfl (UpdR.there _ (UpdR.here _ _ _ Nl)) Nz ?_; refine Zm ?_; refine rg_nil (ek_block (ek_next ?_)); refine wk_region [0, 0] rfl Kx ?_; simp only [qy]; refine rf_add (r := 3) rfl rfl rfl rfl (by decide) ?_
  refine Zm ?_; refine rg_nil (ek_again (wk_seq ?_)); refine wk_region [0] rfl Kx ?_; simp only [qy]; refine rf_lss (b := true) rfl rfl rfl rfl (by decide) ?_; simp only [qz]; refine rg_nil (ek_next (wk_seq (wk_cond_t rfl (wk_skip (ek_next (wk_seq (wk_block (wk_seq ?_)))))))); refine wk_region [0, 0] rfl Kx ?_; refine Zm ?_; refine rg_nil (ek_next ?_); refine wk_region [0, 0, 0, 0, 0, 1, 0, 0, 0, 0, 1, 0] rfl Kx ?_; refine Zm ?_
  refine rf_indexA (n := 3) (sz := 1) (j := 3) rfl rfl rfl rfl Tryz.underlying106 Kx (by decide) rfl ?_; simp only [qz]; refine rf_load rfl rfl rfl Tryz.underlying101 rfl (fun w hw => (Kn.hd0 (Kn.tl hw)).at rfl) ?_; refine Zm ?_; apply rg_ext Rx
  case hargs => exact Ax
  case h => exact fun w => run_Sub64I 0 x3 c2 s3 c3 Ox Ox Ox Ox Ox hs3 hc3 w
  case hz => exact Nz
  refine Zm ?_; refine rf_extract rfl rfl rfl rfl ?_; simp only [qz]; refine rf_extract rfl rfl rfl rfl ?_; simp only [qz]; refine rf_indexA (n := 3) (sz := 1) (j := 3) rfl rfl rfl rfl Tryz.underlying106 Kx (by decide) rfl ?_; simp only [qz]; refine rf_store rfl rfl Kx rfl rfl (UpdR.there _ (UpdR.here _ _ _ Nl)) Nz ?_; refine Zm ?_; refine rg_nil (ek_block (ek_next ?_)); refine wk_region [0, 0] rfl Kx ?_; simp only [qy]; refine rf_add (r := 4) rfl rfl rfl rfl (by decide) ?_
  refine Zm ?_; refine rg_nil (ek_again (wk_seq ?_)); refine wk_region [0] rfl Kx ?_; simp only [qy]; refine rf_lss (b := true) rfl rfl rfl rfl (by decide) ?_; simp only [qz]; refine rg_nil (ek_next (wk_seq (wk_cond_t rfl (wk_skip (ek_next (wk_seq (wk_block (wk_seq ?_)))))))); refine wk_region [0, 0] rfl Kx ?_; refine Zm ?_; refine rg_nil (ek_next ?_); refine wk_region [0, 0, 0, 0, 0, 1, 0, 0, 0, 0, 1, 0] rfl Kx ?_; refine Zm ?_
  refine rf_indexA (n := 4) (sz := 1) (j := 4) rfl rfl rfl rfl Tryz.underlying106 Kx (by decide) rfl ?_; simp only [qz]; refine rf_load rfl rfl rfl Tryz.underlying101 rfl (fun w hw => (Kn.hd0 (Kn.tl hw)).at rfl) ?_; refine Zm ?_; apply rg_ext Rx
  case hargs => exact Ax
  case h => exact fun w => run_Sub64I 0 x4 c3 s4 c4 Ox Ox Ox Ox Ox hs4 hc4 w
  case hz => exact Nz
  refine Zm ?_; refine rf_extract rfl rfl rfl rfl ?_; simp only [qz]; refine rf_extract rfl rfl rfl rfl ?_; simp only [qz]; refine rf_indexA (n := 4) (sz := 1) (j := 4) rfl rfl rfl rfl Tryz.underlying106 Kx (by decide) rfl ?_; simp only [qz]; refine rf_store rfl rfl Kx rfl rfl (UpdR.there _ (UpdR.here _ _ _ Nl)) Nz ?_; refine Zm ?_; refine rg_nil (ek_block (ek_next ?_)); refine wk_region [0, 0] rfl Kx ?_; simp only [qy]; refine rf_add (r := 5) rfl rfl rfl rfl (by decide) ?_
  refine Zm ?_; refine rg_nil (ek_again (wk_seq ?_)); refine wk_region [0] rfl Kx ?_; simp only [qy]; refine rf_lss (b := true) rfl rfl rfl rfl (by decide) ?_; simp only [qz]; refine rg_nil (ek_next (wk_seq (wk_cond_t rfl (wk_skip (ek_next (wk_seq (wk_block (wk_seq ?_)))))))); refine wk_region [0, 0] rfl Kx ?_; refine Zm ?_; refine rg_nil (ek_next ?_); refine wk_region [0, 0, 0, 0, 0, 1, 0, 0, 0, 0, 1, 0] rfl Kx ?_; refine Zm ?_
  refine rf_indexA (n := 5) (sz := 1) (j := 5) rfl rfl rfl rfl Tryz.underlying106 Kx (by decide) rfl ?_; simp only [qz]; refine rf_load rfl rfl rfl Tryz.underlying101 rfl (fun w hw => (Kn.hd0 (Kn.tl hw)).at rfl) ?_; refine Zm ?_; apply rg_ext Rx
  case hargs => exact Ax
  case h => exact fun w => run_Sub64I 0 x5 c4 s5 c5 Ox Ox Ox Ox Ox hs5 hc5 w
  case hz => exact Nz
  refine Zm ?_; refine rf_extract rfl rfl rfl rfl ?_; simp only [qz]; refine rf_extract rfl rfl rfl rfl ?_; simp only [qz]; refine rf_indexA (n := 5) (sz := 1) (j := 5) rfl rfl rfl rfl Tryz.underlying106 Kx (by decide) rfl ?_; simp only [qz]; refine rf_store rfl rfl Kx rfl rfl (UpdR.there _ (UpdR.here _ _ _ Nl)) Nz ?_; refine Zm ?_; refine rg_nil (ek_block (ek_next ?_)); refine wk_region [0, 0] rfl Kx ?_; simp only [qy]; refine rf_add (r := 6) rfl rfl rfl rfl (by decide) ?_
  refine Zm ?_; refine rg_nil (ek_again (wk_seq ?_)); refine wk_region [0] rfl Kx ?_; simp only [qy]; refine rf_lss (b := false) rfl rfl rfl rfl (by decide) ?_; simp only [qz]; refine rg_nil (ek_next (wk_seq (wk_cond_f rfl (wk_exit (ek_then_exit (ek_then_exit (ek_block_exit (ek_next (wk_seq ?_))))))))); refine wk_region [0, 1] rfl Kx ?_; simp only [qy]; refine rf_loadR (n := 6) rfl rfl rfl Tryz.underlying106 rfl Kx (fun w hw => Kn.hd0 (Kn.tl hw)) rfl rfl ?_
  simp only [qz]; refine rf_storeR (n := 6) rfl rfl Kx rfl rfl (UpdR.here _ _ _ Nl) Nz ?_; simp only [qz, Nat.reduceAdd]; refine rg_nil (ek_next (wk_ret ?_)); refine ek_ret (fun w hw => ⟨rfl, _, run_results1 rfl rfl (Kn.hd0 hw) Tryz.underlying106 rfl Kx, ?_⟩); (try simp only [qz])
  exact ⟨by rw [← heq.out] <;> rfl, hw.below⟩
set_option maxHeartbeats 2000000 in
theorem w6times_pos (m n : Int) (h0 : 0 ≤ n) (h1 : n ≤ 9223372036854775807) (w : World) : Calls Tryz.prog 94 #[w6V (W6.of m), .int .i64 n] w fun e w' => e = .returned (w6V (W6.of (m * n))) ∧ Below w.heap.size w w' := by
  obtain ⟨⟨x0, x1, x2, x3, x4, x5⟩, hx⟩ : ∃ r, W6.of m = r := ⟨_, rfl⟩
  have wx := W6.of_wf m
  rw [hx] at wx
  obtain ⟨xa0, xb0, xa1, xb1, xa2, xb2, xa3, xb3, xa4, xb4, xa5, xb5⟩ := wx
  dsimp only at xa0 xb0 xa1 xb1 xa2 xb2 xa3 xb3 xa4 xb4 xa5 xb5
  have hp0 : 0 ≤ x0 * n ∧ x0 * n ≤ 18446744073709551615 * n := ⟨Int.mul_nonneg Ox h0, Int.mul_le_mul_of_nonneg_right Ox h0⟩
  have cm0 := mul64_any x0 n Ox Ox h0 Ox
  have hp1 : 0 ≤ x1 * n ∧ x1 * n ≤ 18446744073709551615 * n := ⟨Int.mul_nonneg Ox h0, Int.mul_le_mul_of_nonneg_right Ox h0⟩
  have cm1 := mul64_any x1 n Ox Ox h0 Ox
  have hp2 : 0 ≤ x2 * n ∧ x2 * n ≤ 18446744073709551615 * n := ⟨Int.mul_nonneg Ox h0, Int.mul_le_mul_of_nonneg_right Ox h0⟩
  have cm2 := mul64_any x2 n Ox Ox h0 Ox
  have hp3 : 0 ≤ x3 * n ∧ x3 * n ≤ 18446744073709551615 * n := ⟨Int.mul_nonneg Ox h0, Int.mul_le_mul_of_nonneg_right Ox h0⟩
  have cm3 := mul64_any x3 n Ox Ox h0 Ox
  have hp4 : 0 ≤ x4 * n ∧ x4 * n ≤ 18446744073709551615 * n := ⟨Int.mul_nonneg Ox h0, Int.mul_le_mul_of_nonneg_right Ox h0⟩
  have cm4 := mul64_any x4 n Ox Ox h0 Ox
  have hp5 : 0 ≤ x5 * n ∧ x5 * n ≤ 18446744073709551615 * n := ⟨Int.mul_nonneg Ox h0, Int.mul_le_mul_of_nonneg_right Ox h0⟩
  have cm5 := mul64_any x5 n Ox Ox h0 Ox
  obtain ⟨p0, hq0⟩ : ∃ p, x0 * n = p := ⟨_, rfl⟩
  rw [hq0] at hp0 cm0
  obtain ⟨g0, hg0⟩ : ∃ s, p0 / 18446744073709551616 = s := ⟨_, rfl⟩
  obtain ⟨l0, hl0⟩ : ∃ s, p0 % 18446744073709551616 = s := ⟨_, rfl⟩
  rw [hg0, hl0] at cm0
  replace cm0 := Lib.hid cm0
  obtain ⟨s0, hs0⟩ : ∃ s, (l0 + 0 + 0) % 18446744073709551616 = s := ⟨_, rfl⟩
  obtain ⟨c0, hc0⟩ : ∃ s, (l0 + 0 + 0) / 18446744073709551616 = s := ⟨_, rfl⟩
  obtain ⟨k0, hk0⟩ : ∃ s, g0 + c0 = s := ⟨_, rfl⟩
  have hkk0 : 0 ≤ k0 ∧ k0 ≤ n := by omega
  have hss0 : 0 ≤ s0 ∧ s0 < 18446744073709551616 := by omega
  obtain ⟨p1, hq1⟩ : ∃ p, x1 * n = p := ⟨_, rfl⟩
  rw [hq1] at hp1 cm1
  obtain ⟨g1, hg1⟩ : ∃ s, p1 / 18446744073709551616 = s := ⟨_, rfl⟩
  obtain ⟨l1, hl1⟩ : ∃ s, p1 % 18446744073709551616 = s := ⟨_, rfl⟩
  rw [hg1, hl1] at cm1
  replace cm1 := Lib.hid cm1
  obtain ⟨s1, hs1⟩ : ∃ s, (l1 + k0 + 0) % 18446744073709551616 = s := ⟨_, rfl⟩
  obtain ⟨c1, hc1⟩ : ∃ s, (l1 + k0 + 0) / 18446744073709551616 = s := ⟨_, rfl⟩
  obtain ⟨k1, hk1⟩ : ∃ s, g1 + c1 = s := ⟨_, rfl⟩
  have hkk1 : 0 ≤ k1 ∧ k1 ≤ n := by omega
  have hss1 : 0 ≤ s1 ∧ s1 < 18446744073709551616 := by omega
  obtain ⟨p2, hq2⟩ : ∃ p, x2 * n = p := ⟨_, rfl⟩
  rw [hq2] at hp2 cm2
  obtain ⟨g2, hg2⟩ : ∃ s, p2 / 18446744073709551616 = s := ⟨_, rfl⟩
  obtain ⟨l2, hl2⟩ : ∃ s, p2 % 18446744073709551616 = s := ⟨_, rfl⟩
  rw [hg2, hl2] at cm2
  replace cm2 := Lib.hid cm2
  obtain ⟨s2, hs2⟩ : ∃ s, (l2 + k1 + 0) % 18446744073709551616 = s := ⟨_, rfl⟩
  obtain ⟨c2, hc2⟩ : ∃ s, (l2 + k1 + 0) / 18446744073709551616 = s := ⟨_, rfl⟩
  obtain ⟨k2, hk2⟩ : ∃ s, g2 + c2 = s := ⟨_, rfl⟩
  have hkk2 : 0 ≤ k2 ∧ k2 ≤ n := by omega
  have hss2 : 0 ≤ s2 ∧ s2 < 18446744073709551616 := by omega
  obtain ⟨p3, hq3⟩ : ∃ p, x3 * n = p := ⟨_, rfl⟩
  rw [hq3] at hp3 cm3
  obtain ⟨g3, hg3⟩ : ∃ s, p3 / 18446744073709551616 = s := ⟨_, rfl⟩
  obtain ⟨l3, hl3⟩ : ∃ s, p3 % 18446744073709551616 = s := ⟨_, rfl⟩
  rw [hg3, hl3] at cm3
  replace cm3 := Lib.hid cm3
  obtain ⟨s3, hs3⟩ : ∃ s, (l3 + k2 + 0) % 18446744073709551616 = s := ⟨_, rfl⟩
  obtain ⟨c3, hc3⟩ : ∃ s, (l3 + k2 + 0) / 18446744073709551616 = s := ⟨_, rfl⟩
  obtain ⟨k3, hk3⟩ : ∃ s, g3 + c3 = s := ⟨_, rfl⟩
  have hkk3 : 0 ≤ k3 ∧ k3 ≤ n := by omega
  have hss3 : 0 ≤ s3 ∧ s3 < 18446744073709551616 := by omega
  obtain ⟨p4, hq4⟩ : ∃ p, x4 * n = p := ⟨_, rfl⟩
  rw [hq4] at hp4 cm4
  obtain ⟨g4, hg4⟩ : ∃ s, p4 / 18446744073709551616 = s := ⟨_, rfl⟩
  obtain ⟨l4, hl4⟩ : ∃ s, p4 % 18446744073709551616 = s := ⟨_, rfl⟩
  rw [hg4, hl4] at cm4
  replace cm4 := Lib.hid cm4
  obtain ⟨s4, hs4⟩ : ∃ s, (l4 + k3 + 0) % 18446744073709551616 = s := ⟨_, rfl⟩
  obtain ⟨c4, hc4⟩ : ∃ s, (l4 + k3 + 0) / 18446744073709551616 = s := ⟨_, rfl⟩
  obtain ⟨k4, hk4⟩ : ∃ s, g4 + c4 = s := ⟨_, rfl⟩
  have hkk4 : 0 ≤ k4 ∧ k4 ≤ n := by omega
  have hss4 : 0 ≤ s4 ∧ s4 < 18446744073709551616 := by omega
  obtain ⟨p5, hq5⟩ : ∃ p, x5 * n = p := ⟨_, rfl⟩
  rw [hq5] at hp5 cm5
  obtain ⟨g5, hg5⟩ : ∃ s, p5 / 18446744073709551616 = s := ⟨_, rfl⟩
  obtain ⟨l5, hl5⟩ : ∃ s, p5 % 18446744073709551616 = s := ⟨_, rfl⟩
  rw [hg5, hl5] at cm5
  replace cm5 := Lib.hid cm5
  obtain ⟨s5, hs5⟩ : ∃ s, (l5 + k4 + 0) % 18446744073709551616 = s := ⟨_, rfl⟩
  obtain ⟨c5, hc5⟩ : ∃ s, (l5 + k4 + 0) / 18446744073709551616 = s := ⟨_, rfl⟩
  obtain ⟨k5, hk5⟩ : ∃ s, g5 + c5 = s := ⟨_, rfl⟩
  have hkk5 : 0 ≤ k5 ∧ k5 ≤ n := by omega
  have hss5 : 0 ≤ s5 ∧ s5 < 18446744073709551616 := by omega
  have heq : (⟨s0, s1, s2, s3, s4, s5⟩ : W6) = W6.of (m * n) := W6.times_eq (c0 := k0) (c1 := k1) (c2 := k2) (c3 := k3) (c4 := k4) (c5 := k5) ⟨by dsimp only; omega, by dsimp only; omega, by dsimp only; omega, by dsimp only; omega, by dsimp only; omega, by dsimp only; omega, by dsimp only; omega, by dsimp only; omega, by dsimp only; omega, by dsimp only; omega, by dsimp only; omega, by dsimp only; omega⟩ (by rw [hx]; dsimp only; omega) (by rw [hx]; dsimp only; omega) (by rw [hx]; dsimp only; omega) (by rw [hx]; dsimp only; omega) (by rw [hx]; dsimp only; omega) (by rw [hx]; dsimp only; omega)
  rw [hx]
  replace heq := Lib.hid heq
  clear hx
  go_enter Tryz.func94, Tryz.ntmps94
  refine wk_start ?_; refine wk_seq ?_; refine wk_region [1, 1] rfl Kx ?_; simp only [qy]
  refine Rgn fun g1 => ?_
  simp only [qz]
  refine Rgn fun g2 => ?_
  simp only [qz]; refine rg_nil (ek_next (wk_seq (wk_seq ?_))); refine wk_region [0, 0] rfl Kx ?_; refine Zm ?_; refine rfb_lss rfl rfl rfl rfl ?_; intro x h1
  obtain rfl : x = false := by (refine h1.symm.trans ?_; exact decide_eq_false Ox)
  clear h1; simp only [qz]; refine rg_nil (ek_next (wk_cond_f rfl (wk_skip (ek_next (wk_seq ?_))))); refine wk_region [1] rfl Kx ?_; simp only [qy]
  refine Rgn fun g3 => ?_
  simp only [qz]; refine rg_nil (ek_next (wk_seq ?_)); refine wk_region [0] rfl Kx ?_; refine Zm ?_; refine rg_nil (ek_next (wk_seq (wk_seq ?_))); refine wk_region [0, 0] rfl Kx ?_; simp only [qy]; refine rf_loadR (n := 6) rfl rfl rfl Tryz.underlying106 rfl Kx (fun w hw => Kn.hd0 (Kn.tl (Kn.tl hw))) rfl rfl ?_; refine Zm ?_; refine rg_nil (ek_next (wk_block ?_)); refine wk_unroll 6 ?_; refine wk_seq ?_; refine wk_region [0] rfl Kx ?_
  simp only [qy]; refine rf_lss (b := true) rfl rfl rfl rfl (by decide) ?_; simp only [qz]; refine rg_nil (ek_next (wk_seq (wk_cond_t rfl (wk_skip (ek_next (wk_seq (wk_block (wk_seq ?_)))))))); refine wk_region [0, 0, 0, 0] rfl Kx ?_; refine Zm ?_; refine Zk ?_; refine rg_nil (ek_next (wk_seq ?_)); refine wk_region [0, 0, 0, 1, 0, 0, 0, 0, 0] rfl Kx ?_; refine Zm ?_; refine rf_conv rfl rfl rfl Tryz.underlying3 Tryz.underlying101 (wrap_okU Ox Ox) ?_
  simp only [qz]; apply rg_pure Rx Kx
  case hargs => exact Ax
  case h => exact fun w hw => same_pure (cm0.out w)
  case hz => exact Nz
  refine Zm ?_; refine rf_extract rfl rfl rfl rfl ?_; simp only [qz]; refine rf_extract rfl rfl rfl rfl ?_; refine Zm ?_; refine rg_nil (ek_next (wk_seq ?_)); refine wk_region [0] rfl Kx ?_; refine Zm ?_; refine rg_nil (ek_next (wk_seq ?_)); refine wk_region [0, 0, 0, 1, 0, 0, 0, 0, 1, 0] rfl Kx ?_; refine Zm ?_; apply rg_ext Rx
  case hargs => exact Ax
  case h => exact fun w => run_Add64 l0 0 0 s0 c0 Ox Ox Ox Ox hs0 hc0 w
  case hz => exact Nz
  refine Zm ?_; refine rf_extract rfl rfl rfl rfl ?_; simp only [qz]; refine rf_extract rfl rfl rfl rfl ?_; simp only [qz]; refine rf_indexA (n := 0) (sz := 1) (j := 0) rfl rfl rfl rfl Tryz.underlying106 Kx (by decide) rfl ?_; simp only [qz]; refine rf_store rfl rfl Kx rfl rfl (UpdR.here _ _ _ Nl) Nz ?_; refine Zm ?_; refine rg_nil (ek_next ?_); refine wk_region [0, 0, 0, 0] rfl Kx ?_; refine Zm ?_; refine rf_add rfl rfl rfl rfl (wrap_okU Ox Ox) ?_
  simp only [qz]; rw [hk0]; refine Zm ?_; refine rg_nil (ek_block (ek_next ?_)); refine wk_region [0, 0] rfl Kx ?_; simp only [qy]; refine rf_add (r := 1) rfl rfl rfl rfl (by decide) ?_; refine Zm ?_; refine rg_nil (ek_again (wk_seq ?_)); refine wk_region [0] rfl Kx ?_; simp only [qy]; refine rf_lss (b := true) rfl rfl rfl rfl (by decide) ?_; simp only [qz]; refine rg_nil (ek_next (wk_seq (wk_cond_t rfl (wk_skip (ek_next (wk_seq (wk_block (wk_seq ?_))))))))
  refine wk_region [0, 0, 0, 0] rfl Kx ?_; refine Zm ?_; refine Zk ?_; refine rg_nil (ek_next (wk_seq ?_)); refine wk_region [0, 0, 0, 1, 0, 0, 0, 0, 0] rfl Kx ?_; refine Zm ?_; refine rf_conv rfl rfl rfl Tryz.underlying3 Tryz.underlying101 (wrap_okU Ox Ox) ?_; simp only [qz]; apply rg_pure Rx Kx
  case hargs => exact Ax
  case h => exact fun w hw => same_pure (cm1.out w)
  case hz => exact Nz
  refine Zm ?_; refine rf_extract rfl rfl rfl rfl ?_; simp only [qz]; refine rf_extract rfl rfl rfl rfl ?_; refine Zm ?_; refine rg_nil (ek_next (wk_seq ?_)); refine wk_region [0] rfl Kx ?_; refine Zm ?_; refine rg_nil (ek_next (wk_seq ?_)); refine wk_region [0, 0, 0, 1, 0, 0, 0, 0, 1, 0] rfl Kx ?_; refine Zm ?_; apply rg_ext Rx
  case hargs => exact Ax
  case h => exact fun w => run_Add64 l1 k0 0 s1 c1 Ox Ox Ox Ox hs1 hc1 w
  case hz => exact Nz
  refine Zm ?_; refine rf_extract rfl rfl rfl rfl ?_; simp only [qz]; refine rf_extract rfl rfl rfl rfl ?_; simp only [qz]; refine rf_indexA (n := 1) (sz := 1) (j := 1) rfl rfl rfl rfl Tryz.underlying106 Kx (by decide) rfl ?_; simp only [qz]; refine rf_store rfl rfl Kx rfl rfl (UpdR.here _ _ _ Nl) Nz ?_; refine Zm ?_; refine rg_nil (ek_next ?_); refine wk_region [0, 0, 0, 0] rfl Kx ?_; refine Zm ?_; refine rf_add rfl rfl rfl rfl (wrap_okU Ox Ox) ?_
  simp only [qz]; rw [hk1]; refine Zm ?_; refine rg_nil (ek_block (ek_next ?_)); refine wk_region [0, 0] rfl Kx ?_; simp only [qy]; refine rf_add (r := 2) rfl rfl rfl rfl (by decide) ?_; refine Zm ?_; refine rg_nil (ek_again (wk_seq ?_)); refine wk_region [0] rfl Kx ?_; simp only [qy]; refine rf_lss (b := true) rfl rfl rfl rfl (by decide) ?_; simp only [qz]; refine rg_nil (ek_next (wk_seq (wk_cond_t rfl (wk_skip (ek_next (wk_seq (wk_block (wk_seq ?_))))))))
  refine wk_region [0, 0, 0, 0] rfl Kx ?_; refine Zm ?_; refine Zk ?_; refine rg_nil (ek_next (wk_seq ?_)); refine wk_region [0, 0, 0, 1, 0, 0, 0, 0, 0] rfl Kx ?_; refine Zm ?_; refine rf_conv rfl rfl rfl Tryz.underlying3 Tryz.underlying101 (wrap_okU Ox Ox) ?_; simp only [qz]; apply rg_pure Rx Kx
  case hargs => exact Ax
  case h => exact fun w hw => same_pure (cm2.out w)
  case hz => exact Nz
  refine Zm ?_; refine rf_extract rfl rfl rfl rfl ?_; simp only [qz]; refine rf_extract rfl rfl rfl rfl ?_; refine Zm ?_; refine rg_nil (ek_next (wk_seq ?_)); refine wk_region [0] rfl Kx ?_; refine Zm ?_; refine rg_nil (ek_next (wk_seq ?_)); refine wk_region [0, 0, 0, 1, 0, 0, 0, 0, 1, 0] rfl Kx ?_; refine Zm ?_; apply rg_ext Rx
  case hargs => exact Ax
  case h => exact fun w => run_Add64 l2 k1 0 s2 c2 Ox Ox Ox Ox hs2 hc2 w
  case hz => exact Nz
  refine Zm ?_; refine rf_extract rfl rfl rfl rfl ?_; simp only [qz]; refine rf_extract rfl rfl rfl rfl ?_; simp only [qz]; refine rf_indexA (n := 2) (sz := 1) (j := 2) rfl rfl rfl rfl Tryz.underlying106 Kx (by decide) rfl ?_; simp only [qz]; refine rf_store rfl rfl Kx rfl rfl (UpdR.here _ _ _ Nl) Nz ?_; refine Zm ?_; refine rg_nil (ek_next ?_); refine wk_region [0, 0, 0, 0] rfl Kx ?_; refine Zm ?_; refine rf_add rfl rfl rfl rfl (wrap_okU Ox Ox) ?_
  simp only [qz]; rw [hk2]; refine Zm ?_; refine rg_nil (ek_block (ek_next ?_)); refine wk_region [0, 0] rfl Kx ?_; simp only [qy]; refine rf_add (r := 3) rfl rfl rfl rfl (by decide) ?_; refine Zm ?_; refine rg_nil (ek_again (wk_seq ?_)); refine wk_region [0] rfl Kx ?_; simp only [qy]; refine rf_lss (b := true) rfl rfl rfl rfl (by decide) ?_; simp only [qz]; refine rg_nil (ek_next (wk_seq (wk_cond_t rfl (wk_skip (ek_next (wk_seq (wk_block (wk_seq ?_))))))))
  refine wk_region [0, 0, 0, 0] rfl Kx ?_; refine Zm ?_; refine Zk ?_; refine rg_nil (ek_next (wk_seq ?_)); refine wk_region [0, 0, 0, 1, 0, 0, 0, 0, 0] rfl Kx ?_; refine Zm ?_; refine rf_conv rfl rfl rfl Tryz.underlying3 Tryz.underlying101 (wrap_okU Ox Ox) ?_; simp only [qz]; apply rg_pure Rx Kx
  case hargs => exact Ax
  case h => exact fun w hw => same_pure (cm3.out w)
  case hz => exact Nz
  refine Zm ?_; refine rf_extract rfl rfl rfl rfl ?_; simp only [qz]; refine rf_extract rfl rfl rfl rfl ?_; refine Zm ?_; refine rg_nil (ek_next (wk_seq ?_)); refine wk_region [0] rfl Kx ?_; refine Zm ?_; refine rg_nil (ek_next (wk_seq ?_)); refine wk_region [0, 0, 0, 1, 0, 0, 0, 0, 1, 0] rfl Kx ?_; refine Zm ?_; apply rg_ext Rx
  case hargs => exact Ax
  case h => exact fun w => run_Add64 l3 k2 0 s3 c3 Ox Ox Ox Ox hs3 hc3 w
  case hz => exact Nz
  refine Zm ?_; refine rf_extract rfl rfl rfl rfl ?_; simp only [qz]; refine rf_extract rfl rfl rfl rfl ?_; simp only [qz]; refine rf_indexA (n := 3) (sz := 1) (j := 3) rfl rfl rfl rfl Tryz.underlying106 Kx (by decide) rfl ?_; simp only [qz]; refine rf_store rfl rfl Kx rfl rfl (UpdR.here _ _ _ Nl) Nz ?_; refine Zm ?_; refine rg_nil (ek_next ?_); refine wk_region [0, 0, 0, 0] rfl Kx ?_; refine Zm ?_; refine rf_add rfl rfl rfl rfl (wrap_okU Ox Ox) ?_
  simp only [qz]; rw [hk3]; refine Zm ?_; refine rg_nil (ek_block (ek_next ?_)); refine wk_region [0, 0] rfl Kx ?_; simp only [qy]; refine rf_add (r := 4) rfl rfl rfl rfl (by decide) ?_; refine Zm ?_; refine rg_nil (ek_again (wk_seq ?_)); refine wk_region [0] rfl Kx ?_; simp only [qy]; refine rf_lss (b := true) rfl rfl rfl rfl (by decide) ?_; simp only [qz]; refine rg_nil (ek_next (wk_seq (wk_cond_t rfl (wk_skip (ek_next (wk_seq (wk_block (wk_seq ?_))))))))
  refine wk_region [0, 0, 0, 0] rfl Kx ?_; refine Zm ?_; refine Zk ?_; refine rg_nil (ek_next (wk_seq ?_)); refine wk_region [0, 0, 0, 1, 0, 0, 0, 0, 0] rfl Kx ?_; refine Zm ?_; refine rf_conv rfl rfl rfl Tryz.underlying3 Tryz.underlying101 (wrap_okU Ox Ox) ?_; simp only [qz]; apply rg_pure Rx Kx
  case hargs => exact Ax
  case h => exact fun w hw => same_pure (cm4.out w)
  case hz => exact Nz
  refine Zm ?_; refine rf_extract rfl rfl rfl rfl ?_; simp only [qz]; refine rf_extract rfl rfl rfl rfl ?_; refine Zm ?_; refine rg_nil (ek_next (wk_seq ?_)); refine wk_region [0] rfl Kx ?_; refine Zm ?_; refine rg_nil (ek_next (wk_seq ?_)); refine wk_region [0, 0, 0, 1, 0, 0, 0, 0, 1, 0] rfl Kx ?_; refine Zm ?_; apply rg_ext Rx
  case hargs => exact Ax
  case h => exact fun w => run_Add64 l4 k3 0 s4 c4 Ox Ox Ox Ox hs4 hc4 w
  case hz => exact Nz
  refine Zm ?_; refine rf_extract rfl rfl rfl rfl ?_; simp only [qz]; refine rf_extract rfl rfl rfl rfl ?_; simp only [qz]; refine rf_indexA (n := 4) (sz := 1) (j := 4) rfl rfl rfl rfl Tryz.underlying106 Kx (by decide) rfl ?_; simp only [qz]; refine rf_store rfl rfl Kx rfl rfl (UpdR.here _ _ _ Nl) Nz ?_; refine Zm ?_; refine rg_nil (ek_next ?_); refine wk_region [0, 0, 0, 0] rfl Kx ?_; refine Zm ?_; refine rf_add rfl rfl rfl rfl (wrap_okU Ox Ox) ?_
  simp only [qz]; rw [hk4]; refine Zm ?_; refine rg_nil (ek_block (ek_next ?_)); refine wk_region [0, 0] rfl Kx ?_; simp only [qy]; refine rf_add (r := 5) rfl rfl rfl rfl (by decide) ?_; refine Zm ?_; refine rg_nil (ek_again (wk_seq ?_)); refine wk_region [0] rfl Kx ?_; simp only [qy]; refine rf_lss (b := true) rfl rfl rfl rfl (by decide) ?_; simp only [qz]; refine rg_nil (ek_next (wk_seq (wk_cond_t rfl (wk_skip (ek_next (wk_seq (wk_block (wk_seq ?_))))))))
  refine wk_region [0, 0, 0, 0] rfl Kx ?_; refine Zm ?_; refine Zk ?_; refine rg_nil (ek_next (wk_seq ?_)); refine wk_region [0, 0, 0, 1, 0, 0, 0, 0, 0] rfl Kx ?_; refine Zm ?_; refine rf_conv rfl rfl rfl Tryz.underlying3 Tryz.underlying101 (wrap_okU Ox Ox) ?_; simp only [qz]; apply rg_pure Rx Kx
  case hargs => exact Ax
  case h => exact fun w hw => same_pure (cm5.out w)
  case hz => exact Nz
  refine Zm ?_; refine rf_extract rfl rfl rfl rfl ?_; simp only [qz]; refine rf_extract rfl rfl rfl rfl ?_; refine Zm ?_; refine rg_nil (ek_next (wk_seq ?_)); refine wk_region [0] rfl Kx ?_; refine Zm ?_; refine rg_nil (ek_next (wk_seq ?_)); refine wk_region [0, 0, 0, 1, 0, 0, 0, 0, 1, 0] rfl Kx ?_; refine Zm ?_; apply rg_ext Rx
  case hargs => exact Ax
  case h => exact fun w => run_Add64 l5 k4 0 s5 c5 Ox Ox Ox Ox hs5 hc5 w
  case hz => exact Nz
  refine Zm ?_; refine rf_extract rfl rfl rfl rfl ?_; simp only [qz]; refine rf_extract rfl rfl rfl rfl ?_; simp only [qz]; refine rf_indexA (n := 5) (sz := 1) (j := 5) rfl rfl rfl rfl Tryz.underlying106 Kx (by decide) rfl ?_; simp only [qz]; refine rf_store rfl rfl Kx rfl rfl (UpdR.here _ _ _ Nl) Nz ?_; refine Zm ?_; refine rg_nil (ek_next ?_); refine wk_region [0, 0, 0, 0] rfl Kx ?_; refine Zm ?_; refine rf_add rfl rfl rfl rfl (wrap_okU Ox Ox) ?_
  simp only [qz]; rw [hk5]; refine Zm ?_; refine rg_nil (ek_block (ek_next ?_)); refine wk_region [0, 0] rfl Kx ?_; simp only [qy]; refine rf_add (r := 6) rfl rfl rfl rfl (by decide) ?_; refine Zm ?_; refine rg_nil (ek_again (wk_seq ?_)); refine wk_region [0] rfl Kx ?_; simp only [qy]; refine rf_lss (b := false) rfl rfl rfl rfl (by decide) ?_; simp only [qz]; refine rg_nil (ek_next (wk_seq (wk_cond_f rfl (wk_exit (ek_then_exit (ek_then_exit (ek_block_exit (ek_next (wk_seq ?_)))))))))
  refine wk_region [0, 1] rfl Kx ?_; simp only [qy]; refine rf_loadR (n := 6) rfl rfl rfl Tryz.underlying106 rfl Kx (fun w hw => Kn.hd0 hw) rfl rfl ?_; simp only [qz]; refine rf_storeR (n := 6) rfl rfl Kx rfl rfl (UpdR.there _ (UpdR.here _ _ _ Nl)) Nz ?_; simp only [qz, Nat.reduceAdd]; refine rg_nil (ek_next (wk_ret ?_)); refine ek_ret (fun w hw => ⟨rfl, _, run_results1 rfl rfl (Kn.hd0 (Kn.tl hw)) Tryz.underlying106 rfl Kx, ?_⟩)
  (try simp only [qz])
  exact ⟨by rw [← heq.out] <;> rfl, hw.below⟩
theorem w6times_neg (m n : Int) (h0 : n < 0) (h1 : -9223372036854775807 ≤ n) (w : World) : Calls Tryz.prog 94 #[w6V (W6.of m), .int .i64 n] w fun e w' => e = .returned (w6V (W6.of (m * n))) ∧ Below w.heap.size w w' := by
 go_enter Tryz.func94, Tryz.ntmps94
 refine wk_start ?_
 refine wk_seq ?_
 refine wk_region [1, 1] rfl Kx ?_
 simp only [qy]
 refine Rgn fun g1 => ?_
 simp only [qz]
 refine Rgn fun g2 => ?_
 simp only [qz]
 refine rg_nil (ek_next (wk_seq (wk_seq ?_)))
 refine wk_region [0, 0] rfl Kx ?_
 refine Zm ?_
 refine rfb_lss rfl rfl rfl rfl ?_
 intro x h1
 obtain rfl : x = true := by (refine h1.symm.trans ?_; exact decide_eq_true Ox)
 clear h1
 simp only [qz]
 refine rg_nil (ek_next (wk_cond_t rfl (wk_seq ?_)))
 refine wk_region [0, 1, 0, 0, 1, 1] rfl Kx ?_
 simp only [qy]
 refine rf_loadR (n := 6) rfl rfl rfl Tryz.underlying106 rfl Kx (fun w hw => Kn.hd0 (Kn.tl hw)) rfl rfl ?_
 simp only [qz]
 apply rg_pure Rx Kx
 case hargs => exact Ax
 case h => exact fun w hw => w6neg_any m w
 case hz => exact Nz
 refine Zm ?_
 refine rf_neg rfl rfl rfl (wrap_ok Ox Ox) ?_
 simp only [qz]
 apply rg_pure Rx Kx
 case hargs => exact Ax
 case h => exact fun w hw => w6times_pos (-m) (-n) Ox Ox w
 case hz => exact Nz
 simp only [qz]
 refine rf_storeR (n := 6) rfl rfl Kx rfl rfl (UpdR.here _ _ _ Nl) Nz ?_
 simp only [qz, Nat.reduceAdd]
 refine rg_nil (ek_next (wk_ret (ek_then_ret ?_)))
 refine ek_ret (fun w hw => ⟨rfl, _, run_results1 rfl rfl (Kn.hd0 hw) Tryz.underlying106 rfl Kx, ?_⟩)
 (try simp only [qz])
 exact ⟨by rw [show -m * -n = m * n by grind], hw.below⟩
theorem w6times_any (m n : Int) (h0 : -9223372036854775807 ≤ n) (h1 : n ≤ 9223372036854775807) (w : World) : Calls Tryz.prog 94 #[w6V (W6.of m), .int .i64 n] w fun e w' => e = .returned (w6V (W6.of (m * n))) ∧ Below w.heap.size w w' := by
 rcases Int.lt_or_le n 0 with h | h
 ·exact w6times_neg m n h h0 w
 exact w6times_pos m n h h1 w
theorem w6whole_any (n : Int) (h0 : -9223372036854775808 ≤ n) (h1 : n < 9223372036854775808) (w : World) : Calls Tryz.prog 69 #[.int .i64 n] w fun e w' => e = .returned (w6V (W6.of n)) ∧ Below w.heap.size w w' := by
 go_enter Tryz.func69, Tryz.ntmps69
 refine wk_start ?_
 refine wk_seq ?_
 refine wk_region [1] rfl Kx ?_
 simp only [qy]
 refine Rgn fun g1 => ?_
 simp only [qz]
 refine rg_nil (ek_next (wk_seq ?_))
 refine wk_region [0, 0, 0, 1, 1] rfl Kx ?_
 refine Zm ?_
 refine rf_conv rfl rfl rfl Tryz.underlying3 Tryz.underlying101 (IntKind.wrap_u64 _) ?_
 simp only [qz]
 refine rf_build (cs := fun a => #[a.eval (.tmp 6), .int .u64 0, .int .u64 0, .int .u64 0, .int .u64 0, .int .u64 0]) rfl rfl Kx ?_
 simp only [qz]
 refine Rgn fun g2 => ?_
 simp only [qz]
 refine rf_storeR (n := 6) rfl rfl Kx rfl rfl (UpdR.here _ _ _ Nl) Nz ?_
 simp only [qz, Nat.reduceAdd]
 refine rg_nil (ek_next (wk_seq (wk_seq ?_)))
 refine wk_region [0, 0] rfl Kx ?_
 refine Zm ?_
 refine rfb_lss rfl rfl rfl rfl ?_
 intro x h1
 cases x
 ·(try simp only [qd, ne_eq] at h1)
  simp only [qz]; refine rg_nil (ek_next (wk_cond_f rfl (wk_skip (ek_next (wk_seq ?_))))); refine wk_region [0, 1] rfl Kx ?_; simp only [qy]; refine rf_loadR (n := 6) rfl rfl rfl Tryz.underlying106 rfl Kx (fun w hw => Kn.hd0 hw) rfl rfl ?_; simp only [qz]; refine rf_storeR (n := 6) rfl rfl Kx rfl rfl (UpdR.there _ (UpdR.here _ _ _ Nl)) Nz ?_; simp only [qz, Nat.reduceAdd]; refine rg_nil (ek_next (wk_ret ?_)); refine ek_ret (fun w hw => ⟨rfl, _, run_results1 rfl rfl (Kn.hd0 (Kn.tl hw)) Tryz.underlying106 rfl Kx, ?_⟩)
  (try simp only [qz])
  exact ⟨by rw [W6.of_whole Ox Ox]; simp [*]; try omega, hw.below⟩
 (try simp only [qd, ne_eq] at h1)
 simp only [qz]
 refine rg_nil (ek_next (wk_cond_t rfl (wk_seq ?_)))
 refine wk_region [0] rfl Kx ?_
 refine Zm ?_
 refine rg_nil (ek_next (wk_block ?_))
 refine wk_unroll 6 ?_
 refine wk_seq (wk_seq ?_)
 refine wk_region [0, 0] rfl Kx ?_
 refine Zm ?_
 refine rf_lss (b := true) rfl rfl rfl rfl (by decide) ?_
 simp only [qz]
 refine rg_nil (ek_next (wk_cond_t rfl (wk_skip (ek_next (wk_seq (wk_block ?_))))))
 refine wk_region [0, 0, 1] rfl Kx ?_
 refine Zm ?_
 refine rf_indexA (n := 1) (sz := 1) (j := 1) rfl rfl rfl rfl Tryz.underlying106 Kx (by decide) rfl ?_
 simp only [qz]
 refine rf_store rfl rfl Kx rfl rfl (UpdR.here _ _ _ Nl) Nz ?_
 simp only [qz]
 refine rg_nil (ek_block (ek_next ?_))
 refine wk_region [0, 0, 0] rfl Kx ?_
 refine Zm ?_
 refine rf_add (r := 2) rfl rfl rfl rfl (by decide) ?_
 refine Zm ?_
 refine rg_nil (ek_again (wk_seq (wk_seq ?_)))
 refine wk_region [0, 0] rfl Kx ?_
 refine Zm ?_
 refine rf_lss (b := true) rfl rfl rfl rfl (by decide) ?_
 simp only [qz]
 refine rg_nil (ek_next (wk_cond_t rfl (wk_skip (ek_next (wk_seq (wk_block ?_))))))
 refine wk_region [0, 0, 1] rfl Kx ?_
 refine Zm ?_
 refine rf_indexA (n := 2) (sz := 1) (j := 2) rfl rfl rfl rfl Tryz.underlying106 Kx (by decide) rfl ?_
 simp only [qz]
 refine rf_store rfl rfl Kx rfl rfl (UpdR.here _ _ _ Nl) Nz ?_
 simp only [qz]
 refine rg_nil (ek_block (ek_next ?_))
 refine wk_region [0, 0, 0] rfl Kx ?_
 refine Zm ?_
 refine rf_add (r := 3) rfl rfl rfl rfl (by decide) ?_
 refine Zm ?_
 refine rg_nil (ek_again (wk_seq (wk_seq ?_)))
 refine wk_region [0, 0] rfl Kx ?_
 refine Zm ?_
 refine rf_lss (b := true) rfl rfl rfl rfl (by decide) ?_
 simp only [qz]
 refine rg_nil (ek_next (wk_cond_t rfl (wk_skip (ek_next (wk_seq (wk_block ?_))))))
 refine wk_region [0, 0, 1] rfl Kx ?_
 refine Zm ?_
 refine rf_indexA (n := 3) (sz := 1) (j := 3) rfl rfl rfl rfl Tryz.underlying106 Kx (by decide) rfl ?_
 simp only [qz]
 refine rf_store rfl rfl Kx rfl rfl (UpdR.here _ _ _ Nl) Nz ?_
 simp only [qz]
 refine rg_nil (ek_block (ek_next ?_))
 refine wk_region [0, 0, 0] rfl Kx ?_
 refine Zm ?_
 refine rf_add (r := 4) rfl rfl rfl rfl (by decide) ?_
 refine Zm ?_
 refine rg_nil (ek_again (wk_seq (wk_seq ?_)))
 refine wk_region [0, 0] rfl Kx ?_
 refine Zm ?_
 refine rf_lss (b := true) rfl rfl rfl rfl (by decide) ?_
 simp only [qz]
 refine rg_nil (ek_next (wk_cond_t rfl (wk_skip (ek_next (wk_seq (wk_block ?_))))))
 refine wk_region [0, 0, 1] rfl Kx ?_
 refine Zm ?_
 refine rf_indexA (n := 4) (sz := 1) (j := 4) rfl rfl rfl rfl Tryz.underlying106 Kx (by decide) rfl ?_
 simp only [qz]
 refine rf_store rfl rfl Kx rfl rfl (UpdR.here _ _ _ Nl) Nz ?_
 simp only [qz]
 refine rg_nil (ek_block (ek_next ?_))
 refine wk_region [0, 0, 0] rfl Kx ?_
 refine Zm ?_
 refine rf_add (r := 5) rfl rfl rfl rfl (by decide) ?_
 refine Zm ?_
 refine rg_nil (ek_again (wk_seq (wk_seq ?_)))
 refine wk_region [0, 0] rfl Kx ?_
 refine Zm ?_
 refine rf_lss (b := true) rfl rfl rfl rfl (by decide) ?_
 simp only [qz]
 refine rg_nil (ek_next (wk_cond_t rfl (wk_skip (ek_next (wk_seq (wk_block ?_))))))
 refine wk_region [0, 0, 1] rfl Kx ?_
 refine Zm ?_
 refine rf_indexA (n := 5) (sz := 1) (j := 5) rfl rfl rfl rfl Tryz.underlying106 Kx (by decide) rfl ?_
 simp only [qz]
 refine rf_store rfl rfl Kx rfl rfl (UpdR.here _ _ _ Nl) Nz ?_
 simp only [qz]
 refine rg_nil (ek_block (ek_next ?_))
 refine wk_region [0, 0, 0] rfl Kx ?_
 refine Zm ?_
 refine rf_add (r := 6) rfl rfl rfl rfl (by decide) ?_
 refine Zm ?_
 refine rg_nil (ek_again (wk_seq (wk_seq ?_)))
 refine wk_region [0, 0] rfl Kx ?_
 refine Zm ?_
 refine rf_lss (b := false) rfl rfl rfl rfl (by decide) ?_
 simp only [qz]
 refine rg_nil (ek_next (wk_cond_f rfl (wk_exit (ek_then_exit (ek_then_exit (ek_block_exit (ek_next (wk_seq ?_))))))))
 refine wk_region [0, 1] rfl Kx ?_
 simp only [qy]
 refine rf_loadR (n := 6) rfl rfl rfl Tryz.underlying106 rfl Kx (fun w hw => Kn.hd0 hw) rfl rfl ?_
 simp only [qz]
 refine rf_storeR (n := 6) rfl rfl Kx rfl rfl (UpdR.there _ (UpdR.here _ _ _ Nl)) Nz ?_
 simp only [qz, Nat.reduceAdd]
 refine rg_nil (ek_next (wk_ret ?_))
 refine ek_ret (fun w hw => ⟨rfl, _, run_results1 rfl rfl (Kn.hd0 (Kn.tl hw)) Tryz.underlying106 rfl Kx, ?_⟩)
 (try simp only [qz])
 exact ⟨by rw [W6.of_whole Ox Ox]; simp [*]; try omega, hw.below⟩
abbrev w6L (x : W6) : List Value := [.int .u64 x.w0, .int .u64 x.w1, .int .u64 x.w2, .int .u64 x.w3, .int .u64 x.w4, .int .u64 x.w5]
def smC (T : Nat → Int) : Array Value := (w6L (W6.of (T 0)) ++ (w6L (W6.of (T 1)) ++ (w6L (W6.of (T 2)) ++ w6L (W6.of (T 3))))).toArray
theorem sm_row {w : World} {g t m : Nat} {T : Nat → Int} (h : Hd w g t (smC T)) (hm : m < 4) : w.rangeAt g (0 + m * 6) (w6L (W6.of (T m))) := by
  have := cells_range h (0 + m * 6) 6
  have e : ((smC T).toList.drop (0 + m * 6)).take 6 = w6L (W6.of (T m)) := by
    rcases lt4 hm with rfl | rfl | rfl | rfl <;> rfl
  rwa [e] at this
theorem sm_idx {m : Nat} {T : Nat → Int} (hm : m < 4) : (smC T).extract (m * 6) (m * 6 + 6) = (w6L (W6.of (T m))).toArray := by
  rcases lt4 hm with rfl | rfl | rfl | rfl <;> rfl
theorem smX0 (x0 x1 x2 x3 y : W6) : setMany (w6L x0 ++ (w6L x1 ++ (w6L x2 ++ w6L x3))).toArray 0 (w6L y) = (w6L y ++ (w6L x1 ++ (w6L x2 ++ w6L x3))).toArray := by kernel_rfl
theorem smX1 (x0 x1 x2 x3 y : W6) : setMany (w6L x0 ++ (w6L x1 ++ (w6L x2 ++ w6L x3))).toArray 6 (w6L y) = (w6L x0 ++ (w6L y ++ (w6L x2 ++ w6L x3))).toArray := by kernel_rfl
theorem smX2 (x0 x1 x2 x3 y : W6) : setMany (w6L x0 ++ (w6L x1 ++ (w6L x2 ++ w6L x3))).toArray 12 (w6L y) = (w6L x0 ++ (w6L x1 ++ (w6L y ++ w6L x3))).toArray := by kernel_rfl
theorem smX3 (x0 x1 x2 x3 y : W6) : setMany (w6L x0 ++ (w6L x1 ++ (w6L x2 ++ w6L x3))).toArray 18 (w6L y) = (w6L x0 ++ (w6L x1 ++ (w6L x2 ++ w6L y))).toArray := by kernel_rfl
theorem sm_set {m : Nat} {T : Nat → Int} {t : Int} (hm : m < 4) : setMany (smC T) (0 + m * 6) (w6L (W6.of t)) = smC (upd T m t) := by
  unfold smC
  rcases lt4 hm with rfl | rfl | rfl | rfl
  · rw [upd_same, upd_other T t (show 1 ≠ 0 by decide), upd_other T t (show 2 ≠ 0 by decide), upd_other T t (show 3 ≠ 0 by decide)]; exact smX0 ..
  · rw [upd_same, upd_other T t (show 0 ≠ 1 by decide), upd_other T t (show 2 ≠ 1 by decide), upd_other T t (show 3 ≠ 1 by decide)]; exact smX1 ..
  · rw [upd_same, upd_other T t (show 0 ≠ 2 by decide), upd_other T t (show 1 ≠ 2 by decide), upd_other T t (show 3 ≠ 2 by decide)]; exact smX2 ..
  rw [upd_same, upd_other T t (show 0 ≠ 3 by decide), upd_other T t (show 1 ≠ 3 by decide), upd_other T t (show 2 ≠ 3 by decide)]; exact smX3 ..
theorem sm_set' {m : Nat} {T : Nat → Int} {t : Int} (hm : m < 4) : ((((((smC T).setIfInBounds (0 + m * 6) (.int .u64 (W6.of t).w0)).setIfInBounds (0 + m * 6 + 1) (.int .u64 (W6.of t).w1)).setIfInBounds (0 + m * 6 + 1 + 1) (.int .u64 (W6.of t).w2)).setIfInBounds (0 + m * 6 + 1 + 1 + 1) (.int .u64 (W6.of t).w3)).setIfInBounds
    (0 + m * 6 + 1 + 1 + 1 + 1) (.int .u64 (W6.of t).w4)).setIfInBounds (0 + m * 6 + 1 + 1 + 1 + 1 + 1) (.int .u64 (W6.of t).w5) = smC (upd T m t) := by rw [← sm_set hm]; simp only [setMany]
theorem w6_zero : W6.of 0 = ⟨0, 0, 0, 0, 0, 0⟩ := by decide
theorem sm_zero : (#[.int .u64 0, .int .u64 0, .int .u64 0, .int .u64 0, .int .u64 0, .int .u64 0, .int .u64 0, .int .u64 0, .int .u64 0, .int .u64 0, .int .u64 0, .int .u64 0, .int .u64 0, .int .u64 0, .int .u64 0, .int .u64 0, .int .u64 0, .int .u64 0, .int .u64 0, .int .u64 0, .int .u64 0, .int .u64 0, .int .u64 0, .int .u64 0] : Array Value) = smC (fun _ => 0) := by
  unfold smC
  rw [w6_zero]
  rfl
theorem sm_all {w : World} {g t : Nat} {T : Nat → Int} (h : Hd w g t (smC T)) : w.rangeAt g 0 (smC T).toList := by
  have := cells_range h 0 24
  have e : ((smC T).toList.drop 0).take 24 = (smC T).toList := rfl
  rwa [e] at this
theorem acc_congr {X X' Y Y' : Nat → Int} (hX : ∀ i, i < 4 → X i = X' i) (hY : ∀ i, i < 4 → Y i = Y' i) : ∀ n m, n ≤ 16 → acc X Y n m = acc X' Y' n m
  | 0, m, _ => rfl
  | n + 1, m, h => by
    simp only [acc]; rw [acc_congr hX hY n m Ox, hX (n / 4) Ox, hY (n % 4) Ox]
theorem smC_congr {T T' : Nat → Int} (h : ∀ m, m < 4 → T m = T' m) : smC T = smC T' := by
  unfold smC
  rw [h 0 (by decide), h 1 (by decide), h 2 (by decide), h 3 (by decide)]
def pls (X Y : Nat → Int) (i m : Nat) : Int := if m < i then X m + Y m else X m
theorem pls_step (X Y : Nat → Int) (i : Nat) : upd (pls X Y i) i (X i + Y i) = pls X Y (i + 1) := by
  funext m
  unfold upd pls
  by_cases h : m = i
  · subst h; rw [if_pos rfl, if_pos Ox]
  rw [if_neg h]
  by_cases h2 : m < i
  · rw [if_pos h2, if_pos Ox]
  rw [if_neg h2, if_neg Ox]
theorem pls_at (X Y : Nat → Int) (i : Nat) : pls X Y i i = X i := if_neg Ox
theorem pls_0 (X Y : Nat → Int) : pls X Y 0 = X := by funext m; exact if_neg Ox
theorem pls_4 (X Y : Nat → Int) : smC (pls X Y 4) = smC (fun m => X m + Y m) := smC_congr fun m hm => if_pos hm
theorem sm_whole {T : Nat → Int} : setMany (#[.int .u64 0, .int .u64 0, .int .u64 0, .int .u64 0, .int .u64 0, .int .u64 0, .int .u64 0, .int .u64 0, .int .u64 0, .int .u64 0, .int .u64 0, .int .u64 0, .int .u64 0, .int .u64 0, .int .u64 0, .int .u64 0, .int .u64 0, .int .u64 0, .int .u64 0, .int .u64 0, .int .u64 0, .int .u64 0, .int .u64 0, .int .u64 0] : Array Value) 0 (smC T).toList = smC T := by kernel_rfl
theorem smplus_any (X Y : Nat → Int) (w : World) : Calls Tryz.prog 66 #[.agg (smC X), .agg (smC Y)] w fun e w' => e = .returned (.agg (smC (fun m => X m + Y m))) ∧ Below w.heap.size w w' := by
 rw [show smC X = smC (pls X Y 0) by rw [pls_0]]
 go_enter Tryz.func66, Tryz.ntmps66
 refine wk_start ?_
 refine wk_seq ?_
 refine wk_region [1, 1, 1] rfl Kx ?_
 simp only [qy]
 refine Rgn fun g1 => ?_
 simp only [qz]
 refine Rgn fun g2 => ?_
 simp only [qz]
 refine Rgn fun g3 => ?_
 simp only [qz]
 refine rg_nil (ek_next (wk_seq (wk_seq ?_)))
 refine wk_region [0] rfl Kx ?_
 refine Zm ?_
 refine rg_nil (ek_next (wk_block ?_))
 refine wk_loopF [5, 6, 7, 8, 9, 10, 11, 12, 13, 14, 15, 16, 17, 18] (fun mz f s => ∃ (i : Nat), f 6 = .int .i64 i ∧ s = ((g3, .cells #[.int .u64 0, .int .u64 0, .int .u64 0, .int .u64 0, .int .u64 0, .int .u64 0, .int .u64 0, .int .u64 0, .int .u64 0, .int .u64 0, .int .u64 0, .int .u64 0, .int .u64 0, .int .u64 0, .int .u64 0, .int .u64 0, .int .u64 0, .int .u64 0, .int .u64 0, .int .u64 0, .int .u64 0, .int .u64 0, .int .u64 0, .int .u64 0] 108) :: ((g2, .cells (smC Y) 108) :: ((g1, .cells (smC (pls X Y i)) 108) :: []))) ∧ mz = 4 - i ∧ i ≤ 4) ((fun (i : Nat) => 4 - i) (0)) ?_ Kx ?_
 ·exact ⟨0, rfl, rfl, rfl, by omega⟩
 rintro mz f1 s ⟨i, hs1_6, rfl, hn, hd1⟩
 simp only [Act.putF, List.foldl_cons, List.foldl_nil, hs1_6, Act.put, Act.eval, q1, q2, q3, q4, q5, q6, q7, q8, q9, q10, q11, q12, q13, q14, q15, q16, q17, q18, Nat.reduceAdd, Bool.not_true, Bool.not_false]
 clear hs1_6
 refine wk_seq ?_
 refine wk_region [0] rfl Kx ?_
 simp only [qy]
 refine rfb_lss rfl rfl rfl rfl ?_
 intro x h1
 cases x
 ·(try simp only [qd, ne_eq] at h1)
  simp only [qz]; refine rg_nil (ek_next (wk_seq (wk_cond_f rfl (wk_exit (ek_then_exit (ek_then_exit (ek_block_exit (ek_next (wk_seq ?_)))))))))
  obtain rfl : i = 4 := by omega
  refine wk_region [0, 1] rfl Kx ?_; simp only [qy]; refine rf_loadC (n := 24) (vs := (smC (pls X Y 4)).toList) rfl rfl rfl Tryz.underlying108 rfl Kx rfl (fun w hw => sm_all (Kn.hd0 (Kn.tl (Kn.tl hw)))) ?_; simp only [qz]; refine rf_storeR (n := 24) (vs := (smC (pls X Y 4)).toList) rfl rfl Kx rfl rfl (UpdR.here _ _ _ Nl) Nz ?_; rw [sm_whole]; simp only [qz]; refine rg_nil (ek_next (wk_ret ?_)); refine ek_ret (fun w hw => ⟨rfl, _, run_results1 rfl rfl (Kn.hd0 hw) Tryz.underlying108 rfl Kx, ?_⟩)
  (try simp only [qz])
  exact ⟨by rw [← pls_4], hw.below⟩
 (try simp only [qd, ne_eq] at h1)
 simp only [qz]
 refine rg_nil (ek_next (wk_seq (wk_cond_t rfl (wk_skip (ek_next (wk_seq (wk_block (wk_seq ?_))))))))
 refine wk_region [0, 0] rfl Kx ?_
 refine Zm ?_
 refine rg_nil (ek_next ?_)
 refine wk_draws_m (hz1 := (sc _ (sc _ (sk _ sn)))) [(0, 0), (1, 0), (2, 0), (3, 0), (4, 0), (5, 0), (6, 0), (7, 1), (8, 0), (9, 2)] 9 Kx Kx (fun c d v a w h => by cases d <;> exact h) ?_
 simp only [List.map_cons, List.map_nil, List.getD_cons_zero, List.getD_cons_succ]
 refine Zm ?_
 refine rf_indexA (n := i) (sz := 6) (j := 0 + i * 6) rfl rfl rfl rfl Tryz.underlying108 Kx Ox rfl ?_
 simp only [qz]
 refine rf_loadC (n := 6) (vs := w6L (W6.of ((pls X Y i) i))) rfl rfl rfl Tryz.underlying106 rfl Kx rfl (fun w hw => sm_row (Kn.hd0 (Kn.tl (Kn.tl hw))) Ox) ?_
 refine Zm ?_
 refine rf_indexA (n := i) (sz := 6) (j := 0 + i * 6) rfl rfl rfl rfl Tryz.underlying108 Kx Ox rfl ?_
 simp only [qz]
 refine rf_loadC (n := 6) (vs := w6L (W6.of (Y i))) rfl rfl rfl Tryz.underlying106 rfl Kx rfl (fun w hw => sm_row (Kn.hd0 (Kn.tl hw)) Ox) ?_
 simp only [qz]
 apply rg_pure Rx Kx
 case hargs => exact Ax
 case h => exact fun w hw => by have := w6add_any (pls X Y i i) (Y i) w; rw [pls_at] at this; rw [pls_at]; exact this
 case hz => exact (fun _ h => by cases h; exact (sc _ (sc _ (sc _ sn))))
 simp only [qz]
 refine rf_indexA (n := i) (sz := 6) (j := 0 + i * 6) rfl rfl rfl rfl Tryz.underlying108 Kx Ox rfl ?_
 simp only [qz]
 refine rf_storeRM (n := 6) (vs := w6L (W6.of (X i + Y i))) rfl rfl Kx rfl rfl (UpdR.there _ (UpdR.there _ (UpdR.here _ _ _ (show 0 + i * 6 + 6 ≤ 24 by omega)))) (sc _ (sc _ (sk _ sn))) ?_
 simp only [qz, Nat.reduceAdd]
 refine rg_nil (ek_block (ek_next ?_))
 refine wk_region [0, 0] rfl Kx ?_
 simp only [qy]
 refine rf_add rfl rfl rfl rfl (wrap_ok Ox Ox) ?_
 refine Zm ?_
 refine rg_nil ?_
 refine ek_roundF (4 - (i + 1)) Ox Kx ?_
 exact ⟨i + 1, rfl, (by rw [sm_set' Ox, pls_step]), by rfl, by omega⟩
theorem ar_idx {Y : Nat → Int} {k : Nat} (h : k < 4) : (#[.int .i64 (Y 0), .int .i64 (Y 1), .int .i64 (Y 2), .int .i64 (Y 3)] : Array Value)[k]? = some (.int .i64 (Y k)) := by
 rcases lt4 h with rfl | rfl | rfl | rfl <;> rfl
theorem smtimes_any (X Y : Nat → Int) (hY : ∀ k, k < 4 → -9223372036854775807 ≤ Y k ∧ Y k ≤ 9223372036854775807) (w : World) : Calls Tryz.prog 68 #[.agg (smC X), .agg #[.int .i64 (Y 0), .int .i64 (Y 1), .int .i64 (Y 2), .int .i64 (Y 3)]] w fun e w' => e = .returned (.agg (smC (acc X Y 16))) ∧ Below w.heap.size w w' := by
 go_enter Tryz.func68, Tryz.ntmps68
 refine wk_start ?_
 refine wk_seq ?_
 refine wk_region [1, 1, 1] rfl Kx ?_
 simp only [qy]
 refine Rgn fun g1 => ?_
 simp only [qz]
 refine Rgn fun g2 => ?_
 simp only [qz]
 refine Rgn fun g3 => ?_
 simp only [qz]
 refine rg_nil (ek_next (wk_seq ?_))
 refine wk_region [1] rfl Kx ?_
 simp only [qy]
 refine Rgn fun g4 => ?_
 simp only [qz]
 refine rg_nil (ek_next (wk_seq (wk_seq ?_)))
 have hz24 := sm_zero
 rw [show ([(g4, Obj.cells (#[.int .u64 0, .int .u64 0, .int .u64 0, .int .u64 0, .int .u64 0, .int .u64 0, .int .u64 0, .int .u64 0, .int .u64 0, .int .u64 0, .int .u64 0, .int .u64 0, .int .u64 0, .int .u64 0, .int .u64 0, .int .u64 0, .int .u64 0, .int .u64 0, .int .u64 0, .int .u64 0, .int .u64 0, .int .u64 0, .int .u64 0, .int .u64 0]) 108), (g3, Obj.cells (#[.int .u64 0, .int .u64 0, .int .u64 0, .int .u64 0, .int .u64 0, .int .u64 0, .int .u64 0, .int .u64 0, .int .u64 0, .int .u64 0, .int .u64 0, .int .u64 0, .int .u64 0, .int .u64 0, .int .u64 0, .int .u64 0, .int .u64 0, .int .u64 0, .int .u64 0, .int .u64 0, .int .u64 0, .int .u64 0, .int .u64 0, .int .u64 0]) 108), (g2, Obj.cells (#[.int .i64 (Y 0), .int .i64 (Y 1), .int .i64 (Y 2), .int .i64 (Y 3)]) 53), (g1, Obj.cells (smC X) 108)] : List Blk) = [(g4, Obj.cells (smC fun _ => 0) 108), (g3, Obj.cells (#[.int .u64 0, .int .u64 0, .int .u64 0, .int .u64 0, .int .u64 0, .int .u64 0, .int .u64 0, .int .u64 0, .int .u64 0, .int .u64 0, .int .u64 0, .int .u64 0, .int .u64 0, .int .u64 0, .int .u64 0, .int .u64 0, .int .u64 0, .int .u64 0, .int .u64 0, .int .u64 0, .int .u64 0, .int .u64 0, .int .u64 0, .int .u64 0]) 108), (g2, Obj.cells (#[.int .i64 (Y 0), .int .i64 (Y 1), .int .i64 (Y 2), .int .i64 (Y 3)]) 53), (g1, Obj.cells (smC X) 108)] from congrArg (fun c => [(g4, Obj.cells c 108), (g3, Obj.cells (#[.int .u64 0, .int .u64 0, .int .u64 0, .int .u64 0, .int .u64 0, .int .u64 0, .int .u64 0, .int .u64 0, .int .u64 0, .int .u64 0, .int .u64 0, .int .u64 0, .int .u64 0, .int .u64 0, .int .u64 0, .int .u64 0, .int .u64 0, .int .u64 0, .int .u64 0, .int .u64 0, .int .u64 0, .int .u64 0, .int .u64 0, .int .u64 0]) 108), (g2, Obj.cells (#[.int .i64 (Y 0), .int .i64 (Y 1), .int .i64 (Y 2), .int .i64 (Y 3)]) 53), (g1, Obj.cells (smC X) 108)]) hz24]
 clear hz24
 refine wk_region [0, 0] rfl Kx ?_
 simp only [qy]
 refine rf_loadC (n := 24) (vs := (smC X).toList) rfl rfl rfl Tryz.underlying108 rfl Kx rfl (fun w hw => sm_all (Kn.hd0 (Kn.tl (Kn.tl (Kn.tl hw))))) ?_
 rw [show (smC X).toList.toArray = smC X by simp]
 refine Zm ?_
 refine rg_nil (ek_next (wk_block ?_))
 refine wk_loopF [6, 7, 8, 9, 11, 12, 13, 14, 15, 16, 17, 18, 19, 20, 21, 22, 23, 24, 25, 26, 27, 28, 29, 30, 31, 32, 33, 34, 35, 36, 37, 38, 39, 40, 41, 42] (fun mz f s => ∃ (i : Nat) (T : Nat → Int), f 11 = .int .i64 i ∧ s = ((g4, .cells (smC T) 108) :: ((g3, .cells #[.int .u64 0, .int .u64 0, .int .u64 0, .int .u64 0, .int .u64 0, .int .u64 0, .int .u64 0, .int .u64 0, .int .u64 0, .int .u64 0, .int .u64 0, .int .u64 0, .int .u64 0, .int .u64 0, .int .u64 0, .int .u64 0, .int .u64 0, .int .u64 0, .int .u64 0, .int .u64 0, .int .u64 0, .int .u64 0, .int .u64 0, .int .u64 0] 108) :: ((g2, .cells #[.int .i64 (Y 0), .int .i64 (Y 1), .int .i64 (Y 2), .int .i64 (Y 3)] 53) :: ((g1, .cells (smC X) 108) :: [])))) ∧ mz = 4 - i ∧ i ≤ 4 ∧ Hid (acc X Y (i * 4) = T)) ((fun (i : Nat) (T : Nat → Int) => 4 - i) (0) (fun _ => 0)) ?_ Kx ?_
 ·exact ⟨0, fun _ => 0, rfl, rfl, rfl, by omega, (Lib.hid rfl)⟩
 rintro mz f1 s ⟨i, T, hs1_11, rfl, hn, hd1, hd2⟩
 simp only [Act.putF, List.foldl_cons, List.foldl_nil, hs1_11, Act.put, Act.eval, q1, q2, q3, q4, q5, q6, q7, q8, q9, q10, q11, q12, q13, q14, q15, q16, q17, q18, Nat.reduceAdd, Bool.not_true, Bool.not_false]
 clear hs1_11
 have hac := hd2
 clear hd2
 refine wk_seq ?_
 refine wk_region [0] rfl Kx ?_
 simp only [qy]
 refine rfb_lss rfl rfl rfl rfl ?_
 intro x h1
 cases x
 ·(try simp only [qd, ne_eq] at h1)
  simp only [qz]; refine rg_nil (ek_next (wk_seq (wk_cond_f rfl (wk_exit (ek_then_exit (ek_then_exit (ek_block_exit (ek_next (wk_seq ?_)))))))))
  obtain rfl : i = 4 := by omega
  refine wk_region [0, 1] rfl Kx ?_; simp only [qy]; refine rf_loadC (n := 24) (vs := (smC T).toList) rfl rfl rfl Tryz.underlying108 rfl Kx rfl (fun w hw => sm_all (Kn.hd0 hw)) ?_; simp only [qz]; refine rf_storeR (n := 24) (vs := (smC T).toList) rfl rfl Kx rfl rfl (UpdR.there _ (UpdR.here _ _ _ Nl)) Nz ?_; rw [sm_whole]; simp only [qz]; refine rg_nil (ek_next (wk_ret ?_)); refine ek_ret (fun w hw => ⟨rfl, _, run_results1 rfl rfl (Kn.hd0 (Kn.tl hw)) Tryz.underlying108 rfl Kx, ?_⟩)
  (try simp only [qz])
  exact ⟨by rw [show acc X Y 16 = T from hac.out], hw.below⟩
 (try simp only [qd, ne_eq] at h1)
 simp only [qz]
 refine rg_nil (ek_next (wk_seq (wk_cond_t rfl (wk_skip (ek_next (wk_seq (wk_block (wk_seq ?_))))))))
 refine wk_region [0, 0, 1, 0, 1] rfl Kx ?_
 refine Zm ?_
 refine rf_idxR (n := i) (sz := 6) rfl rfl rfl rfl Tryz.underlying108 Tryz.underlying106 rfl Kx Ox (sm_idx Ox) ?_
 simp only [qz]
 refine Rgn fun g5 => ?_
 refine Zm ?_
 refine rf_storeR (n := 6) rfl rfl Kx rfl rfl (UpdR.here _ _ _ Nl) Nz ?_
 simp only [qz, Nat.reduceAdd]
 refine rg_nil (ek_next (wk_seq ?_))
 refine wk_region [0, 0] rfl Kx ?_
 simp only [qy]
 refine rf_loadR (n := 4) rfl rfl rfl Tryz.underlying53 rfl Kx (fun w hw => Kn.hd0 (Kn.tl (Kn.tl (Kn.tl hw)))) rfl rfl ?_
 refine Zm ?_
 refine rg_nil (ek_next (wk_block ?_))
 refine wk_loopF [8, 9, 16, 17, 18, 19, 20, 21, 22, 23, 24, 25, 26, 27, 28, 29, 30, 31, 32, 33, 34, 35, 36, 37, 38, 39, 40, 41] (fun mz f s => ∃ (k : Nat) (T2 : Nat → Int), f 16 = .int .i64 k ∧ s = ((g5, .cells (w6L (W6.of (X i))).toArray 106) :: ((g4, .cells (smC T2) 108) :: ((g3, .cells #[.int .u64 0, .int .u64 0, .int .u64 0, .int .u64 0, .int .u64 0, .int .u64 0, .int .u64 0, .int .u64 0, .int .u64 0, .int .u64 0, .int .u64 0, .int .u64 0, .int .u64 0, .int .u64 0, .int .u64 0, .int .u64 0, .int .u64 0, .int .u64 0, .int .u64 0, .int .u64 0, .int .u64 0, .int .u64 0, .int .u64 0, .int .u64 0] 108) :: ((g2, .cells #[.int .i64 (Y 0), .int .i64 (Y 1), .int .i64 (Y 2), .int .i64 (Y 3)] 53) :: ((g1, .cells (smC X) 108) :: []))))) ∧ mz = 4 - k ∧ k ≤ 4 ∧ Hid (acc X Y (i * 4 + k) = T2)) ((fun (k : Nat) (T2 : Nat → Int) => 4 - k) (0) (T)) ?_ Kx ?_
 ·exact ⟨0, T, rfl, rfl, rfl, by omega, hac⟩
 rintro mz f2 s ⟨k, T2, hs2_16, rfl, hn, he1, he2⟩
 simp only [Act.putF, List.foldl_cons, List.foldl_nil, hs2_16, Act.put, Act.eval, q1, q2, q3, q4, q5, q6, q7, q8, q9, q10, q11, q12, q13, q14, q15, q16, q17, q18, Nat.reduceAdd, Bool.not_true, Bool.not_false]
 clear hs2_16
 have hac2 := he2
 clear he2
 refine wk_seq ?_
 refine wk_region [0] rfl Kx ?_
 simp only [qy]
 refine rfb_lss rfl rfl rfl rfl ?_
 intro x h2
 cases x
 ·(try simp only [qd, ne_eq] at h2)
  simp only [qz]; refine rg_nil (ek_next (wk_seq (wk_cond_f rfl (wk_exit (ek_then_exit (ek_then_exit (ek_block_exit (ek_block (ek_next ?_))))))))); refine wk_region [0, 0] rfl Kx ?_; simp only [qy]; refine rf_add rfl rfl rfl rfl (wrap_ok Ox Ox) ?_; refine Zm ?_; refine rg_nil ?_
  obtain rfl : k = 4 := by omega
  have hac' : acc X Y ((i + 1) * 4) = T2 := by rw [← hac2.out]; congr 1; omega
  refine ek_sub (sk _ (sc _ (sc _ (sc _ (sc _ sn))))) ?_; refine ek_roundF (4 - (i + 1)) Ox Kx ?_
  exact ⟨i + 1, T2, rfl, by rfl, by rfl, Ox, (Lib.hid hac')⟩
 (try simp only [qd, ne_eq] at h2)
 simp only [qz]
 have hyk := hY k Ox
 refine rg_nil (ek_next (wk_seq (wk_cond_t rfl (wk_skip (ek_next (wk_seq (wk_block (wk_seq ?_))))))))
 refine wk_region [0, 0, 0, 0] rfl Kx ?_
 refine Zm ?_
 refine rf_idx1 (n := k) rfl rfl rfl rfl Tryz.underlying53 Tryz.underlying3 rfl Kx Ox (ar_idx Ox) ?_
 refine Zm ?_
 refine rg_nil (ek_next (wk_seq (wk_seq ?_)))
 refine wk_region [0, 0, 0, 0] rfl Kx ?_
 refine Zm ?_
 refine rf_add rfl rfl rfl rfl (wrap_ok Ox Ox) ?_
 simp only [qz]
 refine rfb_geq rfl rfl rfl rfl ?_
 intro x h3
 cases x
 ·(try simp only [qd, ne_eq] at h3)
  simp only [qz]; refine rg_nil (ek_next (wk_cond_f rfl (wk_skip (ek_next ?_)))); refine wk_draws_m (hz1 := (sc _ (sk _ (sc _ (sc _ (sc _ sn)))))) [(0, 0), (1, 0), (2, 0), (3, 0), (4, 0), (5, 0), (6, 0), (7, 0), (8, 0), (9, 0), (10, 0), (11, 0), (12, 1), (13, 1), (14, 0), (15, 2)] 15 Kx Kx (fun c d v a w h => by cases d <;> exact h) ?_; simp only [List.map_cons, List.map_nil, List.getD_cons_zero, List.getD_cons_succ]
  refine Zm ?_; refine rf_add rfl rfl rfl rfl (wrap_ok Ox Ox) ?_; simp only [qz]; refine rf_rem (r := (((i + k) % 4 : Nat) : Int)) rfl rfl rfl rfl (by decide) ((rem_ok Ox).trans Ox) ?_; refine Zm ?_; refine rf_add rfl rfl rfl rfl (wrap_ok Ox Ox) ?_; simp only [qz]; refine rf_rem (r := (((i + k) % 4 : Nat) : Int)) rfl rfl rfl rfl (by decide) ((rem_ok Ox).trans Ox) ?_; simp only [qz]; refine rf_indexA (n := (i + k) % 4) (sz := 6) (j := 0 + ((i + k) % 4) * 6) rfl rfl rfl rfl Tryz.underlying108 Kx Ox rfl ?_
  simp only [qz]; refine rf_loadC (n := 6) (vs := w6L (W6.of (T2 ((i + k) % 4)))) rfl rfl rfl Tryz.underlying106 rfl Kx rfl (fun w hw => sm_row (Kn.hd0 (Kn.tl hw)) Ox) ?_; simp only [qz]; refine rf_loadR (n := 6) rfl rfl rfl Tryz.underlying106 rfl Kx (fun w hw => Kn.hd0 hw) rfl rfl ?_; refine Zm ?_; apply rg_pure Rx Kx
  case hargs => exact Ax
  case h => exact fun w hw => w6times_any (X i) (Y k) Ox Ox w
  case hz => exact (fun _ h => by cases h; exact (sc _ (sc _ (sc _ (sc _ (sc _ sn))))))
  simp only [qz]; apply rg_pure Rx Kx
  case hargs => exact Ax
  case h => exact fun w hw => w6add_any (T2 ((i + k) % 4)) (X i * Y k) w
  case hz => exact (fun _ h => by cases h; exact (sc _ (sc _ (sc _ (sc _ (sc _ sn))))))
  simp only [qz]; refine rf_indexA (n := (i + k) % 4) (sz := 6) (j := 0 + ((i + k) % 4) * 6) rfl rfl rfl rfl Tryz.underlying108 Kx Ox rfl ?_; simp only [qz]; refine rf_storeRM (n := 6) (vs := w6L (W6.of (T2 ((i + k) % 4) + X i * Y k))) rfl rfl Kx rfl rfl (UpdR.there _ (UpdR.here _ _ _ (show 0 + ((i + k) % 4) * 6 + 6 ≤ 24 by omega))) (sc _ (sk _ (sc _ (sc _ (sc _ sn))))) ?_; simp only [qz, Nat.reduceAdd]; refine rg_nil (ek_block (ek_next ?_))
  refine wk_region [0, 0] rfl Kx ?_; simp only [qy]; refine rf_add rfl rfl rfl rfl (wrap_ok Ox Ox) ?_; refine Zm ?_; refine rg_nil ?_; refine ek_roundF (4 - (k + 1)) Ox Kx ?_
  exact ⟨k + 1, upd T2 ((i + k) % 4) (T2 ((i + k) % 4) + X i * Y k), rfl, (by rw [sm_set' Ox]), by rfl, Ox, (Lib.hid (by rw [acc_step Ox hac2.out, if_neg Ox]))⟩
 (try simp only [qd, ne_eq] at h3)
 simp only [qz]
 refine rg_nil (ek_next (wk_cond_t rfl ?_))
 refine wk_region [0, 0, 0] rfl Kx ?_
 refine Zm ?_
 refine rf_neg rfl rfl rfl (wrap_ok Ox Ox) ?_
 refine Zm ?_
 refine rg_nil (ek_next ?_)
 refine wk_draws_m (hz1 := (sc _ (sk _ (sc _ (sc _ (sc _ sn)))))) [(0, 0), (1, 0), (2, 0), (3, 0), (4, 0), (5, 0), (6, 0), (7, 0), (8, 0), (9, 0), (10, 0), (11, 0), (12, 1), (13, 1), (14, 0), (15, 2)] 15 Kx Kx (fun c d v a w h => by cases d <;> exact h) ?_
 simp only [List.map_cons, List.map_nil, List.getD_cons_zero, List.getD_cons_succ]
 refine Zm ?_
 refine rf_add rfl rfl rfl rfl (wrap_ok Ox Ox) ?_
 simp only [qz]
 refine rf_rem (r := (((i + k) % 4 : Nat) : Int)) rfl rfl rfl rfl (by decide) ((rem_ok Ox).trans Ox) ?_
 refine Zm ?_
 refine rf_add rfl rfl rfl rfl (wrap_ok Ox Ox) ?_
 simp only [qz]
 refine rf_rem (r := (((i + k) % 4 : Nat) : Int)) rfl rfl rfl rfl (by decide) ((rem_ok Ox).trans Ox) ?_
 simp only [qz]
 refine rf_indexA (n := (i + k) % 4) (sz := 6) (j := 0 + ((i + k) % 4) * 6) rfl rfl rfl rfl Tryz.underlying108 Kx Ox rfl ?_
 simp only [qz]
 refine rf_loadC (n := 6) (vs := w6L (W6.of (T2 ((i + k) % 4)))) rfl rfl rfl Tryz.underlying106 rfl Kx rfl (fun w hw => sm_row (Kn.hd0 (Kn.tl hw)) Ox) ?_
 simp only [qz]
 refine rf_loadR (n := 6) rfl rfl rfl Tryz.underlying106 rfl Kx (fun w hw => Kn.hd0 hw) rfl rfl ?_
 refine Zm ?_
 apply rg_pure Rx Kx
 case hargs => exact Ax
 case h => exact fun w hw => by have := w6times_any (X i) (-(Y k)) Ox Ox w; rw [Int.mul_neg] at this; exact this
 case hz => exact (fun _ h => by cases h; exact (sc _ (sc _ (sc _ (sc _ (sc _ sn))))))
 simp only [qz]
 apply rg_pure Rx Kx
 case hargs => exact Ax
 case h => exact fun w hw => w6add_any (T2 ((i + k) % 4)) (-(X i * Y k)) w
 case hz => exact (fun _ h => by cases h; exact (sc _ (sc _ (sc _ (sc _ (sc _ sn))))))
 simp only [qz]
 refine rf_indexA (n := (i + k) % 4) (sz := 6) (j := 0 + ((i + k) % 4) * 6) rfl rfl rfl rfl Tryz.underlying108 Kx Ox rfl ?_
 simp only [qz]
 refine rf_storeRM (n := 6) (vs := w6L (W6.of (T2 ((i + k) % 4) + -(X i * Y k)))) rfl rfl Kx rfl rfl (UpdR.there _ (UpdR.here _ _ _ (show 0 + ((i + k) % 4) * 6 + 6 ≤ 24 by omega))) (sc _ (sk _ (sc _ (sc _ (sc _ sn))))) ?_
 simp only [qz, Nat.reduceAdd]
 refine rg_nil (ek_block (ek_next ?_))
 refine wk_region [0, 0] rfl Kx ?_
 simp only [qy]
 refine rf_add rfl rfl rfl rfl (wrap_ok Ox Ox) ?_
 refine Zm ?_
 refine rg_nil ?_
 refine ek_roundF (4 - (k + 1)) Ox Kx ?_
 exact ⟨k + 1, upd T2 ((i + k) % 4) (T2 ((i + k) % 4) + -(X i * Y k)), rfl, (by rw [sm_set' Ox]), by rfl, Ox, (Lib.hid (by rw [acc_step Ox hac2.out, if_pos Ox]))⟩
theorem sm_one : (#[.int .u64 (W6.of 1).w0, .int .u64 (W6.of 1).w1, .int .u64 (W6.of 1).w2, .int .u64 (W6.of 1).w3, .int .u64 (W6.of 1).w4, .int .u64 (W6.of 1).w5, .int .u64 0, .int .u64 0, .int .u64 0, .int .u64 0, .int .u64 0, .int .u64 0, .int .u64 0, .int .u64 0, .int .u64 0, .int .u64 0, .int .u64 0, .int .u64 0, .int .u64 0, .int .u64 0, .int .u64 0, .int .u64 0, .int .u64 0, .int .u64 0] : Array Value) = smC (sel4 1 0 0 0) := by
 unfold smC
 simp only [sel4]
 rw [w6_zero]
 rfl
theorem smone_any  (w : World) : Calls Tryz.prog 67 #[] w fun e w' => e = .returned (.agg (smC (sel4 1 0 0 0))) ∧ Below w.heap.size w w' := by
 go_enter Tryz.func67, Tryz.ntmps67
 refine wk_start ?_
 refine wk_seq ?_
 refine wk_region [1] rfl Kx ?_
 simp only [qy]
 refine Rgn fun g1 => ?_
 simp only [qz]
 refine rg_nil (ek_next (wk_seq ?_))
 refine wk_region [1, 0, 1] rfl Kx ?_
 simp only [qy]
 apply rg_pure Rx Kx
 case hargs => exact Ax
 case h => exact fun w hw => w6whole_any 1 (by decide) (by decide) w
 case hz => exact Nz
 simp only [qz]
 refine rf_build (cs := fun a => #[cellAt (a.eval (.tmp 1)) 0, cellAt (a.eval (.tmp 1)) 1, cellAt (a.eval (.tmp 1)) 2, cellAt (a.eval (.tmp 1)) 3, cellAt (a.eval (.tmp 1)) 4, cellAt (a.eval (.tmp 1)) 5, .int .u64 0, .int .u64 0, .int .u64 0, .int .u64 0, .int .u64 0, .int .u64 0, .int .u64 0, .int .u64 0, .int .u64 0, .int .u64 0, .int .u64 0, .int .u64 0, .int .u64 0, .int .u64 0, .int .u64 0, .int .u64 0, .int .u64 0, .int .u64 0]) rfl rfl Kx ?_
 simp only [qz]
 refine rf_storeR (n := 24) rfl rfl Kx rfl rfl (UpdR.here _ _ _ Nl) Nz ?_
 simp only [qz, Nat.reduceAdd]
 refine rg_nil (ek_next (wk_ret ?_))
 refine ek_ret (fun w hw => ⟨rfl, _, run_results1 rfl rfl (Kn.hd0 hw) Tryz.underlying108 rfl Kx, ?_⟩)
 (try simp only [qz])
 exact ⟨by rw [sm_one], hw.below⟩
theorem w6_eqIn (x y : W6) (w : World) : (Op.equalIn 9999 106 (w6V x) (w6V y)).run Tryz.prog w = .ok (decide (x = y)) w := by
  have u3 := Tryz.underlying101
  have a3 := Tryz.isAgg101
  have z3 := Tryz.sizeOf101
  obtain ⟨x0, x1, x2, x3, x4, x5⟩ := x
  obtain ⟨y0, y1, y2, y3, y4, y5⟩ := y
  rw [show (9999 : Nat) = 9998 + 1 from rfl, Op.equalIn]; simp only [Sem.run_bind, run_underlying Tryz.underlying106, Result.andThen_ok]; simp only [Std.Legacy.Range.forIn_eq_forIn_range', Std.Legacy.Range.size, Nat.sub_zero, Nat.add_sub_cancel, Nat.div_one, List.range'_succ, List.range'_zero, List.forIn_cons, List.forIn_nil]
  go_simp
  by_cases h0 : x0 = y0
  · by_cases h1 : x1 = y1
    · by_cases h2 : x2 = y2
      · by_cases h3 : x3 = y3
        · by_cases h4 : x4 = y4
          · by_cases h5 : x5 = y5 <;> simp [h0, h1, h2, h3, h4, h5]
          simp [h0, h1, h2, h3, h4]
        simp [h0, h1, h2, h3]
      simp [h0, h1, h2]
    simp [h0, h1]
  simp [h0]
def smEq (X Y : Nat → Int) : Bool := decide (W6.of (X 0) = W6.of (Y 0)) && (decide (W6.of (X 1) = W6.of (Y 1)) && (decide (W6.of (X 2) = W6.of (Y 2)) && decide (W6.of (X 3) = W6.of (Y 3))))
theorem part_sm {X : Nat → Int} {m : Nat} (hm : m < 4) (w : World) : (part 106 (smC X) (m * 6)).run Tryz.prog w = .ok (w6V (W6.of (X m))) w := by
  unfold part
  have ha := run_isAgg (P := Tryz.prog) Tryz.underlying106 w
  have hz := Tryz.sizeOf106 w
  simp only [isRow] at ha; rw [Sem.run_bind, ha, Result.andThen_ok]; simp only [if_true, Sem.run_bind, hz, Result.andThen_ok, Sem.run_pure]; rw [sm_idx hm]
theorem sm_eqIn (X Y : Nat → Int) (w : World) : (Op.equalIn 10000 108 (.agg (smC X)) (.agg (smC Y))).run Tryz.prog w = .ok (smEq X Y) w := by
  have z4 := Tryz.sizeOf106
  have p0 := part_sm (X := X) (m := 0) (by decide)
  have p1 := part_sm (X := X) (m := 1) (by decide)
  have p2 := part_sm (X := X) (m := 2) (by decide)
  have p3 := part_sm (X := X) (m := 3) (by decide)
  have r0 := part_sm (X := Y) (m := 0) (by decide)
  have r1 := part_sm (X := Y) (m := 1) (by decide)
  have r2 := part_sm (X := Y) (m := 2) (by decide)
  have r3 := part_sm (X := Y) (m := 3) (by decide)
  have e0 := w6_eqIn (W6.of (X 0)) (W6.of (Y 0))
  have e1 := w6_eqIn (W6.of (X 1)) (W6.of (Y 1))
  have e2 := w6_eqIn (W6.of (X 2)) (W6.of (Y 2))
  have e3 := w6_eqIn (W6.of (X 3)) (W6.of (Y 3))
  unfold smEq
  generalize decide (W6.of (X 0) = W6.of (Y 0)) = b0 at *
  generalize decide (W6.of (X 1) = W6.of (Y 1)) = b1 at *
  generalize decide (W6.of (X 2) = W6.of (Y 2)) = b2 at *
  generalize decide (W6.of (X 3) = W6.of (Y 3)) = b3 at *
  rw [show (10000 : Nat) = 9999 + 1 from rfl, Op.equalIn]; simp only [Sem.run_bind, run_underlying Tryz.underlying108, Result.andThen_ok, z4]; simp only [Std.Legacy.Range.forIn_eq_forIn_range', Std.Legacy.Range.size, Nat.sub_zero, Nat.add_sub_cancel, Nat.div_one, List.range'_succ, List.range'_zero, List.forIn_cons, List.forIn_nil, Nat.zero_add, Nat.reduceAdd]; simp only [Sem.run_bind, Result.andThen_ok, p0, p1, p2, p3, r0, r1, r2, r3, e0, e1, e2, e3]
  cases b0 <;> cases b1 <;> cases b2 <;> cases b3 <;> simp [Sem.run_bind, Sem.run_pure, Result.andThen_ok, p0, p1, p2, p3, r0, r1, r2, r3, e0, e1, e2, e3]
theorem sm_guard (op : BinOp) (u v : Operand) (X Y : Nat → Int) (w : World) : (eqGuard op 108 u v (.agg (smC X)) (.agg (smC Y))).run Tryz.prog w = .ok () w := by
  have h : (Tryz.prog.eqGuardType Tryz.prog.depth 108) = false := by kernel_rfl
  unfold eqGuard
  cases op <;> simp [h]
theorem smEq_iff {X Y : Nat → Int} (hX : ∀ m, m < 4 → In384 (X m)) (hY : ∀ m, m < 4 → In384 (Y m)) : smEq X Y = true ↔ ∀ m, m < 4 → X m = Y m := by
  unfold smEq
  simp only [Bool.and_eq_true, decide_eq_true_eq]
  constructor
  · rintro ⟨h0, h1, h2, h3⟩ m hm
    rcases lt4 hm with rfl | rfl | rfl | rfl
    · exact W6.of_inj (hX 0 hm) (hY 0 hm) h0
    · exact W6.of_inj (hX 1 hm) (hY 1 hm) h1
    · exact W6.of_inj (hX 2 hm) (hY 2 hm) h2
    exact W6.of_inj (hX 3 hm) (hY 3 hm) h3
  intro h; rw [h 0 (by decide), h 1 (by decide), h 2 (by decide), h 3 (by decide)]
  exact ⟨rfl, rfl, rfl, rfl⟩
section
variable {R : Option Nat} {ops : Array Oper} {Q : Exit → Act → World → Prop} {B : World} {F : List Nat} {s0 : Option (List Blk × List Blk)}
variable {l : List (Oper × Nat)} {a : Act} {s : List Blk} {d : Option Tmp} {t : TypeId} {p : String} {af : Array Edge} {gd : Option (Nat × Bool)} {m : Nat}
theorem rfb_neS {x y : Operand} {z : TypeId} (X Y : Nat → Int) (hm : soft03 m = true) (hg : Region.wanted ⟨d, .binOp .neq 108 x y z, t, p, af, gd⟩ (yielded ops a.tmps) = true)
    (hx : a.eval x = .agg (smC X)) (hy : a.eval y = .agg (smC Y)) (h : ∀ b, (!smEq X Y) = b → Rg R Tryz.prog ops Q B F s0 l (a.put d (.bool b)) s) : Rg R Tryz.prog ops Q B F s0 ((⟨d, .binOp .neq 108 x y z, t, p, af, gd⟩, m) :: l) a s := by
  refine rg_any hm hg (fun w => ?_) (h _ rfl)
  unfold Yld
  have hb : (binOp .neq 108 (.agg (smC X)) (.agg (smC Y))).run Tryz.prog w = .ok (.bool (!smEq X Y)) w := by rw [run_neq_struct, sm_eqIn]; rfl
  have hgd := sm_guard .neq x y X Y w
  show ((eqGuard .neq _ x y (a.eval x) (a.eval y) >>= fun _ => binOp .neq _ (a.eval x) (a.eval y)) >>= fun r => pure (Next.value r)).run Tryz.prog w = _
  rw [hx, hy, Sem.run_bind, Sem.run_bind, hgd, Result.andThen_ok, hb]
  rfl
end
def rowS (xs : List Nm) (N : Nat) (K : Int) (i j : Nat) : Nat → Nat → Int
  | 0 => fun _ => 0
  | n + 1 => fun m => rowS xs N K i j n m + acc (acc (sel4 1 0 0 0) (sel4 ((nm xs (i * N + n)).to K).a ((nm xs (i * N + n)).to K).b ((nm xs (i * N + n)).to K).c ((nm xs (i * N + n)).to K).d) 16)
      (sel4 ((nm xs (j * N + n)).to K).a (-((nm xs (j * N + n)).to K).d) (-((nm xs (j * N + n)).to K).c) (-((nm xs (j * N + n)).to K).b)) 16 m
def wantS (K : Int) (i j : Nat) : Nat → Int := if i = j then upd (fun _ => 0) 0 (2 ^ K.toNat) else fun _ => 0
theorem sm_over {T T' : Nat → Int} : setMany (smC T) 0 (smC T').toList = smC T' := by kernel_rfl
theorem pow40 {k : Nat} (h : k ≤ 40) : 1 ≤ (2 : Int) ^ k ∧ (2 : Int) ^ k ≤ 1099511627776 := by
  have h1 := Nat.pow_le_pow_right (n := 2) Ox h
  have h2 := Nat.one_le_two_pow (n := k)
  have e : ((2 ^ k : Nat) : Int) = (2 : Int) ^ k := by simp
  have e2 : (2 : Nat) ^ 40 = 1099511627776 := by decide
  omega
theorem entry_fit {xs : List Nm} {N : Nat} {K : Int} (hok : allOk xs = true) (hlen : xs.length = N * N) (hN : N ≤ 6) {i k : Nat} (hi : i < N) (hk : k < N) (hK : K ≤ 40) (hKz : ∀ z ∈ xs, z.k ≤ K) :
    (nm xs (i * N + k)).Fit 1000000000 ∧ 0 ≤ (nm xs (i * N + k)).k ∧ (nm xs (i * N + k)).k ≤ K ∧ ((nm xs (i * N + k)).to K).Fit 1048576000000000 := by
  have hx := ix_small hi hN
  have hlt : i * N + k < xs.length := by omega
  have h := ok_at hok hlt
  have hm := hKz _ (NmE.at_mem hlt)
  refine ⟨h.fit, h.k0, hm, ?_⟩
  unfold Nm.to
  exact Nm.up40_fit h.fit (by have := h.k0; omega)
set_option maxHeartbeats 2000000 in
theorem unitary_walk (N : Nat) (K : Int) (xs : List Nm) (a : Option Addr) (c : Nat) (hN1 : 1 ≤ N) (hN : N ≤ 6) (hlen : Hid (xs.length = N * N)) (hl36 : xs.length ≤ 36) (hok : allOk xs = true) (hv : Hid (validB N xs = true)) (hK : Hid (expo xs = K)) (hK0 : 0 ≤ K) (hK40 : K ≤ 40) (hKz : ∀ z ∈ xs, z.k ≤ K) (w : World) (hA : AS w a (nms xs)) : Calls Tryz.prog 32 #[.agg #[.int .i64 N, .slice a xs.length c]] w fun e w' => ∃ b, e = .returned (.tuple #[.bool b, .int .i64 0]) ∧ (b = true ↔ ∀ i j, i < N → j < N → smEq (rowS xs N K i j N) (wantS K i j) = true) ∧ Below w.heap.size w w' := by
 have hl : xs.length ≤ 1000000 := by omega
 go_enter Tryz.func32, Tryz.ntmps32
 refine wk_start ?_
 refine wk_seq ?_
 refine wk_region [1, 0, 0] rfl Kx ?_
 simp only [qy]
 refine Rgn fun g1 => ?_
 refine Zm ?_
 refine rg_nil (ek_next (wk_seq (wk_seq ?_)))
 refine wk_region [0, 1, 0] rfl Kx ?_
 simp only [qy]
 refine rf_loadR (n := 2) rfl rfl rfl Tryz.underlying24 rfl Kx (fun w hw => Kn.hd0 hw) rfl rfl ?_
 simp only [qz]
 apply rg_pure Rx Kx
 case hargs => exact Ax
 case h => exact fun w hw => by have := mvalid_any N xs a c hl w (hA.kn0 hw); rw [hv.out] at this; exact this
 case hz => exact Nz
 simp only [qz]
 refine rf_not rfl rfl rfl ?_
 simp only [qz]
 refine rg_nil (ek_next (wk_cond_f rfl (wk_skip (ek_next ?_))))
 refine wk_cutF [4, 5, 16, 17, 18, 19, 20] (fun f s => ∃ (gt : Nat), f 4 = .pointer (some ⟨gt, 0, none⟩) ∧ f 5 = .int .i64 K ∧ s = ((gt, .cells #[.int .i64 N, .slice a xs.length c] 69) :: ((g1, .cells #[.int .i64 N, .slice a xs.length c] 24) :: []))) ?_ ?_
 ·refine wk_rt _ Kx (sc _ sn) ?_
  refine rt_soft (i := 0) rfl Kx (fun c d v a w h => by cases d <;> exact h) (sc _ sn) ?_; refine rf_loadR (n := 2) rfl rfl rfl Tryz.underlying24 rfl Kx (fun w hw => Kn.hd0 hw) rfl rfl ?_; simp only [qz]; refine rg_nil ?_; refine ek_rt (sc _ sn) ?_; refine rt_soft (i := 1) rfl Kx (fun c d v a w h => by cases d <;> exact h) (sc _ sn) ?_; refine rf_build (cs := fun a => #[cellAt (a.eval (.tmp 16)) 0, cellAt (a.eval (.tmp 16)) 1]) rfl rfl Kx ?_
  simp only [qz]; refine rg_nil ?_; refine ek_rt (sc _ sn) ?_; refine rt_soft (i := 2) rfl Kx (fun c d v a w h => by cases d <;> exact h) (sc _ sn) ?_; refine rf_field (n := 0) (j := 1) rfl rfl rfl Tryz.underlying24 rfl Kx rfl ?_; simp only [qz]; refine rg_nil ?_; refine ek_rt (sc _ sn) ?_; refine rt_soft (i := 3) rfl Kx (fun c d v a w h => by cases d <;> exact h) (sc _ sn) ?_; refine rf_load rfl rfl rfl Tryz.underlying22 rfl (fun w hw => (Kn.hd0 hw).at rfl) ?_
  simp only [qz]; refine rg_nil ?_; refine ek_rt (sc _ sn) ?_; refine rt_hard2 (i := 4) (j := 5) Kx rfl rfl ?_ ?_
  ·apply rg_pure Rx Kx
   case hargs => exact Ax
   case h => exact fun w hw => by have := exponent_any xs a c hl w (hA.kn0 hw); rw [hK.out] at this; exact this
   case hz => exact (fun _ h => by cases h; exact (sc _ sn))
   simp only [qz]; refine rg_nil ?_; refine ek_rt (sc _ sn) ?_; refine rt_hard1 (i := 5) Kx rfl ?_
   refine rg_new (cs := ?_) (ty := ?_) Rx (fun w => ?_) (fun _ h => by cases h; exact (sc _ sn)) (fun g2 => ?_); rotate_left 2
   focus (go_simp; rfl)
   simp only [qz]; refine rg_nil ?_; refine ek_rt (sk _ (sc _ sn)) ?_; refine rt_hard1 (i := 6) Kx rfl ?_; refine rf_storeR (n := 2) rfl rfl Kx rfl rfl (UpdR.here _ _ _ Nl) (fun _ h => by cases h; exact (sk _ (sc _ sn))) ?_; simp only [qz, Nat.reduceAdd]; refine rg_nil ?_; refine ek_rt (sk _ (sc _ sn)) ?_; refine rt_soft (i := 7) rfl Kx (fun c d v a w h => by cases d <;> exact h) (sk _ (sc _ sn)) ?_; refine rg_assign ?_
   simp only [qz]; refine rg_nil ?_; refine ek_rt (sk _ (sc _ sn)) ?_; refine rt_nil Kx ?_; refine ek_midF Kx ?_
   exact ⟨g2, rfl, rfl, by rfl⟩
  refine rg_new (cs := ?_) (ty := ?_) Rx (fun w => ?_) (fun _ h => by cases h; exact (sc _ sn)) (fun g3 => ?_); rotate_left 2
  focus (go_simp; rfl)
  simp only [qz]; refine rg_nil ?_; refine ek_rt (sk _ (sc _ sn)) ?_; refine rt_hard1 (i := 4) Kx rfl ?_; apply rg_pure Rx Kx
  case hargs => exact Ax
  case h => exact fun w hw => by have := exponent_any xs a c hl w (hA.kn0 hw); rw [hK.out] at this; exact this
  case hz => exact (fun _ h => by cases h; exact (sk _ (sc _ sn)))
  simp only [qz]; refine rg_nil ?_; refine ek_rt (sk _ (sc _ sn)) ?_; refine rt_hard1 (i := 6) Kx rfl ?_; refine rf_storeR (n := 2) rfl rfl Kx rfl rfl (UpdR.here _ _ _ Nl) (fun _ h => by cases h; exact (sk _ (sc _ sn))) ?_; simp only [qz, Nat.reduceAdd]; refine rg_nil ?_; refine ek_rt (sk _ (sc _ sn)) ?_; refine rt_soft (i := 7) rfl Kx (fun c d v a w h => by cases d <;> exact h) (sk _ (sc _ sn)) ?_; refine rg_assign ?_
  simp only [qz]; refine rg_nil ?_; refine ek_rt (sk _ (sc _ sn)) ?_; refine rt_nil Kx ?_; refine ek_midF Kx ?_
  exact ⟨g3, rfl, rfl, by rfl⟩
 rintro f1 s ⟨gt, hs1_4, hs1_5, rfl⟩
 simp only [Act.putF, List.foldl_cons, List.foldl_nil, hs1_4, hs1_5, Act.put, Act.eval, q1, q2, q3, q4, q5, q6, q7, q8, q9, q10, q11, q12, q13, q14, q15, q16, q17, q18, Nat.reduceAdd, Bool.not_true, Bool.not_false]
 clear hs1_4 hs1_5
 refine wk_seq (wk_seq ?_)
 refine wk_region [0, 0, 0] rfl Kx ?_
 simp only [qy]
 refine rf_field (n := 0) (j := 0) rfl rfl rfl Tryz.underlying24 rfl Kx rfl ?_
 simp only [qz]
 refine rf_load rfl rfl rfl Tryz.underlying3 rfl (fun w hw => (Kn.hd0 (Kn.tl hw)).at rfl) ?_
 refine Zm ?_
 refine rg_nil (ek_next (wk_block ?_))
 refine wk_loopF [2, 3, 6, 7, 8, 9, 10, 11, 12, 23, 24, 25, 26, 27, 28, 29, 30, 31, 32, 33, 34, 35, 36, 37, 38, 39, 40, 41, 42, 43, 44, 45, 46, 47, 48, 49, 50, 51, 52, 53, 54, 55, 56, 57, 58, 59, 60, 61, 62, 63, 64, 65, 66, 67, 68, 69, 70, 71, 72, 73, 74, 75, 76, 77, 78] (fun mz f s => ∃ (i : Nat), f 23 = .int .i64 i ∧ s = ((gt, .cells #[.int .i64 N, .slice a xs.length c] 69) :: ((g1, .cells #[.int .i64 N, .slice a xs.length c] 24) :: [])) ∧ mz = N - i ∧ i ≤ N ∧ (∀ i2, i2 < i → ∀ j2, j2 < N → smEq (rowS xs N K i2 j2 N) (wantS K i2 j2) = true)) ((fun (i : Nat) => N - i) (0)) ?_ Kx ?_
 ·exact ⟨0, rfl, rfl, rfl, by omega, fun _ h => by omega⟩
 rintro mz f2 s ⟨i, hs2_23, rfl, hn, hd1, hd2⟩
 simp only [Act.putF, List.foldl_cons, List.foldl_nil, hs2_23, Act.put, Act.eval, q1, q2, q3, q4, q5, q6, q7, q8, q9, q10, q11, q12, q13, q14, q15, q16, q17, q18, Nat.reduceAdd, Bool.not_true, Bool.not_false]
 clear hs2_23
 refine wk_seq ?_
 refine wk_region [0] rfl Kx ?_
 simp only [qy]
 refine rfb_lss rfl rfl rfl rfl ?_
 intro x h1
 cases x
 ·(try simp only [qd, ne_eq] at h1)
  simp only [qz]; refine rg_nil (ek_next (wk_seq (wk_cond_f rfl (wk_exit (ek_then_exit (ek_then_exit (ek_block_exit (ek_next (wk_seq ?_))))))))); refine wk_region [0, 0] rfl Kx ?_; refine Zm ?_; refine rg_nil (ek_next (wk_ret ?_)); refine ek_ret (fun w hw => ⟨rfl, _, res_tt _ _ rfl, ?_⟩); (try simp only [qz])
  exact ⟨true, rfl, ⟨fun _ i2 j2 hi hj => hd2 i2 Ox j2 hj, fun _ => rfl⟩, hw.below⟩
 (try simp only [qd, ne_eq] at h1)
 simp only [qz]
 refine rg_nil (ek_next (wk_seq (wk_cond_t rfl (wk_skip (ek_next (wk_seq (wk_block (wk_seq ?_))))))))
 refine wk_region [0, 0] rfl Kx ?_
 refine Zm ?_
 refine rg_nil (ek_next (wk_seq ?_))
 refine wk_region [0, 0, 0] rfl Kx ?_
 simp only [qy]
 refine rf_field (n := 0) (j := 0) rfl rfl rfl Tryz.underlying24 rfl Kx rfl ?_
 simp only [qz]
 refine rf_load rfl rfl rfl Tryz.underlying3 rfl (fun w hw => (Kn.hd0 (Kn.tl hw)).at rfl) ?_
 refine Zm ?_
 refine rg_nil (ek_next (wk_block ?_))
 refine wk_loopF [2, 3, 7, 8, 9, 10, 11, 12, 28, 29, 30, 31, 32, 33, 34, 35, 36, 37, 38, 39, 40, 41, 42, 43, 44, 45, 46, 47, 48, 49, 50, 51, 52, 53, 54, 55, 56, 57, 58, 59, 60, 61, 62, 63, 64, 65, 66, 67, 68, 69, 70, 71, 72, 73, 74, 75, 76, 77] (fun mz f s => ∃ (j : Nat), f 28 = .int .i64 j ∧ s = ((gt, .cells #[.int .i64 N, .slice a xs.length c] 69) :: ((g1, .cells #[.int .i64 N, .slice a xs.length c] 24) :: [])) ∧ mz = N - j ∧ j ≤ N ∧ (∀ j2, j2 < j → smEq (rowS xs N K i j2 N) (wantS K i j2) = true)) ((fun (j : Nat) => N - j) (0)) ?_ Kx ?_
 ·exact ⟨0, rfl, rfl, rfl, by omega, fun _ h => by omega⟩
 rintro mz f3 s ⟨j, hs3_28, rfl, hn, he1, he2⟩
 simp only [Act.putF, List.foldl_cons, List.foldl_nil, hs3_28, Act.put, Act.eval, q1, q2, q3, q4, q5, q6, q7, q8, q9, q10, q11, q12, q13, q14, q15, q16, q17, q18, Nat.reduceAdd, Bool.not_true, Bool.not_false]
 clear hs3_28
 refine wk_seq ?_
 refine wk_region [0] rfl Kx ?_
 simp only [qy]
 refine rfb_lss rfl rfl rfl rfl ?_
 intro x h2
 cases x
 ·(try simp only [qd, ne_eq] at h2)
  simp only [qz]; refine rg_nil (ek_next (wk_seq (wk_cond_f rfl (wk_exit (ek_then_exit (ek_then_exit (ek_block_exit (ek_block (ek_next ?_))))))))); refine wk_region [0, 0] rfl Kx ?_; simp only [qy]; refine rf_add rfl rfl rfl rfl (wrap_ok Ox Ox) ?_; refine Zm ?_; refine rg_nil ?_
  obtain rfl : N = j := by omega
  refine ek_roundF (N - (i + 1)) Ox Kx ?_
  exact ⟨i + 1, rfl, by rfl, by rfl, Ox, (fun i2 hi2 j2 hj2 => by rcases (by omega : i2 < i ∨ i2 = i) with h | rfl; exact hd2 i2 h j2 hj2; exact he2 j2 hj2)⟩
 (try simp only [qd, ne_eq] at h2)
 simp only [qz]
 refine rg_nil (ek_next (wk_seq (wk_cond_t rfl (wk_skip (ek_next (wk_seq (wk_block (wk_seq ?_))))))))
 refine wk_region [0, 0] rfl Kx ?_
 refine Zm ?_
 refine rg_nil (ek_next (wk_seq ?_))
 refine wk_region [1, 1] rfl Kx ?_
 simp only [qy]
 refine Rgn fun g4 => ?_
 simp only [qz]
 refine Rgn fun g5 => ?_
 simp only [qz]
 refine rg_nil (ek_next (wk_seq (wk_seq ?_)))
 rw [sm_zero]
 refine wk_region [0, 0, 0] rfl Kx ?_
 simp only [qy]
 refine rf_field (n := 0) (j := 0) rfl rfl rfl Tryz.underlying24 rfl Kx rfl ?_
 simp only [qz]
 refine rf_load rfl rfl rfl Tryz.underlying3 rfl (fun w hw => (Kn.hd0 (Kn.tl (Kn.tl (Kn.tl hw)))).at rfl) ?_
 refine Zm ?_
 refine rg_nil (ek_next (wk_block ?_))
 refine wk_loopF [10, 11, 12, 33, 34, 35, 36, 37, 38, 39, 40, 41, 42, 43, 44, 45, 46, 47, 48, 49, 50, 51, 52, 53, 54, 55, 56, 57, 58, 59, 60, 61, 62, 63, 64, 65, 66] (fun mz f s => ∃ (n : Nat), f 33 = .int .i64 n ∧ s = ((g5, .cells (smC fun _ => 0) 108) :: ((g4, .cells (smC (rowS xs N K i j n)) 108) :: ((gt, .cells #[.int .i64 N, .slice a xs.length c] 69) :: ((g1, .cells #[.int .i64 N, .slice a xs.length c] 24) :: [])))) ∧ mz = N - n ∧ n ≤ N) ((fun (n : Nat) => N - n) (0)) ?_ Kx ?_
 ·exact ⟨0, rfl, rfl, rfl, by omega⟩
 rintro mz f4 s ⟨n, hs4_33, rfl, hn, hf1⟩
 simp only [Act.putF, List.foldl_cons, List.foldl_nil, hs4_33, Act.put, Act.eval, q1, q2, q3, q4, q5, q6, q7, q8, q9, q10, q11, q12, q13, q14, q15, q16, q17, q18, Nat.reduceAdd, Bool.not_true, Bool.not_false]
 clear hs4_33
 refine wk_seq ?_
 refine wk_region [0] rfl Kx ?_
 simp only [qy]
 refine rfb_lss rfl rfl rfl rfl ?_
 intro x h3
 cases x
 ·(try simp only [qd, ne_eq] at h3)
  simp only [qz]; refine rg_nil (ek_next (wk_seq (wk_cond_f rfl (wk_exit (ek_then_exit (ek_then_exit (ek_block_exit (ek_next (wk_seq (wk_seq ?_))))))))))
  obtain rfl : N = n := by omega
  refine wk_region [0, 0, 0] rfl Kx ?_; refine Zm ?_; refine rfb_eql rfl rfl rfl rfl ?_; intro x h4; cases x
  ·(try simp only [qd, ne_eq] at h4)
   simp only [qz]; refine rg_nil (ek_next (wk_cond_f rfl (wk_skip (ek_next (wk_seq ?_))))); refine wk_region [0, 0, 0] rfl Kx ?_; simp only [qy]; refine rf_loadC (n := 24) (vs := (smC (rowS xs N K i j N)).toList) rfl rfl rfl Tryz.underlying108 rfl Kx rfl (fun w hw => sm_all (Kn.hd0 (Kn.tl hw))) ?_; rw [show (smC (rowS xs N K i j N)).toList.toArray = smC (rowS xs N K i j N) by simp]; simp only [qz]; refine rf_loadC (n := 24) (vs := (smC (fun _ => 0)).toList) rfl rfl rfl Tryz.underlying108 rfl Kx rfl (fun w hw => sm_all (Kn.hd0 hw)) ?_
   rw [show (smC (fun _ => 0)).toList.toArray = smC (fun _ => 0) by simp]; simp only [qz]; refine rfb_neS (rowS xs N K i j N) (fun _ => 0) rfl rfl rfl rfl ?_; intro x h5; cases x
   ·(try simp only [qd, ne_eq] at h5)
    simp only [qz]
    have hgood : smEq (rowS xs N K i j N) (wantS K i j) = true := by (unfold wantS; rw [if_neg Ox]; simpa using h5)
    refine rg_nil (ek_next (wk_cond_f rfl (wk_skip (ek_block (ek_next ?_))))); refine wk_region [0, 0] rfl Kx ?_; simp only [qy]; refine rf_add rfl rfl rfl rfl (wrap_ok Ox Ox) ?_; refine Zm ?_; refine rg_nil ?_; refine ek_sub (sk _ (sk _ (sc _ (sc _ sn)))) ?_; refine ek_roundF (N - (j + 1)) Ox Kx ?_
    exact ⟨j + 1, rfl, by rfl, by rfl, Ox, (fun j2 hj2 => by rcases (by omega : j2 < j ∨ j2 = j) with h | rfl; exact he2 j2 h; exact hgood)⟩
   (try simp only [qd, ne_eq] at h5); simp only [qz]
   have hgood : smEq (rowS xs N K i j N) (wantS K i j) = false := by (unfold wantS; rw [if_neg Ox]; simpa using h5)
   refine rg_nil (ek_next (wk_cond_t rfl (wk_seq ?_))); refine wk_region [0, 0] rfl Kx ?_; refine Zm ?_; refine rg_nil (ek_next (wk_ret (ek_block_ret (ek_then_ret (ek_then_ret (ek_block_ret (ek_block_ret (ek_then_ret (ek_then_ret (ek_block_ret (ek_then_ret ?_))))))))))); refine ek_ret (fun w hw => ⟨rfl, _, res_tt _ _ rfl, ?_⟩); (try simp only [qz])
   exact ⟨false, rfl, ⟨fun h => (by cases h), fun h => by rw [h i j Ox Ox] at hgood; cases hgood⟩, hw.below⟩
  (try simp only [qd, ne_eq] at h4); simp only [qz]; refine rg_nil (ek_next (wk_cond_t rfl ?_))
  have hpw := pow40 (k := K.toNat) Ox
  refine wk_region [0, 0, 1, 0, 1] rfl Kx ?_; refine Zm ?_; refine rf_shlV (c := K.toNat) (q := 2 ^ K.toNat) rfl rfl rfl rfl Ox (by show K.toNat ≤ 64; omega) rfl (r := 2 ^ K.toNat) (by rw [Int.one_mul]; exact wrap_ok Ox Ox) ?_; simp only [qz]; apply rg_pure Rx Kx
  case hargs => exact Ax
  case h => exact fun w hw => w6whole_any (2 ^ K.toNat) Ox Ox w
  case hz => exact Nz
  simp only [qz]; refine rf_indexA (n := 0) (sz := 6) (j := 0) rfl rfl rfl rfl Tryz.underlying108 Kx (by decide) rfl ?_; simp only [qz]; refine rf_storeR (n := 6) (vs := w6L (W6.of (2 ^ K.toNat))) rfl rfl Kx rfl rfl (UpdR.here _ _ _ Nl) Nz ?_; rw [show setMany (smC fun _ => 0) 0 (w6L (W6.of (2 ^ K.toNat))) = smC (upd (fun _ => 0) 0 (2 ^ K.toNat)) from sm_set (m := 0) (by decide)]; simp only [qz, Nat.reduceAdd]
  refine rg_nil (ek_next (wk_seq ?_)); refine wk_region [0, 0, 0] rfl Kx ?_; simp only [qy]; refine rf_loadC (n := 24) (vs := (smC (rowS xs N K i j N)).toList) rfl rfl rfl Tryz.underlying108 rfl Kx rfl (fun w hw => sm_all (Kn.hd0 (Kn.tl hw))) ?_; rw [show (smC (rowS xs N K i j N)).toList.toArray = smC (rowS xs N K i j N) by simp]; simp only [qz]; refine rf_loadC (n := 24) (vs := (smC (upd (fun _ => 0) 0 (2 ^ K.toNat))).toList) rfl rfl rfl Tryz.underlying108 rfl Kx rfl (fun w hw => sm_all (Kn.hd0 hw)) ?_
  rw [show (smC (upd (fun _ => 0) 0 (2 ^ K.toNat))).toList.toArray = smC (upd (fun _ => 0) 0 (2 ^ K.toNat)) by simp]; simp only [qz]; refine rfb_neS (rowS xs N K i j N) (upd (fun _ => 0) 0 (2 ^ K.toNat)) rfl rfl rfl rfl ?_; intro x h6; cases x
  ·(try simp only [qd, ne_eq] at h6)
   simp only [qz]
   have hgood : smEq (rowS xs N K i j N) (wantS K i j) = true := by (unfold wantS; rw [if_pos Ox]; simpa using h6)
   refine rg_nil (ek_next (wk_cond_f rfl (wk_skip (ek_block (ek_next ?_))))); refine wk_region [0, 0] rfl Kx ?_; simp only [qy]; refine rf_add rfl rfl rfl rfl (wrap_ok Ox Ox) ?_; refine Zm ?_; refine rg_nil ?_; refine ek_sub (sk _ (sk _ (sc _ (sc _ sn)))) ?_; refine ek_roundF (N - (j + 1)) Ox Kx ?_
   exact ⟨j + 1, rfl, by rfl, by rfl, Ox, (fun j2 hj2 => by rcases (by omega : j2 < j ∨ j2 = j) with h | rfl; exact he2 j2 h; exact hgood)⟩
  (try simp only [qd, ne_eq] at h6); simp only [qz]
  have hgood : smEq (rowS xs N K i j N) (wantS K i j) = false := by (unfold wantS; rw [if_pos Ox]; simpa using h6)
  refine rg_nil (ek_next (wk_cond_t rfl (wk_seq ?_))); refine wk_region [0, 0] rfl Kx ?_; refine Zm ?_; refine rg_nil (ek_next (wk_ret (ek_block_ret (ek_then_ret (ek_then_ret (ek_block_ret (ek_block_ret (ek_then_ret (ek_then_ret (ek_block_ret (ek_then_ret ?_))))))))))); refine ek_ret (fun w hw => ⟨rfl, _, res_tt _ _ rfl, ?_⟩); (try simp only [qz])
  exact ⟨false, rfl, ⟨fun h => (by cases h), fun h => by rw [h i j Ox Ox] at hgood; cases hgood⟩, hw.below⟩
 (try simp only [qd, ne_eq] at h3)
 simp only [qz]
 refine rg_nil (ek_next (wk_seq (wk_cond_t rfl (wk_skip (ek_next (wk_seq (wk_block (wk_seq ?_))))))))
 refine wk_region [0, 0] rfl Kx ?_
 refine Zm ?_
 refine rg_nil (ek_next (wk_seq ?_))
 have fj := entry_fit (xs := xs) (N := N) (K := K) hok hlen.out hN (i := j) (k := n) Ox Ox hK40 hKz
 obtain ⟨fa0, fa1, fb0, fb1, fc0, fc1, fd0, fd1⟩ := id fj.2.2.2
 have fi := entry_fit (xs := xs) (N := N) (K := K) hok hlen.out hN (i := i) (k := n) Ox Ox hK40 hKz
 obtain ⟨ga0, ga1, gb0, gb1, gc0, gc1, gd0, gd1⟩ := id fi.2.2.2
 refine wk_region [0, 0, 0, 1, 0, 1, 1, 1] rfl Kx ?_
 simp only [qy]
 refine rf_loadR (n := 2) rfl rfl rfl Tryz.underlying69 rfl Kx (fun w hw => Kn.hd0 (Kn.tl (Kn.tl hw))) rfl rfl ?_
 refine Zm ?_
 apply rg_pure Rx Kx
 case hargs => exact Ax
 case h => exact fun w hw => at_any N j n xs a c hlen.out hN Ox Ox w (hA.kn0 hw)
 case hz => exact Nz
 refine Zm ?_
 apply rg_pure Rx Kx
 case hargs => exact Ax
 case h => exact fun w hw => scaled_any (nm xs (j * N + n)) K fj.1 fj.2.1 fj.2.2.1 hK40 w
 case hz => exact Nz
 simp only [qz]
 refine Rgn fun g6 => ?_
 simp only [qz]
 refine rf_storeR (n := 4) rfl rfl Kx rfl rfl (UpdR.here _ _ _ Nl) Nz ?_
 simp only [qz, Nat.reduceAdd]
 refine rg_nil (ek_next (wk_seq ?_))
 refine wk_region [0, 0, 0, 0, 0, 0, 0, 0, 0, 0, 0, 0, 1, 1] rfl Kx ?_
 simp only [qy]
 refine rf_indexA (n := 0) (sz := 1) (j := 0) rfl rfl rfl rfl Tryz.underlying53 Kx (by decide) rfl ?_
 simp only [qz]
 refine rf_load rfl rfl rfl Tryz.underlying3 rfl (fun w hw => (Kn.hd0 hw).at rfl) ?_
 simp only [qz]
 refine rf_indexA (n := 3) (sz := 1) (j := 3) rfl rfl rfl rfl Tryz.underlying53 Kx (by decide) rfl ?_
 simp only [qz]
 refine rf_load rfl rfl rfl Tryz.underlying3 rfl (fun w hw => (Kn.hd0 hw).at rfl) ?_
 simp only [qz]
 refine rf_neg rfl rfl rfl (wrap_ok Ox Ox) ?_
 simp only [qz]
 refine rf_indexA (n := 2) (sz := 1) (j := 2) rfl rfl rfl rfl Tryz.underlying53 Kx (by decide) rfl ?_
 simp only [qz]
 refine rf_load rfl rfl rfl Tryz.underlying3 rfl (fun w hw => (Kn.hd0 hw).at rfl) ?_
 simp only [qz]
 refine rf_neg rfl rfl rfl (wrap_ok Ox Ox) ?_
 simp only [qz]
 refine rf_indexA (n := 1) (sz := 1) (j := 1) rfl rfl rfl rfl Tryz.underlying53 Kx (by decide) rfl ?_
 simp only [qz]
 refine rf_load rfl rfl rfl Tryz.underlying3 rfl (fun w hw => (Kn.hd0 hw).at rfl) ?_
 simp only [qz]
 refine rf_neg rfl rfl rfl (wrap_ok Ox Ox) ?_
 simp only [qz]
 refine rf_build (cs := fun a => #[a.eval (.tmp 43), a.eval (.tmp 46), a.eval (.tmp 49), a.eval (.tmp 52)]) rfl rfl Kx ?_
 simp only [qz]
 refine Rgn fun g7 => ?_
 simp only [qz]
 refine rf_storeR (n := 4) rfl rfl Kx rfl rfl (UpdR.here _ _ _ Nl) Nz ?_
 simp only [qz, Nat.reduceAdd]
 refine rg_nil (ek_next ?_)
 refine wk_draws_m (hz1 := (sc _ (sc _ (sc _ (sk _ (sc _ (sc _ sn))))))) [(0, 0), (2, 0), (3, 0), (4, 0), (6, 0), (9, 0), (1, 1), (5, 1), (7, 1), (8, 1), (10, 1), (11, 1), (12, 2)] 12 Kx Kx (fun c d v a w h => by cases d <;> exact h) ?_
 simp only [List.map_cons, List.map_nil, List.getD_cons_zero, List.getD_cons_succ]
 refine rf_loadC (n := 24) (vs := (smC (rowS xs N K i j n)).toList) rfl rfl rfl Tryz.underlying108 rfl Kx rfl (fun w hw => sm_all (Kn.hd0 (Kn.tl (Kn.tl (Kn.tl hw))))) ?_
 rw [show (smC (rowS xs N K i j n)).toList.toArray = smC (rowS xs N K i j n) by simp]
 simp only [qz]
 refine rf_loadR (n := 2) rfl rfl rfl Tryz.underlying69 rfl Kx (fun w hw => Kn.hd0 (Kn.tl (Kn.tl (Kn.tl (Kn.tl hw))))) rfl rfl ?_
 refine Zm ?_
 refine rf_loadR (n := 4) rfl rfl rfl Tryz.underlying53 rfl Kx (fun w hw => Kn.hd0 hw) rfl rfl ?_
 simp only [qz]
 apply rg_pure Rx Kx
 case hargs => exact Ax
 case h => exact fun w hw => smone_any w
 case hz => exact (fun _ h => by cases h; exact (sc _ (sc _ (sc _ (sc _ (sc _ (sc _ sn)))))))
 simp only [qz]
 apply rg_pure Rx Kx
 case hargs => exact Ax
 case h => exact fun w hw => at_any N i n xs a c hlen.out hN Ox Ox w (hA.kn0 hw)
 case hz => exact (fun _ h => by cases h; exact (sc _ (sc _ (sc _ (sc _ (sc _ (sc _ sn)))))))
 simp only [qz]
 apply rg_pure Rx Kx
 case hargs => exact Ax
 case h => exact fun w hw => scaled_any (nm xs (i * N + n)) K fi.1 fi.2.1 fi.2.2.1 hK40 w
 case hz => exact (fun _ h => by cases h; exact (sc _ (sc _ (sc _ (sc _ (sc _ (sc _ sn)))))))
 simp only [qz]
 apply rg_pure Rx Kx
 case hargs => exact Ax
 case h => exact fun w hw => smtimes_any (sel4 1 0 0 0) (sel4 ((nm xs (i * N + n)).to K).a ((nm xs (i * N + n)).to K).b ((nm xs (i * N + n)).to K).c ((nm xs (i * N + n)).to K).d) (sel_cases (by simp only [sel4]; omega) (by simp only [sel4]; omega) (by simp only [sel4]; omega) (by simp only [sel4]; omega)) w
 case hz => exact (fun _ h => by cases h; exact (sc _ (sc _ (sc _ (sc _ (sc _ (sc _ sn)))))))
 simp only [qz]
 apply rg_pure Rx Kx
 case hargs => exact Ax
 case h => exact fun w hw => smtimes_any (acc (sel4 1 0 0 0) (sel4 ((nm xs (i * N + n)).to K).a ((nm xs (i * N + n)).to K).b ((nm xs (i * N + n)).to K).c ((nm xs (i * N + n)).to K).d) 16) (sel4 ((nm xs (j * N + n)).to K).a (-((nm xs (j * N + n)).to K).d) (-((nm xs (j * N + n)).to K).c) (-((nm xs (j * N + n)).to K).b)) (sel_cases (by simp only [sel4]; omega) (by simp only [sel4]; omega) (by simp only [sel4]; omega) (by simp only [sel4]; omega)) w
 case hz => exact (fun _ h => by cases h; exact (sc _ (sc _ (sc _ (sc _ (sc _ (sc _ sn)))))))
 simp only [qz]
 apply rg_pure Rx Kx
 case hargs => exact Ax
 case h => exact fun w hw => smplus_any (rowS xs N K i j n) (acc (acc (sel4 1 0 0 0) (sel4 ((nm xs (i * N + n)).to K).a ((nm xs (i * N + n)).to K).b ((nm xs (i * N + n)).to K).c ((nm xs (i * N + n)).to K).d) 16) (sel4 ((nm xs (j * N + n)).to K).a (-((nm xs (j * N + n)).to K).d) (-((nm xs (j * N + n)).to K).c) (-((nm xs (j * N + n)).to K).b)) 16) w
 case hz => exact (fun _ h => by cases h; exact (sc _ (sc _ (sc _ (sc _ (sc _ (sc _ sn)))))))
 simp only [qz]
 refine rf_storeRM (n := 24) (vs := (smC (rowS xs N K i j (n + 1))).toList) rfl rfl Kx rfl rfl (UpdR.there _ (UpdR.there _ (UpdR.there _ (UpdR.here _ _ _ Nl)))) (sc _ (sc _ (sc _ (sk _ (sc _ (sc _ sn)))))) ?_
 rw [sm_over]
 simp only [qz]
 refine rg_nil (ek_block (ek_next ?_))
 refine wk_region [0, 0] rfl Kx ?_
 simp only [qy]
 refine rf_add rfl rfl rfl rfl (wrap_ok Ox Ox) ?_
 refine Zm ?_
 refine rg_nil ?_
 refine ek_sub (sk _ (sk _ (sc _ (sc _ (sc _ (sc _ sn)))))) ?_
 refine ek_roundF (N - (n + 1)) Ox Kx ?_
 exact ⟨n + 1, rfl, by rfl, by rfl, Ox⟩
end Go.Proofs.YtccbinnlnkpplaaGreat
namespace Go.Proofs.YtccbinnlnkpplaaGreat
set_option linter.all false
set_option maxRecDepth 100000
set_option maxHeartbeats 1000000
theorem mul_b {x y A B : Int} (hx : -A ≤ x ∧ x ≤ A) (hy : -B ≤ y ∧ y ≤ B) : -(A * B) ≤ x * y ∧ x * y ≤ A * B := by
  have h1 : x.natAbs ≤ A.toNat := by omega
  have h2 : y.natAbs ≤ B.toNat := by omega
  have h3 := Nat.mul_le_mul h1 h2
  rw [← Int.natAbs_mul] at h3
  have h4 : ((A.toNat * B.toNat : Nat) : Int) = A * B := by
    rw [Int.natCast_mul, Int.toNat_of_nonneg Ox, Int.toNat_of_nonneg Ox]
  omega
theorem dh_zero : Q4.dh 0 = 0 := by
  apply Q4.ext' <;> simp only [Q4.dh, Q4.za, Q4.zb, Q4.zc, Q4.zd] <;> grind
theorem dn_zero : ∀ n, Q4.dn n 0 = 0
  | 0 => rfl
  | n + 1 => by
    show Q4.dn n (Q4.dh 0) = 0
    rw [dh_zero]; exact dn_zero n
theorem dh_two (r : Rat) : Q4.dh (Q4.dh ⟨2 * r, 0, 0, 0⟩) = ⟨r, 0, 0, 0⟩ := by
  apply Q4.ext' <;> simp only [Q4.dh] <;> grind
theorem dn_two : ∀ k : Nat, Q4.dn (k + k) ⟨(((2 : Int) ^ k : Int) : Rat), 0, 0, 0⟩ = 1
  | 0 => by
    apply Q4.ext' <;> rfl
  | k + 1 => by
    rw [show k + 1 + (k + 1) = (k + k) + 1 + 1 by omega]
    show Q4.dn (k + k) (Q4.dh (Q4.dh _)) = 1
    rw [show (((2 : Int) ^ (k + 1) : Int) : Rat) = 2 * (((2 : Int) ^ k : Int) : Rat) by
      rw [Int.pow_succ, Rat.intCast_mul]; grind, dh_two]
    exact dn_two k
theorem val_add4 (a b c d a' b' c' d' k : Int) : (⟨a + a', b + b', c + c', d + d', k⟩ : Nm).val = (⟨a, b, c, d, k⟩ : Nm).val + (⟨a', b', c', d', k⟩ : Nm).val := by
  unfold Nm.val
  rw [← Q4.dn_add]
  congr 1
  apply Q4.ext' <;> simp only [Nm.co, Q4.aa, Q4.ab, Q4.ac, Q4.ad, Rat.intCast_add]
theorem one_dl (i j : Nat) : (wantN i j).val = dl i j := by
  unfold wantN dl
  split
  · exact val_one
  exact val_zero
theorem wnum_iff {z : Nm} (h : 0 ≤ z.k) (i j : Nat) : wnum z = (wantN i j, true) ↔ z.val = dl i j := by
  rw [← one_dl]
  constructor
  · intro hw
    unfold wnum at hw
    split at hw
    · have h1 := congrArg Prod.fst hw
      dsimp only at h1
      rw [← h1]
      exact (val_eqv (nf_k h).1 h (nf_eqv z)).symm
    exact absurd (congrArg Prod.snd hw) (by simp)
  intro hv
  have hk : 0 ≤ (wantN i j).k := by unfold wantN; split <;> decide
  have h1 := nf_eq h hk (eqv_val h hk hv)
  have h2 : (wantN i j).nf = wantN i j := by unfold wantN; split <;> decide
  unfold wnum
  rw [h1, h2]
  unfold wantN
  split <;> decide
def rowN (xs : List Nm) (N : Nat) (K : Int) (i j n : Nat) : Nm := ⟨rowS xs N K i j n 0, rowS xs N K i j n 1, rowS xs N K i j n 2, rowS xs N K i j n 3, K + K⟩
theorem acc2 (x y : Nm) : (⟨acc (acc (sel4 1 0 0 0) (sel4 x.a x.b x.c x.d) 16) (sel4 y.a y.b y.c y.d) 16 0, acc (acc (sel4 1 0 0 0) (sel4 x.a x.b x.c x.d) 16) (sel4 y.a y.b y.c y.d) 16 1, acc (acc (sel4 1 0 0 0) (sel4 x.a x.b x.c x.d) 16) (sel4 y.a y.b y.c y.d) 16 2, acc (acc (sel4 1 0 0 0) (sel4 x.a x.b x.c x.d) 16) (sel4 y.a y.b y.c y.d) 16 3, 0 + x.k + y.k⟩ : Nm) = (Nm.one.mulR x).mulR y := by
  have h := acc_16 Nm.one x
  generalize hp : Nm.one.mulR x = p at h ⊢
  have ha : acc (sel4 1 0 0 0) (sel4 x.a x.b x.c x.d) 16 0 = p.a := congrArg Nm.a h
  have hb : acc (sel4 1 0 0 0) (sel4 x.a x.b x.c x.d) 16 1 = p.b := congrArg Nm.b h
  have hc : acc (sel4 1 0 0 0) (sel4 x.a x.b x.c x.d) 16 2 = p.c := congrArg Nm.c h
  have hd : acc (sel4 1 0 0 0) (sel4 x.a x.b x.c x.d) 16 3 = p.d := congrArg Nm.d h
  have hk : 0 + x.k = p.k := congrArg Nm.k h
  have hX : ∀ i, i < 4 → acc (sel4 1 0 0 0) (sel4 x.a x.b x.c x.d) 16 i = sel4 p.a p.b p.c p.d i := fun i hi => by
    rcases (by omega : i = 0 ∨ i = 1 ∨ i = 2 ∨ i = 3) with rfl | rfl | rfl | rfl
    · exact ha
    · exact hb
    · exact hc
    · exact hd
  have e := fun m => acc_congr (Y := sel4 y.a y.b y.c y.d) hX (fun _ _ => rfl) 16 m Ox
  rw [e 0, e 1, e 2, e 3, hk]
  exact acc_16 p y
theorem rowN_val {xs : List Nm} {N : Nat} {K : Int} {i j : Nat} (hi : i < N) (hj : j < N) (hk : ∀ a b, a < N → b < N → 0 ≤ (nm xs (a * N + b)).k ∧ (nm xs (a * N + b)).k ≤ K) : ∀ n, n ≤ N → (rowN xs N K i j n).val = sumQ n fun k => (nm xs (i * N + k)).val * Q4.conj (nm xs (j * N + k)).val
  | 0, _ => by
    show Q4.dn _ (Nm.co ⟨0, 0, 0, 0, K + K⟩) = 0
    exact dn_zero _
  | n + 1, hn => by
    have ih := rowN_val hi hj hk n Ox
    have h1 := hk i n hi Ox
    have h2 := hk j n hj Ox
    have k1 := Nm.to_k (z := nm xs (i * N + n)) (m := K) h1.2
    have k2 := Nm.to_k (z := nm xs (j * N + n)) (m := K) h2.2
    have e := acc2 ((nm xs (i * N + n)).to K) ((nm xs (j * N + n)).to K).conj
    have ek : 0 + ((nm xs (i * N + n)).to K).k + ((nm xs (j * N + n)).to K).conj.k = K + K := by
      show 0 + ((nm xs (i * N + n)).to K).k + ((nm xs (j * N + n)).to K).k = K + K
      omega
    rw [ek] at e
    show (rowN xs N K i j (n + 1)).val = sumQ n _ + _
    rw [← ih]
    have hv : ((Nm.one.mulR ((nm xs (i * N + n)).to K)).mulR ((nm xs (j * N + n)).to K).conj).val = (nm xs (i * N + n)).val * Q4.conj (nm xs (j * N + n)).val := by
      rw [val_mulR (by show 0 ≤ 0 + ((nm xs (i * N + n)).to K).k; omega) (by show 0 ≤ ((nm xs (j * N + n)).to K).k; omega), val_mulR (by decide) Ox, val_conj, to_up h1.1, to_up h2.1, val_one, Q4.one_mul]
    show _ = _ + (nm xs (i * N + n)).val * Q4.conj (nm xs (j * N + n)).val
    rw [← hv, ← e]
    exact val_add4 (rowS xs N K i j n 0) (rowS xs N K i j n 1) (rowS xs N K i j n 2) (rowS xs N K i j n 3) _ _ _ _ (K + K)
theorem wantS_val {K : Int} (hK : 0 ≤ K) (i j : Nat) : (⟨wantS K i j 0, wantS K i j 1, wantS K i j 2, wantS K i j 3, K + K⟩ : Nm).val = dl i j := by
  unfold wantS dl
  split
  · show Q4.dn (K + K).toNat _ = 1
    rw [show (K + K).toNat = K.toNat + K.toNat by omega]
    exact dn_two K.toNat
  exact dn_zero _
theorem wantS_b {K : Int} (hK0 : 0 ≤ K) (hK : K ≤ 40) (i j m : Nat) : 0 ≤ wantS K i j m ∧ wantS K i j m ≤ 1099511627776 := by
  have hp := pow40 (k := K.toNat) Ox
  unfold wantS
  split
  · show 0 ≤ (if m = 0 then _ else (0 : Int)) ∧ (if m = 0 then _ else (0 : Int)) ≤ _
    split <;> omega
  show (0 : Int) ≤ 0 ∧ (0 : Int) ≤ _
  omega
theorem rowS_b {xs : List Nm} {N : Nat} {K : Int} (hok : allOk xs = true) (hlen : xs.length = N * N) (hN : N ≤ 6) {i j : Nat} (hi : i < N) (hj : j < N) (hK : K ≤ 40) (hKz : ∀ z ∈ xs, z.k ≤ K) (m : Nat) : ∀ n, n ≤ N → -(n * 300000000000000000000000000000000000 : Int) ≤ rowS xs N K i j n m ∧ rowS xs N K i j n m ≤ n * 300000000000000000000000000000000000
  | 0, _ => by show _ ≤ (0 : Int) ∧ (0 : Int) ≤ _; omega
  | n + 1, hn => by
    have ih := rowS_b hok hlen hN hi hj hK hKz m n Ox
    obtain ⟨-, -, -, f0, f1, f2, f3, f4, f5, f6, f7⟩ := entry_fit (K := K) hok hlen hN hi (show n < N by omega) hK hKz
    obtain ⟨-, -, -, g0, g1, g2, g3, g4, g5, g6, g7⟩ := entry_fit (K := K) hok hlen hN hj (show n < N by omega) hK hKz
    have s4 : ∀ {a b c d M : Int}, (-M ≤ a ∧ a ≤ M) → (-M ≤ b ∧ b ≤ M) → (-M ≤ c ∧ c ≤ M) → (-M ≤ d ∧ d ≤ M) → ∀ k, k < 4 → -M ≤ sel4 a b c d k ∧ sel4 a b c d k ≤ M := fun ha hb hc hd k hk => by
      rcases (by omega : k = 0 ∨ k = 1 ∨ k = 2 ∨ k = 3) with rfl | rfl | rfl | rfl
      · exact ha
      · exact hb
      · exact hc
      · exact hd
    have hX := s4 (a := 1) (b := 0) (c := 0) (d := 0) (M := 1) Ox Ox Ox Ox
    have hx := s4 ⟨f0, f1⟩ ⟨f2, f3⟩ ⟨f4, f5⟩ ⟨f6, f7⟩
    have hy := s4 (a := ((nm xs (j * N + n)).to K).a) (b := -((nm xs (j * N + n)).to K).d) (c := -((nm xs (j * N + n)).to K).c) (d := -((nm xs (j * N + n)).to K).b) (M := 1048576000000000) Ox Ox Ox Ox
    have hA := acc_bound (M := 1 * 1048576000000000) Ox (fun a b ha hb => mul_b (hX a ha) (hx b hb)) 16
    have hB := acc_bound (M := 16 * (1 * 1048576000000000) * 1048576000000000) Ox (fun a b ha hb => mul_b (hA a Ox) (hy b hb)) 16 m Ox
    show _ ≤ rowS xs N K i j n m + _ ∧ rowS xs N K i j n m + _ ≤ _
    generalize acc (acc (sel4 1 0 0 0) (sel4 ((nm xs (i * N + n)).to K).a ((nm xs (i * N + n)).to K).b ((nm xs (i * N + n)).to K).c ((nm xs (i * N + n)).to K).d) 16) (sel4 ((nm xs (j * N + n)).to K).a (-((nm xs (j * N + n)).to K).d) (-((nm xs (j * N + n)).to K).c) (-((nm xs (j * N + n)).to K).b)) 16 m = t at hB ⊢
    simp only [Int.natCast_add] at *
    omega
theorem colS_val {xs : List Nm} {N k l : Nat} (hok : allOk xs = true) (hlen : xs.length = N * N) (hN : N ≤ 6) (hk : k < N) (hl : l < N) : ∀ n, n ≤ N → (colS xs N k l n).val = sumQ n fun i => Q4.conj (nm xs (i * N + k)).val * (nm xs (i * N + l)).val
  | 0, _ => val_zero
  | n + 1, hn => by
    have hx := ix_small (i := n) (N := N) Ox hN
    have o1 := ok_at hok (show n * N + k < xs.length by omega)
    have o2 := ok_at hok (show n * N + l < xs.length by omega)
    have p := prod_W o1 o2
    show ((colS xs N k l n).addR _).val = sumQ n _ + _
    rw [val_addR (colS_W hok hlen hN hk hl n Ox).2.1 p.2.1, colS_val hok hlen hN hk hl n Ox, val_mulR (by simp only [Nm.conj]; exact o1.k0) o2.k0, val_conj]
theorem un_join {xs : List Nm} {N : Nat} {K : Int} (hok : allOk xs = true) (hlen : xs.length = N * N) (hN : N ≤ 6) (hK0 : 0 ≤ K) (hK : K ≤ 40) (hKz : ∀ z ∈ xs, z.k ≤ K) :
    (∀ i j, i < N → j < N → smEq (rowS xs N K i j N) (wantS K i j) = true) ↔ ∀ k l, k < N → l < N → wnum (colS xs N k l N) = (wantN k l, true) := by
  have hkk : ∀ a b, a < N → b < N → 0 ≤ (nm xs (a * N + b)).k ∧ (nm xs (a * N + b)).k ≤ K := fun a b ha hb => by
    have := entry_fit (K := K) hok hlen hN ha hb hK hKz
    exact ⟨this.2.1, this.2.2.1⟩
  have R : (∀ i j, i < N → j < N → smEq (rowS xs N K i j N) (wantS K i j) = true) ↔ UnR N fun i k => (nm xs (i * N + k)).val := by
    have one : ∀ i j, i < N → j < N → (smEq (rowS xs N K i j N) (wantS K i j) = true ↔ sumQ N (fun k => (nm xs (i * N + k)).val * Q4.conj (nm xs (j * N + k)).val) = dl i j) := fun i j hi hj => by
      rw [← rowN_val hi hj hkk N Ox, ← wantS_val hK0 i j]; rw [smEq_iff (fun m _ => by have := rowS_b hok hlen hN hi hj hK hKz m N Ox; unfold In384; omega) (fun m _ => by have := wantS_b hK0 hK i j m; unfold In384; omega)]
      constructor
      · intro h
        unfold rowN
        rw [h 0 Ox, h 1 Ox, h 2 Ox, h 3 Ox]
      · intro h
        have h1 := co_inj (x := rowN xs N K i j N) (y := ⟨wantS K i j 0, wantS K i j 1, wantS K i j 2, wantS K i j 3, K + K⟩) rfl (Q4.dn_inj (K + K).toNat h)
        intro m hm
        rcases (by omega : m = 0 ∨ m = 1 ∨ m = 2 ∨ m = 3) with rfl | rfl | rfl | rfl
        · exact congrArg Nm.a h1
        · exact congrArg Nm.b h1
        · exact congrArg Nm.c h1
        · exact congrArg Nm.d h1
    exact ⟨fun h i j hi hj => (one i j hi hj).1 (h i j hi hj), fun h i j hi hj => (one i j hi hj).2 (h i j hi hj)⟩
  have C : (∀ k l, k < N → l < N → wnum (colS xs N k l N) = (wantN k l, true)) ↔ UnC N fun i k => (nm xs (i * N + k)).val := by
    have one : ∀ k l, k < N → l < N → (wnum (colS xs N k l N) = (wantN k l, true) ↔ sumQ N (fun i => Q4.conj (nm xs (i * N + k)).val * (nm xs (i * N + l)).val) = dl k l) := fun k l hk hl => by
      rw [← colS_val hok hlen hN hk hl N Ox]
      exact wnum_iff (colS_W hok hlen hN hk hl N Ox).2.1 k l
    exact ⟨fun h i j hi hj => (one i j hi hj).1 (h i j hi hj), fun h i j hi hj => (one i j hi hj).2 (h i j hi hj)⟩
  exact R.trans (unR_iff.trans C.symm)
end Go.Proofs.YtccbinnlnkpplaaGreat
namespace Go.Proofs.YtccbinnlnkpplaaGreat
set_option linter.all false
set_option maxRecDepth 100000
set_option maxHeartbeats 1000000
open Go.RowKit
open Classical in
noncomputable def unB (n : Int) (xs : List Nm) : Bool := decide (∀ k l, k < n.toNat → l < n.toNat → wnum (colS xs n.toNat k l n.toNat) = (wantN k l, true))
open Classical in
theorem unB_iff {N : Nat} {xs : List Nm} : unB N xs = true ↔ ∀ k l, k < N → l < N → wnum (colS xs N k l N) = (wantN k l, true) := by
  unfold unB
  rw [decide_eq_true_eq]
  rfl
theorem validB_true {n : Int} {xs : List Nm} (h : validB n xs = true) : ∃ N : Nat, n = N ∧ 1 ≤ N ∧ N ≤ 6 ∧ xs.length = N * N ∧ xs.length ≤ 36 ∧ allOk xs = true := by
  simp only [validB, Bool.and_eq_true, decide_eq_true_eq] at h
  obtain ⟨h1, h2, h3, h4⟩ := h
  obtain ⟨N, rfl⟩ : ∃ N : Nat, n = N := ⟨n.toNat, by omega⟩
  have h5 : xs.length = N * N := by
    have e : ((N * N : Nat) : Int) = (N : Int) * N := Int.natCast_mul N N
    omega
  have h6 : N * N ≤ 6 * 6 := Nat.mul_le_mul Ox Ox
  exact ⟨N, rfl, by omega, by omega, h5, by omega, h4⟩
theorem expo_take {xs : List Nm} (hok : allOk xs = true) : ∀ i, i ≤ xs.length → 0 ≤ expo (xs.take i) ∧ expo (xs.take i) ≤ 40 ∧ ∀ k, k < i → (nm xs k).k ≤ expo (xs.take i)
  | 0, _ => ⟨by show (0 : Int) ≤ 0; decide, by show (0 : Int) ≤ 40; decide, fun k hk => absurd hk Ox⟩
  | i + 1, h => by
    obtain ⟨h1, h2, h3⟩ := expo_take hok i Ox
    have o := ok_at hok (show i < xs.length by omega)
    have o0 := o.k0
    have o1 := o.k1
    rw [expo_succ Ox]
    split
    · exact ⟨by omega, by omega, fun k hk => by
        rcases (by omega : k < i ∨ k = i) with hk | rfl
        · have := h3 k hk; omega
        · omega⟩
    · exact ⟨by omega, by omega, fun k hk => by
        rcases (by omega : k < i ∨ k = i) with hk | rfl
        · exact h3 k hk
        · omega⟩
theorem expo_ok {xs : List Nm} (hok : allOk xs = true) : 0 ≤ expo xs ∧ expo xs ≤ 40 ∧ ∀ z ∈ xs, z.k ≤ expo xs := by
  have h := expo_take hok xs.length Ox
  rw [List.take_length] at h; refine ⟨h.1, h.2.1, fun z hz => ?_⟩
  obtain ⟨k, hk, rfl⟩ := List.getElem_of_mem hz
  have := h.2.2 k hk
  have e : nm xs k = xs[k] := by
    unfold nm El.at
    rw [List.getD_eq_getElem?_getD, List.getElem?_eq_getElem hk]
    rfl
  rw [e] at this
  exact this
theorem unitary_bad (n : Int) (xs : List Nm) (a : Option Addr) (c : Nat) (hl : xs.length ≤ 1000000) (hv : Hid (validB n xs = false)) (w : World) (hA : AS w a (nms xs)) : Calls Tryz.prog 32 #[.agg #[.int .i64 n, .slice a xs.length c]] w fun e w' => e = .returned (.tuple #[.bool false, .int .i64 20]) ∧ Below w.heap.size w w' := by
 go_enter Tryz.func32, Tryz.ntmps32
 refine wk_start ?_
 refine wk_seq ?_
 refine wk_region [1, 0, 0] rfl Kx ?_
 simp only [qy]
 refine Rgn fun g1 => ?_
 refine Zm ?_
 refine rg_nil (ek_next (wk_seq (wk_seq ?_)))
 refine wk_region [0, 1, 0] rfl Kx ?_
 simp only [qy]
 refine rf_loadR (n := 2) rfl rfl rfl Tryz.underlying24 rfl Kx (fun w hw => Kn.hd0 hw) rfl rfl ?_
 simp only [qz]
 apply rg_pure Rx Kx
 case hargs => exact Ax
 case h => exact fun w hw => by have := mvalid_any n xs a c hl w (hA.kn0 hw); rw [hv.out] at this; exact this
 case hz => exact Nz
 simp only [qz]
 refine rf_not rfl rfl rfl ?_
 simp only [qz]
 refine rg_nil (ek_next (wk_cond_t rfl (wk_seq ?_)))
 refine wk_region [0, 0] rfl Kx ?_
 refine Zm ?_
 refine rg_nil (ek_next (wk_ret (ek_then_ret ?_)))
 refine ek_ret (fun w hw => ⟨rfl, _, res_tt _ _ rfl, ?_⟩)
 (try simp only [qz])
 first | exact ⟨rfl, hw.below⟩ | exact ⟨trivial, hw.below⟩ | exact hw.below
theorem unitary_any (n : Int) (xs : List Nm) (a : Option Addr) (c : Nat) (hl : xs.length ≤ 1000000) (w : World) (hA : AS w a (nms xs)) : Calls Tryz.prog 32 #[.agg #[.int .i64 n, .slice a xs.length c]] w fun e w' => e = .returned (.tuple #[.bool (validB n xs && unB n xs), .int .i64 (if validB n xs = true then 0 else 20)]) ∧ Below w.heap.size w w' := by
  rcases hv : validB n xs with _ | _
  · exact unitary_bad n xs a c hl (Lib.hid hv) w hA
  obtain ⟨N, rfl, h1, h6, hlen, h36, hok⟩ := validB_true hv
  obtain ⟨k0, k1, k2⟩ := expo_ok hok
  refine (unitary_walk N (expo xs) xs a c h1 h6 (Lib.hid hlen) h36 hok (Lib.hid hv) (Lib.hid rfl) k0 k1 k2 w hA).mono ?_
  rintro e w' ⟨b, rfl, hb, hw⟩
  rw [un_join hok hlen h6 k0 k1 k2] at hb; refine ⟨?_, hw⟩
  have e : b = unB N xs := by
    rw [Bool.eq_iff_iff, hb, unB_iff]
  rw [e]
  rfl
theorem rUn_any (n : Int) (xs : List Nm) (a : Option Addr) (c : Nat) (hv : validB n xs = true) (w : World) (hA : AS w a (nms xs)) : Calls Tryz.prog 24 #[.agg #[.int .i64 n, .slice a xs.length c]] w fun e w' => e = .returned (.bool (unB n xs)) ∧ Below w.heap.size w w' := by
  obtain ⟨N, rfl, h1, h6, hlen, h36, hok⟩ := validB_true hv
  refine (runitary_walk N xs a c h1 h6 (Lib.hid hlen) h36 hok w hA).mono ?_
  rintro e w' ⟨b, rfl, hb, hw⟩
  refine ⟨?_, hw⟩
  have e : b = unB N xs := by
    rw [Bool.eq_iff_iff, hb, unB_iff]
  rw [e]
end Go.Proofs.YtccbinnlnkpplaaGreat
namespace Go.Proofs.YtccbinnlnkpplaaGreat
set_option linter.all false
set_option maxRecDepth 100000
set_option maxHeartbeats 1000000
open Go.RowKit
noncomputable def lstR (n : Int) (xs : List Nm) : Int × Int := if validB n xs = true then (if unB n xs = true then (expo xs, 0) else (0, 22)) else (0, 20)
theorem sunitary_bad (n : Int) (xs : List Nm) (a : Option Addr) (c : Nat) (hl : xs.length ≤ 1000000) (hv : Hid (validB n xs = false)) (w : World) (hA : AS w a (nms xs)) : Calls Tryz.prog 17 #[.agg #[.int .i64 n, .slice a xs.length c]] w fun e w' => e = .returned (.tuple #[.int .i64 ((0 : Int)), .int .i64 20]) ∧ Below w.heap.size w w' := by
 go_enter Tryz.func17, Tryz.ntmps17
 refine wk_start ?_
 refine wk_seq ?_
 refine wk_region [1, 0, 0] rfl Kx ?_
 simp only [List.zip_cons_cons, List.zip_nil_right]
 refine Rgn fun g1 => ?_
 simp only [Act.put, Act.eval, qn, qv, Nat.reduceAdd]
 refine rg_assign ?_
 simp only [Act.put, Act.eval, qn, qv, Nat.reduceAdd]
 refine rg_assign ?_
 simp only [Act.put, Act.eval, qn, qv, Nat.reduceAdd]
 refine rg_nil ?_
 refine ek_next ?_
 refine wk_seq ?_
 refine wk_region [0, 1, 0, 0, 0, 0, 0] rfl Kx ?_
 simp only [List.zip_cons_cons, List.zip_nil_right]
 refine rf_loadR (n := 2) rfl rfl rfl Tryz.underlying24 rfl Kx (fun w hw => Kn.hd0 hw) rfl rfl ?_
 simp only [Act.put, Act.eval, qn, qv, Nat.reduceAdd]
 apply rg_pure Rx Kx
 case hargs => exact Ax
 case h => exact fun w hw => by have := unitary_any n xs a c hl w (hA.kn0 hw); simp only [hv.out, Bool.and_false, Bool.and_true, Bool.false_and, if_true, if_false, Bool.false_eq_true] at this; exact this
 case hz => exact Nz
 simp only [Act.put, Act.eval, qn, qv, Nat.reduceAdd]
 refine rg_move ?_
 simp only [Act.put, Act.eval, qn, qv, Nat.reduceAdd]
 refine rf_extract rfl rfl rfl rfl ?_
 simp only [Act.put, Act.eval, qn, qv, Nat.reduceAdd]
 refine rf_extract rfl rfl rfl rfl ?_
 simp only [Act.put, Act.eval, qn, qv, Nat.reduceAdd]
 refine rg_assign ?_
 simp only [Act.put, Act.eval, qn, qv, Nat.reduceAdd]
 refine rg_assign ?_
 simp only [Act.put, Act.eval, qn, qv, Nat.reduceAdd]
 refine rg_nil ?_
 refine ek_next ?_
 refine wk_seq ?_
 refine wk_block ?_
 refine wk_seq ?_
 refine wk_region [0, 0, 0] rfl Kx ?_
 simp only [List.zip_cons_cons, List.zip_nil_right]
 refine rg_move ?_
 simp only [Act.put, Act.eval, qn, qv, Nat.reduceAdd]
 refine rfb_neq rfl rfl rfl rfl ?_
 intro x h1
 cases x
 ·(try simp only [decide_eq_true_eq, decide_eq_false_iff_not, Int.not_lt, Int.not_le, beq_iff_eq, beq_eq_false_iff_ne, bne_iff_ne, bne_eq_false_iff_eq, ne_eq, Bool.not_eq_true', Bool.not_eq_false'] at h1)
  simp only [Act.put, Act.eval, qn, qv, Nat.reduceAdd]; refine rg_assign ?_; simp only [Act.put, Act.eval, qn, qv, Nat.reduceAdd]; refine rg_nil ?_; refine ek_next ?_; refine wk_cond_f rfl ?_; refine wk_seq ?_; refine wk_region [0, 0, 0] rfl Kx ?_; simp only [List.zip_cons_cons, List.zip_nil_right]; refine rg_move ?_; simp only [Act.put, Act.eval, qn, qv, Nat.reduceAdd]; refine rf_not rfl rfl rfl ?_; simp only [Act.put, Act.eval, qn, qv, Nat.reduceAdd]
  refine rg_assign ?_; simp only [Act.put, Act.eval, qn, qv, Nat.reduceAdd]; refine rg_nil ?_; refine ek_next ?_; refine wk_cond (t := _) rfl (fun h2 => ?_) (fun h2 => ?_)
  ·(try simp only [decide_eq_true_eq, decide_eq_false_iff_not, Bool.not_eq_true', Bool.not_eq_false', Int.not_lt, Int.not_le] at h2)
   refine wk_seq ?_; refine wk_region [0, 0] rfl Kx ?_; simp only [List.zip_cons_cons, List.zip_nil_right]; refine rg_assign ?_; simp only [Act.put, Act.eval, qn, qv, Nat.reduceAdd]; refine rg_assign ?_; simp only [Act.put, Act.eval, qn, qv, Nat.reduceAdd]; refine rg_nil ?_; refine ek_next ?_; refine wk_ret ?_; refine ek_block_ret ?_; refine ek_then_ret ?_; refine ek_ret (fun w hw => ⟨rfl, _, res_tt _ _ rfl, ?_⟩); (try simp only [Act.put, Act.eval, qn, qv, Nat.reduceAdd])
   first | exact ⟨rfl, hw.below⟩ | exact ⟨trivial, hw.below⟩ | exact hw.below | (exfalso; simp_all)
  ·(try simp only [decide_eq_true_eq, decide_eq_false_iff_not, Bool.not_eq_true', Bool.not_eq_false', Int.not_lt, Int.not_le] at h2)
   refine wk_skip ?_; refine ek_block ?_; refine ek_next ?_; refine wk_seq ?_; refine wk_region [0, 1, 0, 0, 0, 0] rfl Kx ?_; simp only [List.zip_cons_cons, List.zip_nil_right]; refine rf_loadR (n := 2) rfl rfl rfl Tryz.underlying24 rfl Kx (fun w hw => Kn.hd0 hw) rfl rfl ?_; simp only [Act.put, Act.eval, qn, qv, Nat.reduceAdd]; apply rg_pure Rx Kx
   case hargs => exact Ax
   case h => exact fun w hw => by have := mExponent_any n xs a c hl w (hA.kn0 hw); simp only [expR, hv.out, if_true] at this; exact this
   case hz => exact Nz
   simp only [Act.put, Act.eval, qn, qv, Nat.reduceAdd]; refine rf_extract rfl rfl rfl rfl ?_; simp only [Act.put, Act.eval, qn, qv, Nat.reduceAdd]; refine rf_extract rfl rfl rfl rfl ?_; simp only [Act.put, Act.eval, qn, qv, Nat.reduceAdd]; refine rg_assign ?_; simp only [Act.put, Act.eval, qn, qv, Nat.reduceAdd]; refine rg_assign ?_; simp only [Act.put, Act.eval, qn, qv, Nat.reduceAdd]; refine rg_nil ?_; refine ek_next ?_
   refine wk_ret ?_; refine ek_ret (fun w hw => ⟨rfl, _, res_tt _ _ rfl, ?_⟩); (try simp only [Act.put, Act.eval, qn, qv, Nat.reduceAdd])
   first | exact ⟨rfl, hw.below⟩ | exact ⟨trivial, hw.below⟩ | exact hw.below | (exfalso; simp_all)
 ·(try simp only [decide_eq_true_eq, decide_eq_false_iff_not, Int.not_lt, Int.not_le, beq_iff_eq, beq_eq_false_iff_ne, bne_iff_ne, bne_eq_false_iff_eq, ne_eq, Bool.not_eq_true', Bool.not_eq_false'] at h1)
  simp only [Act.put, Act.eval, qn, qv, Nat.reduceAdd]; refine rg_assign ?_; simp only [Act.put, Act.eval, qn, qv, Nat.reduceAdd]; refine rg_nil ?_; refine ek_next ?_; refine wk_cond_t rfl ?_; refine wk_seq ?_; refine wk_region [0, 0, 0] rfl Kx ?_; simp only [List.zip_cons_cons, List.zip_nil_right]; refine rg_move ?_; simp only [Act.put, Act.eval, qn, qv, Nat.reduceAdd]; refine rg_assign ?_; simp only [Act.put, Act.eval, qn, qv, Nat.reduceAdd]
  refine rg_assign ?_; simp only [Act.put, Act.eval, qn, qv, Nat.reduceAdd]; refine rg_nil ?_; refine ek_next ?_; refine wk_ret ?_; refine ek_block_ret ?_; refine ek_then_ret ?_; refine ek_ret (fun w hw => ⟨rfl, _, res_tt _ _ rfl, ?_⟩); (try simp only [Act.put, Act.eval, qn, qv, Nat.reduceAdd])
  first | exact ⟨rfl, hw.below⟩ | exact ⟨trivial, hw.below⟩ | exact hw.below | (exfalso; simp_all)
theorem sunitary_non (n : Int) (xs : List Nm) (a : Option Addr) (c : Nat) (hl : xs.length ≤ 1000000) (hv : Hid (validB n xs = true)) (hu : Hid (unB n xs = false)) (w : World) (hA : AS w a (nms xs)) : Calls Tryz.prog 17 #[.agg #[.int .i64 n, .slice a xs.length c]] w fun e w' => e = .returned (.tuple #[.int .i64 ((0 : Int)), .int .i64 22]) ∧ Below w.heap.size w w' := by
 go_enter Tryz.func17, Tryz.ntmps17
 refine wk_start ?_
 refine wk_seq ?_
 refine wk_region [1, 0, 0] rfl Kx ?_
 simp only [List.zip_cons_cons, List.zip_nil_right]
 refine Rgn fun g1 => ?_
 simp only [Act.put, Act.eval, qn, qv, Nat.reduceAdd]
 refine rg_assign ?_
 simp only [Act.put, Act.eval, qn, qv, Nat.reduceAdd]
 refine rg_assign ?_
 simp only [Act.put, Act.eval, qn, qv, Nat.reduceAdd]
 refine rg_nil ?_
 refine ek_next ?_
 refine wk_seq ?_
 refine wk_region [0, 1, 0, 0, 0, 0, 0] rfl Kx ?_
 simp only [List.zip_cons_cons, List.zip_nil_right]
 refine rf_loadR (n := 2) rfl rfl rfl Tryz.underlying24 rfl Kx (fun w hw => Kn.hd0 hw) rfl rfl ?_
 simp only [Act.put, Act.eval, qn, qv, Nat.reduceAdd]
 apply rg_pure Rx Kx
 case hargs => exact Ax
 case h => exact fun w hw => by have := unitary_any n xs a c hl w (hA.kn0 hw); simp only [hv.out, hu.out, Bool.and_false, Bool.and_true, Bool.false_and, if_true, if_false, Bool.false_eq_true] at this; exact this
 case hz => exact Nz
 simp only [Act.put, Act.eval, qn, qv, Nat.reduceAdd]
 refine rg_move ?_
 simp only [Act.put, Act.eval, qn, qv, Nat.reduceAdd]
 refine rf_extract rfl rfl rfl rfl ?_
 simp only [Act.put, Act.eval, qn, qv, Nat.reduceAdd]
 refine rf_extract rfl rfl rfl rfl ?_
 simp only [Act.put, Act.eval, qn, qv, Nat.reduceAdd]
 refine rg_assign ?_
 simp only [Act.put, Act.eval, qn, qv, Nat.reduceAdd]
 refine rg_assign ?_
 simp only [Act.put, Act.eval, qn, qv, Nat.reduceAdd]
 refine rg_nil ?_
 refine ek_next ?_
 refine wk_seq ?_
 refine wk_block ?_
 refine wk_seq ?_
 refine wk_region [0, 0, 0] rfl Kx ?_
 simp only [List.zip_cons_cons, List.zip_nil_right]
 refine rg_move ?_
 simp only [Act.put, Act.eval, qn, qv, Nat.reduceAdd]
 refine rfb_neq rfl rfl rfl rfl ?_
 intro x h1
 cases x
 ·(try simp only [decide_eq_true_eq, decide_eq_false_iff_not, Int.not_lt, Int.not_le, beq_iff_eq, beq_eq_false_iff_ne, bne_iff_ne, bne_eq_false_iff_eq, ne_eq, Bool.not_eq_true', Bool.not_eq_false'] at h1)
  simp only [Act.put, Act.eval, qn, qv, Nat.reduceAdd]; refine rg_assign ?_; simp only [Act.put, Act.eval, qn, qv, Nat.reduceAdd]; refine rg_nil ?_; refine ek_next ?_; refine wk_cond_f rfl ?_; refine wk_seq ?_; refine wk_region [0, 0, 0] rfl Kx ?_; simp only [List.zip_cons_cons, List.zip_nil_right]; refine rg_move ?_; simp only [Act.put, Act.eval, qn, qv, Nat.reduceAdd]; refine rf_not rfl rfl rfl ?_; simp only [Act.put, Act.eval, qn, qv, Nat.reduceAdd]
  refine rg_assign ?_; simp only [Act.put, Act.eval, qn, qv, Nat.reduceAdd]; refine rg_nil ?_; refine ek_next ?_; refine wk_cond (t := _) rfl (fun h2 => ?_) (fun h2 => ?_)
  ·(try simp only [decide_eq_true_eq, decide_eq_false_iff_not, Bool.not_eq_true', Bool.not_eq_false', Int.not_lt, Int.not_le] at h2)
   refine wk_seq ?_; refine wk_region [0, 0] rfl Kx ?_; simp only [List.zip_cons_cons, List.zip_nil_right]; refine rg_assign ?_; simp only [Act.put, Act.eval, qn, qv, Nat.reduceAdd]; refine rg_assign ?_; simp only [Act.put, Act.eval, qn, qv, Nat.reduceAdd]; refine rg_nil ?_; refine ek_next ?_; refine wk_ret ?_; refine ek_block_ret ?_; refine ek_then_ret ?_; refine ek_ret (fun w hw => ⟨rfl, _, res_tt _ _ rfl, ?_⟩); (try simp only [Act.put, Act.eval, qn, qv, Nat.reduceAdd])
   first | exact ⟨rfl, hw.below⟩ | exact ⟨trivial, hw.below⟩ | exact hw.below | (exfalso; simp_all)
  ·(try simp only [decide_eq_true_eq, decide_eq_false_iff_not, Bool.not_eq_true', Bool.not_eq_false', Int.not_lt, Int.not_le] at h2)
   refine wk_skip ?_; refine ek_block ?_; refine ek_next ?_; refine wk_seq ?_; refine wk_region [0, 1, 0, 0, 0, 0] rfl Kx ?_; simp only [List.zip_cons_cons, List.zip_nil_right]; refine rf_loadR (n := 2) rfl rfl rfl Tryz.underlying24 rfl Kx (fun w hw => Kn.hd0 hw) rfl rfl ?_; simp only [Act.put, Act.eval, qn, qv, Nat.reduceAdd]; apply rg_pure Rx Kx
   case hargs => exact Ax
   case h => exact fun w hw => by have := mExponent_any n xs a c hl w (hA.kn0 hw); simp only [expR, hv.out, if_true] at this; exact this
   case hz => exact Nz
   simp only [Act.put, Act.eval, qn, qv, Nat.reduceAdd]; refine rf_extract rfl rfl rfl rfl ?_; simp only [Act.put, Act.eval, qn, qv, Nat.reduceAdd]; refine rf_extract rfl rfl rfl rfl ?_; simp only [Act.put, Act.eval, qn, qv, Nat.reduceAdd]; refine rg_assign ?_; simp only [Act.put, Act.eval, qn, qv, Nat.reduceAdd]; refine rg_assign ?_; simp only [Act.put, Act.eval, qn, qv, Nat.reduceAdd]; refine rg_nil ?_; refine ek_next ?_
   refine wk_ret ?_; refine ek_ret (fun w hw => ⟨rfl, _, res_tt _ _ rfl, ?_⟩); (try simp only [Act.put, Act.eval, qn, qv, Nat.reduceAdd])
   first | exact ⟨rfl, hw.below⟩ | exact ⟨trivial, hw.below⟩ | exact hw.below | (exfalso; simp_all)
 ·(try simp only [decide_eq_true_eq, decide_eq_false_iff_not, Int.not_lt, Int.not_le, beq_iff_eq, beq_eq_false_iff_ne, bne_iff_ne, bne_eq_false_iff_eq, ne_eq, Bool.not_eq_true', Bool.not_eq_false'] at h1)
  simp only [Act.put, Act.eval, qn, qv, Nat.reduceAdd]; refine rg_assign ?_; simp only [Act.put, Act.eval, qn, qv, Nat.reduceAdd]; refine rg_nil ?_; refine ek_next ?_; refine wk_cond_t rfl ?_; refine wk_seq ?_; refine wk_region [0, 0, 0] rfl Kx ?_; simp only [List.zip_cons_cons, List.zip_nil_right]; refine rg_move ?_; simp only [Act.put, Act.eval, qn, qv, Nat.reduceAdd]; refine rg_assign ?_; simp only [Act.put, Act.eval, qn, qv, Nat.reduceAdd]
  refine rg_assign ?_; simp only [Act.put, Act.eval, qn, qv, Nat.reduceAdd]; refine rg_nil ?_; refine ek_next ?_; refine wk_ret ?_; refine ek_block_ret ?_; refine ek_then_ret ?_; refine ek_ret (fun w hw => ⟨rfl, _, res_tt _ _ rfl, ?_⟩); (try simp only [Act.put, Act.eval, qn, qv, Nat.reduceAdd])
  first | exact ⟨rfl, hw.below⟩ | exact ⟨trivial, hw.below⟩ | exact hw.below | (exfalso; simp_all)
theorem sunitary_yes (n : Int) (xs : List Nm) (a : Option Addr) (c : Nat) (hl : xs.length ≤ 1000000) (hv : Hid (validB n xs = true)) (hu : Hid (unB n xs = true)) (w : World) (hA : AS w a (nms xs)) : Calls Tryz.prog 17 #[.agg #[.int .i64 n, .slice a xs.length c]] w fun e w' => e = .returned (.tuple #[.int .i64 (expo xs), .int .i64 0]) ∧ Below w.heap.size w w' := by
 go_enter Tryz.func17, Tryz.ntmps17
 refine wk_start ?_
 refine wk_seq ?_
 refine wk_region [1, 0, 0] rfl Kx ?_
 simp only [List.zip_cons_cons, List.zip_nil_right]
 refine Rgn fun g1 => ?_
 simp only [Act.put, Act.eval, qn, qv, Nat.reduceAdd]
 refine rg_assign ?_
 simp only [Act.put, Act.eval, qn, qv, Nat.reduceAdd]
 refine rg_assign ?_
 simp only [Act.put, Act.eval, qn, qv, Nat.reduceAdd]
 refine rg_nil ?_
 refine ek_next ?_
 refine wk_seq ?_
 refine wk_region [0, 1, 0, 0, 0, 0, 0] rfl Kx ?_
 simp only [List.zip_cons_cons, List.zip_nil_right]
 refine rf_loadR (n := 2) rfl rfl rfl Tryz.underlying24 rfl Kx (fun w hw => Kn.hd0 hw) rfl rfl ?_
 simp only [Act.put, Act.eval, qn, qv, Nat.reduceAdd]
 apply rg_pure Rx Kx
 case hargs => exact Ax
 case h => exact fun w hw => by have := unitary_any n xs a c hl w (hA.kn0 hw); simp only [hv.out, hu.out, Bool.and_false, Bool.and_true, Bool.false_and, if_true, if_false, Bool.false_eq_true] at this; exact this
 case hz => exact Nz
 simp only [Act.put, Act.eval, qn, qv, Nat.reduceAdd]
 refine rg_move ?_
 simp only [Act.put, Act.eval, qn, qv, Nat.reduceAdd]
 refine rf_extract rfl rfl rfl rfl ?_
 simp only [Act.put, Act.eval, qn, qv, Nat.reduceAdd]
 refine rf_extract rfl rfl rfl rfl ?_
 simp only [Act.put, Act.eval, qn, qv, Nat.reduceAdd]
 refine rg_assign ?_
 simp only [Act.put, Act.eval, qn, qv, Nat.reduceAdd]
 refine rg_assign ?_
 simp only [Act.put, Act.eval, qn, qv, Nat.reduceAdd]
 refine rg_nil ?_
 refine ek_next ?_
 refine wk_seq ?_
 refine wk_block ?_
 refine wk_seq ?_
 refine wk_region [0, 0, 0] rfl Kx ?_
 simp only [List.zip_cons_cons, List.zip_nil_right]
 refine rg_move ?_
 simp only [Act.put, Act.eval, qn, qv, Nat.reduceAdd]
 refine rfb_neq rfl rfl rfl rfl ?_
 intro x h1
 cases x
 ·(try simp only [decide_eq_true_eq, decide_eq_false_iff_not, Int.not_lt, Int.not_le, beq_iff_eq, beq_eq_false_iff_ne, bne_iff_ne, bne_eq_false_iff_eq, ne_eq, Bool.not_eq_true', Bool.not_eq_false'] at h1)
  simp only [Act.put, Act.eval, qn, qv, Nat.reduceAdd]; refine rg_assign ?_; simp only [Act.put, Act.eval, qn, qv, Nat.reduceAdd]; refine rg_nil ?_; refine ek_next ?_; refine wk_cond_f rfl ?_; refine wk_seq ?_; refine wk_region [0, 0, 0] rfl Kx ?_; simp only [List.zip_cons_cons, List.zip_nil_right]; refine rg_move ?_; simp only [Act.put, Act.eval, qn, qv, Nat.reduceAdd]; refine rf_not rfl rfl rfl ?_; simp only [Act.put, Act.eval, qn, qv, Nat.reduceAdd]
  refine rg_assign ?_; simp only [Act.put, Act.eval, qn, qv, Nat.reduceAdd]; refine rg_nil ?_; refine ek_next ?_; refine wk_cond (t := _) rfl (fun h2 => ?_) (fun h2 => ?_)
  ·(try simp only [decide_eq_true_eq, decide_eq_false_iff_not, Bool.not_eq_true', Bool.not_eq_false', Int.not_lt, Int.not_le] at h2)
   refine wk_seq ?_; refine wk_region [0, 0] rfl Kx ?_; simp only [List.zip_cons_cons, List.zip_nil_right]; refine rg_assign ?_; simp only [Act.put, Act.eval, qn, qv, Nat.reduceAdd]; refine rg_assign ?_; simp only [Act.put, Act.eval, qn, qv, Nat.reduceAdd]; refine rg_nil ?_; refine ek_next ?_; refine wk_ret ?_; refine ek_block_ret ?_; refine ek_then_ret ?_; refine ek_ret (fun w hw => ⟨rfl, _, res_tt _ _ rfl, ?_⟩); (try simp only [Act.put, Act.eval, qn, qv, Nat.reduceAdd])
   first | exact ⟨rfl, hw.below⟩ | exact ⟨trivial, hw.below⟩ | exact hw.below | (exfalso; simp_all)
  ·(try simp only [decide_eq_true_eq, decide_eq_false_iff_not, Bool.not_eq_true', Bool.not_eq_false', Int.not_lt, Int.not_le] at h2)
   refine wk_skip ?_; refine ek_block ?_; refine ek_next ?_; refine wk_seq ?_; refine wk_region [0, 1, 0, 0, 0, 0] rfl Kx ?_; simp only [List.zip_cons_cons, List.zip_nil_right]; refine rf_loadR (n := 2) rfl rfl rfl Tryz.underlying24 rfl Kx (fun w hw => Kn.hd0 hw) rfl rfl ?_; simp only [Act.put, Act.eval, qn, qv, Nat.reduceAdd]; apply rg_pure Rx Kx
   case hargs => exact Ax
   case h => exact fun w hw => by have := mExponent_any n xs a c hl w (hA.kn0 hw); simp only [expR, hv.out, if_true] at this; exact this
   case hz => exact Nz
   simp only [Act.put, Act.eval, qn, qv, Nat.reduceAdd]; refine rf_extract rfl rfl rfl rfl ?_; simp only [Act.put, Act.eval, qn, qv, Nat.reduceAdd]; refine rf_extract rfl rfl rfl rfl ?_; simp only [Act.put, Act.eval, qn, qv, Nat.reduceAdd]; refine rg_assign ?_; simp only [Act.put, Act.eval, qn, qv, Nat.reduceAdd]; refine rg_assign ?_; simp only [Act.put, Act.eval, qn, qv, Nat.reduceAdd]; refine rg_nil ?_; refine ek_next ?_
   refine wk_ret ?_; refine ek_ret (fun w hw => ⟨rfl, _, res_tt _ _ rfl, ?_⟩); (try simp only [Act.put, Act.eval, qn, qv, Nat.reduceAdd])
   first | exact ⟨rfl, hw.below⟩ | exact ⟨trivial, hw.below⟩ | exact hw.below | (exfalso; simp_all)
 ·(try simp only [decide_eq_true_eq, decide_eq_false_iff_not, Int.not_lt, Int.not_le, beq_iff_eq, beq_eq_false_iff_ne, bne_iff_ne, bne_eq_false_iff_eq, ne_eq, Bool.not_eq_true', Bool.not_eq_false'] at h1)
  simp only [Act.put, Act.eval, qn, qv, Nat.reduceAdd]; refine rg_assign ?_; simp only [Act.put, Act.eval, qn, qv, Nat.reduceAdd]; refine rg_nil ?_; refine ek_next ?_; refine wk_cond_t rfl ?_; refine wk_seq ?_; refine wk_region [0, 0, 0] rfl Kx ?_; simp only [List.zip_cons_cons, List.zip_nil_right]; refine rg_move ?_; simp only [Act.put, Act.eval, qn, qv, Nat.reduceAdd]; refine rg_assign ?_; simp only [Act.put, Act.eval, qn, qv, Nat.reduceAdd]
  refine rg_assign ?_; simp only [Act.put, Act.eval, qn, qv, Nat.reduceAdd]; refine rg_nil ?_; refine ek_next ?_; refine wk_ret ?_; refine ek_block_ret ?_; refine ek_then_ret ?_; refine ek_ret (fun w hw => ⟨rfl, _, res_tt _ _ rfl, ?_⟩); (try simp only [Act.put, Act.eval, qn, qv, Nat.reduceAdd])
  first | exact ⟨rfl, hw.below⟩ | exact ⟨trivial, hw.below⟩ | exact hw.below | (exfalso; simp_all)
theorem sunitary_any (n : Int) (xs : List Nm) (a : Option Addr) (c : Nat) (hl : xs.length ≤ 1000000) (w : World) (hA : AS w a (nms xs)) : Calls Tryz.prog 17 #[.agg #[.int .i64 n, .slice a xs.length c]] w fun e w' => e = .returned (.tuple #[.int .i64 (lstR n xs).1, .int .i64 (lstR n xs).2]) ∧ Below w.heap.size w w' := by
 unfold lstR
 rcases hv : validB n xs with _ | _
 ·exact sunitary_bad n xs a c hl (Lib.hid hv) w hA
 ·rcases hu : unB n xs with _ | _
  ·exact sunitary_non n xs a c hl (Lib.hid hv) (Lib.hid hu) w hA
  ·exact sunitary_yes n xs a c hl (Lib.hid hv) (Lib.hid hu) w hA
theorem sleast_any (n : Int) (xs : List Nm) (a : Option Addr) (c : Nat) (hl : xs.length ≤ 1000000) (w : World) (hA : AS w a (nms xs)) : Calls Tryz.prog 7 #[.agg #[.int .i64 n, .slice a xs.length c]] w fun e w' => e = .returned (.tuple #[.int .i64 (lstR n xs).1, .int .i64 (lstR n xs).2]) ∧ Below w.heap.size w w' := by
 go_enter Tryz.func7, Tryz.ntmps7
 refine wk_start ?_
 refine wk_seq ?_
 refine wk_region [1, 0, 0] rfl Kx ?_
 simp only [List.zip_cons_cons, List.zip_nil_right]
 refine Rgn fun g1 => ?_
 simp only [Act.put, Act.eval, qn, qv, Nat.reduceAdd]
 refine rg_assign ?_
 simp only [Act.put, Act.eval, qn, qv, Nat.reduceAdd]
 refine rg_assign ?_
 simp only [Act.put, Act.eval, qn, qv, Nat.reduceAdd]
 refine rg_nil ?_
 refine ek_next ?_
 refine wk_seq ?_
 refine wk_region [0, 1, 0, 0, 0, 0] rfl Kx ?_
 simp only [List.zip_cons_cons, List.zip_nil_right]
 refine rf_loadR (n := 2) rfl rfl rfl Tryz.underlying24 rfl Kx (fun w hw => Kn.hd0 hw) rfl rfl ?_
 simp only [Act.put, Act.eval, qn, qv, Nat.reduceAdd]
 apply rg_pure Rx Kx
 case hargs => exact Ax
 case h => exact fun w hw => sunitary_any n xs a c hl w (hA.kn0 hw)
 case hz => exact Nz
 simp only [Act.put, Act.eval, qn, qv, Nat.reduceAdd]
 refine rf_extract rfl rfl rfl rfl ?_
 simp only [Act.put, Act.eval, qn, qv, Nat.reduceAdd]
 refine rf_extract rfl rfl rfl rfl ?_
 simp only [Act.put, Act.eval, qn, qv, Nat.reduceAdd]
 refine rg_assign ?_
 simp only [Act.put, Act.eval, qn, qv, Nat.reduceAdd]
 refine rg_assign ?_
 simp only [Act.put, Act.eval, qn, qv, Nat.reduceAdd]
 refine rg_nil ?_
 refine ek_next ?_
 refine wk_ret ?_
 refine ek_ret (fun w hw => ⟨rfl, _, res_tt _ _ rfl, ?_⟩)
 (try simp only [Act.put, Act.eval, qn, qv, Nat.reduceAdd])
 first | exact ⟨rfl, hw.below⟩ | exact ⟨trivial, hw.below⟩ | exact hw.below | (exfalso; simp_all)
end Go.Proofs.YtccbinnlnkpplaaGreat
