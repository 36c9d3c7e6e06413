/- Amplitudes: powers. -/
import Derived.Test.YtccbinnlnkpplaaSq
import Derived.Test.YtccbinnlnkpplaaAm6
namespace Go.Proofs.Ytccbinnlnkpplaa
set_option linter.all false
open Go.RowKit

set_option maxRecDepth 100000 in
set_option maxHeartbeats 1000000 in
theorem amPower_ok (z : Nm) (hz : z.Ok) (w : World) : Calls Try.prog 69 #[nmV z] w fun e w' => e = .returned (numV z.power) ∧ Below w.heap.size w w' := by
  go_enter Try.func69, Try.ntmps69
  refine wk_start ?_
  refine wk_seq ?_
  refine wk_region [1, 1, 0] rfl Kx ?_
  simp only [qy]
  refine Rgn fun g1 => ?_
  simp only [qz]
  refine Rgn fun g2 => ?_
  simp only [qz]
  refine rg_assign ?_
  simp only [qz]
  refine rg_nil (ek_next (wk_seq (wk_seq ?_)))
  refine wk_region [0, 1, 0] rfl Kx ?_
  simp only [qy]
  refine rf_loadR (n := 5) rfl rfl rfl Try.underlying45 rfl Kx (fun w hw => Kn.hd0 (Kn.tl hw)) rfl rfl ?_
  simp only [qz]
  apply rg_pure Rx Kx
  case hargs => exact Ax
  case h => exact fun w hw => by have := amvalid_any z w; rw [okB_yes hz] at this; exact this
  case hz => exact Nz
  simp only [qz]
  refine rf_not rfl rfl rfl ?_
  simp only [qz]
  refine rg_nil (ek_next (wk_cond_f rfl (wk_skip (ek_next (wk_seq ?_)))))
  refine wk_draws_m (hz1 := (sk _ (sc _ sn))) [(0, 0), (1, 0), (2, 1), (3, 1), (4, 1), (5, 0), (6, 0), (7, 2), (8, 0)] 7 Kx Kx (fun c d v a w h => by cases d <;> exact h) ?_
  simp only [List.map_cons, List.map_nil, List.getD_cons_zero, List.getD_cons_succ]
  refine rf_loadR (n := 5) rfl rfl rfl Try.underlying45 rfl Kx (fun w hw => Kn.hd0 (Kn.tl hw)) rfl rfl ?_
  simp only [qz]
  refine rf_loadR (n := 5) rfl rfl rfl Try.underlying45 rfl Kx (fun w hw => Kn.hd0 (Kn.tl hw)) rfl rfl ?_
  simp only [qz]
  apply rg_pure Rx Kx
  case hargs => exact Ax
  case h => exact fun w hw => amconj_any z (Nm.fit_mono hz.fit Ox) w
  case hz => exact (fun _ h => by cases h; exact (sc _ (sc _ sn)))
  simp only [qz]
  apply rg_pure Rx Kx
  case hargs => exact Ax
  case h => exact fun w hw => ammul_any z z.conj hz (conj_ok hz) w
  case hz => exact (fun _ h => by cases h; exact (sc _ (sc _ sn)))
  simp only [qz]
  apply rg_num Rx Kx
  case hargs => exact Ax
  case h => exact fun w hw => result_any (z.mulR z.conj) (mulR_fit hz.fit (conj_ok hz).fit) (by have := hz.k1; simp only [Nm.mulR, Nm.conj]; omega) w
  case hz => exact (fun _ h => by cases h; exact (sc _ (sc _ sn)))
  case hc => exact (fun c h => mk_err h)
  · intro hr1
    simp only [qz]
    refine rf_extract rfl rfl rfl rfl ?_
    simp only [qz]
    refine rf_extract rfl rfl rfl rfl ?_
    simp only [qz]
    refine rf_storeRM (n := 5) rfl rfl Kx rfl rfl (UpdR.here _ _ _ Nl) (sk _ (sc _ sn)) ?_
    simp only [qz, Nat.reduceAdd]
    refine rg_assign ?_
    simp only [qz]
    refine rg_nil (ek_next (wk_ret ?_))
    refine ek_ret (fun w hw => ⟨rfl, _, run_results2 rfl rfl (Kn.hd0 hw) Try.underlying45 rfl Kx, ?_⟩)
    (try simp only [qz])
    exact ⟨by rw [show z.power = _ from hr1]; rfl, hw.below⟩
  intro z1 hr1
  simp only [qz]
  refine rf_extract rfl rfl rfl rfl ?_
  simp only [qz]
  refine rf_extract rfl rfl rfl rfl ?_
  simp only [qz]
  refine rf_storeRM (n := 5) rfl rfl Kx rfl rfl (UpdR.here _ _ _ Nl) (sk _ (sc _ sn)) ?_
  simp only [qz, Nat.reduceAdd]
  refine rg_assign ?_
  simp only [qz]
  refine rg_nil (ek_next (wk_ret ?_))
  refine ek_ret (fun w hw => ⟨rfl, _, run_results2 rfl rfl (Kn.hd0 hw) Try.underlying45 rfl Kx, ?_⟩)
  (try simp only [qz])
  exact ⟨by rw [show z.power = _ from hr1]; rfl, hw.below⟩

end Go.Proofs.Ytccbinnlnkpplaa
