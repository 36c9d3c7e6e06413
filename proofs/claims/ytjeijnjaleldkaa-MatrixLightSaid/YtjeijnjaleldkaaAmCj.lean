/- Amplitudes: conjugates. -/
import Derived.Test.YtjeijnjaleldkaaSq
import Derived.Test.YtjeijnjaleldkaaAm6
namespace Go.Proofs.Ytjeijnjaleldkaa
set_option linter.all false
open Go.RowKit

set_option maxRecDepth 100000 in
set_option maxHeartbeats 1000000 in
theorem amConj_ok (z : Nm) (hz : z.Ok) (w : World) : Calls Try.prog 78 #[nmV z] w fun e w' => e = .returned (.tuple #[nmV z.conj, .int .i64 0]) ∧ Below w.heap.size w w' := by
  go_enter Try.func78, Try.ntmps78
  refine wk_start ?_
  refine wk_seq ?_
  refine wk_region [1, 1, 0] rfl Kx ?_
  simp only [qy]
  refine Rgn fun g1 => ?_
  simp only [qz]
  refine Rgn fun g2 => ?_
  simp only [qz]
  refine rg_assign ?_
  simp only [qz]
  refine rg_nil (ek_next (wk_seq ?_))
  refine wk_region [0, 1, 0, 0, 1, 0] rfl Kx ?_
  simp only [qy]
  refine rf_loadR (n := 5) rfl rfl rfl Try.underlying29 rfl Kx (fun w hw => Kn.hd0 (Kn.tl hw)) rfl rfl ?_
  simp only [qz]
  apply rg_pure Rx Kx
  case hargs => exact Ax
  case h => exact fun w hw => amchanged_ok z z.conj hz 123 #[] Kx w (fun w' _ => amconj_any z (Nm.fit_mono hz.fit Ox) w')
  case hz => exact Nz
  simp only [qz]
  refine rf_extract rfl rfl rfl rfl ?_
  simp only [qz]
  refine rf_extract rfl rfl rfl rfl ?_
  simp only [qz]
  refine rf_storeR (n := 5) rfl rfl Kx rfl rfl (UpdR.here _ _ _ Nl) Nz ?_
  simp only [qz, Nat.reduceAdd]
  refine rg_assign ?_
  simp only [qz]
  refine rg_nil (ek_next (wk_ret ?_))
  refine ek_ret (fun w hw => ⟨rfl, _, run_results2 rfl rfl (Kn.hd0 hw) Try.underlying29 rfl Kx, ?_⟩)
  (try simp only [qz])
  first | exact ⟨rfl, hw.below⟩ | exact ⟨trivial, hw.below⟩ | exact hw.below

end Go.Proofs.Ytjeijnjaleldkaa
